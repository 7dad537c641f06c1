/- Walks and plain laws of this seat's functions, part 14: Z1 Z2 Z3 Z4 Z5 Z6 Z7. -/
import Derived.Test.YtcfejobdgiiihaaGreatDoorJ13
set_option linter.unusedVariables false
set_option linter.unusedSimpArgs false
namespace Go.Proofs.YtcfejobdgiiihaaGreatDoor
open Go.RowKit

/-! ### lists in lists, zonotopes -/

def bsl {α : Type} (t : Nat) (d : Rd α) : Rd (List α) := (Rd.slice t d).iso id (fun l => l.length ≤ 17592186044416)
theorem bsl_at {α : Type} {te t : Nat} {d : Rd α} {w : World} {base : Nat} {A : Option Addr} {gs : List (List α)} (h : (bsl te d).Row t w base A gs) {i : Nat} (hi : i < gs.length) :
    ∃ (a : Addr) (B : Option Addr) (l : List α) (c : Nat), A = some a ∧ w.cell? (a.add i) = some (.slice B l.length c) ∧ Hid (gs.getD i [] = l) ∧ l.length ≤ c ∧ l.length ≤ 17592186044416 ∧ d.Row te w base B l := by
  obtain ⟨a, cs, ha, _, _, ⟨⟨B, c, hcs, hc, hr⟩, hl⟩, hcell⟩ := h i gs[i] (by simp [hi])
  subst hcs
  have := hcell 0 _ rfl
  simp only [bsl, Rd.iso, Rd.slice, Nat.mul_one, Nat.add_zero, id_eq] at this
  exact ⟨a, B, gs[i], c, ha, this, by simp [Hid, hi], hc, hl, hr⟩
def i64 : Rd Int := Rd.scalar (fun x => .int .i64 x) (fun x => -9223372036854775808 ≤ x ∧ x ≤ 9223372036854775807) (fun _ => rfl)
theorem i64at {t : Nat} {w : World} {base : Nat} {A : Option Addr} {xs : List Int} (h : i64.Row t w base A xs) {i : Nat} (hi : i < xs.length) :
    ∃ (a : Addr) (x : Int), A = some a ∧ w.cell? (a.add i) = some (.int .i64 x) ∧ (-9223372036854775808 ≤ x ∧ x ≤ 9223372036854775807) ∧ Hid (xs.getD i 0 = x) := by
  obtain ⟨a, x, h1, h2, h3, h4⟩ := Rd.Row.get h hi
  exact ⟨a, x, h1, h2, h3, by have := h4.out; simp [Hid, this]⟩
structure Zn where
  N : Int
  C : List Nat
  Ids : List Int
  G : List (List Nat)
  R : List Nat
  bad : Bool
/-- the rows of a zonotope -/
structure ZRows (tf ti ts : Nat) (d : Rd Nat) (w : World) (base : Nat) (z : Zn) (AC AI AG AR : Option Addr) : Prop where
  C : d.Row tf w base AC z.C
  I : i64.Row ti w base AI z.Ids
  G : (bsl tf d).Row ts w base AG z.G
  R : d.Row tf w base AR z.R
theorem ZRows.keep {tf ti ts : Nat} {d : Rd Nat} {w w' : World} {base : Nat} {z : Zn} {AC AI AG AR : Option Addr} {E : List Nat} (h : ZRows tf ti ts d w base z AC AI AG AR) (hd : d.E = [])
    (hk : Keeps base E w w') (h1 : tf ∈ E) (h2 : ti ∈ E) (h3 : ts ∈ E) : ZRows tf ti ts d w' base z AC AI AG AR :=
  ⟨h.C.keep hk h1 (by rw [hd]; simp), h.I.keep hk h2 (by simp [i64, Rd.scalar]), h.G.keep hk h3 (by intro q hq; simp [bsl, Rd.iso, Rd.slice, hd] at hq; subst hq; exact h1), h.R.keep hk h1 (by rw [hd]; simp)⟩
structure ZLens (z : Zn) (cC cI cG cR : Nat) : Prop where
  n : -9223372036854775808 ≤ z.N ∧ z.N ≤ 9223372036854775807
  c : z.C.length ≤ cC ∧ z.C.length ≤ 17592186044416
  i : z.Ids.length ≤ cI ∧ z.Ids.length ≤ 17592186044416
  g : z.G.length ≤ cG ∧ z.G.length ≤ 5864062014805
  r : z.R.length ≤ cR ∧ z.R.length ≤ 17592186044416
def znG (tf ti ts : Nat) (d : Rd Nat) (hd : d.E = []) : Rd Zn where
  sz := 6
  E := [tf, ti, ts]
  R w base z cs := ∃ (AC AI AG AR : Option Addr) (cC cI cG cR : Nat), cs = [.int .i64 z.N, .slice AC z.C.length cC, .slice AI z.Ids.length cI, .slice AG z.G.length cG, .slice AR z.R.length cR, .bool z.bad] ∧
    ZRows tf ti ts d w base z AC AI AG AR ∧ ZLens z cC cI cG cR
  len h := by obtain ⟨_, _, _, _, _, _, _, _, rfl, _⟩ := h; rfl
  one h u hu := by
    obtain ⟨_, _, _, _, _, _, _, _, rfl, _⟩ := h
    simp at hu
    rcases hu with rfl | rfl | rfl | rfl | rfl | rfl <;> rfl
  keep h hk := by
    obtain ⟨_, _, _, _, _, _, _, _, rfl, h1, h2⟩ := h
    exact ⟨_, _, _, _, _, _, _, _, rfl, h1.keep hd hk (by simp) (by simp) (by simp), h2⟩
/-- the program's zonotope -/
def zRd : Rd Zn := znG 47 3 22 f64 rfl

def idOk (z : Zn) (k : Nat) : Bool :=
  decide (0 ≤ z.Ids.getD k 0) && decide (z.Ids.getD k 0 ≤ 1073741824) && (decide (k = 0) || decide (z.Ids.getD (k - 1) 0 < z.Ids.getD k 0)) && rowB (z.G.getD k []) z.N
def goodB (z : Zn) : Bool :=
  decide (1 ≤ z.N) && decide (z.N ≤ 256) && rowB z.C z.N && rowB z.R z.N && decide (z.Ids.length = z.G.length) && z.R.all (fun u => decide (0 ≤ fv u)) && (List.range z.Ids.length).all (idOk z)
theorem range_all_step {p : Nat → Bool} {k : Nat} (h : (List.range k).all p = true) (hp : p k = true) : (List.range (k + 1)).all p = true := by
  rw [List.range_succ, List.all_append, h]; simp [hp]
theorem range_all_false {p : Nat → Bool} {n k : Nat} (hk : k < n) (hp : p k = false) : (List.range n).all p = false := by
  rw [Bool.eq_false_iff]
  intro h
  rw [List.all_eq_true] at h
  have := h k (List.mem_range.2 hk)
  rw [hp] at this; cases this
theorem fin_zero : fin 0 = true := by decide
theorem fv_zero : fv 0 = 0 := by
  have h1 : fman 0 = 0 := by decide
  rw [fv_eq, h1, Nat.zero_mul, sg_zero]
theorem order_neg {u : Nat} (hu : u < 18446744073709551616) (hf : fin u = true) : (FloatKind.f64.format.order u 0 == some .lt) = decide (fv u < 0) := by
  show (Ieee.double.order u 0 == some .lt) = _
  rw [order_fin hu (by decide) hf fin_zero, fv_zero]
  rw [Bool.eq_iff_iff, decide_eq_true_eq]
  constructor
  · intro h
    have : compare (fv u) 0 = .lt := by simpa using h
    exact Int.compare_eq_lt.1 this
  · intro h
    rw [Int.compare_eq_lt.2 h]; rfl
theorem abox {w : World} (cs : List Value) (t : Nat) : Blk (w.alloc (.cells cs.toArray t)) w.heap.size t cs := Blk.new w cs.toArray t

set_option maxHeartbeats 2000000 in
set_option maxRecDepth 100000 in
theorem zgood_n (z : Zn) (cs : List Value) (w : World) (base : Nat) (h : zRd.R w base z cs) (hb : z.bad = false) (hn : z.N < 1 ∨ 256 < z.N) :
    Calls Tryz.prog 96 #[.agg cs.toArray] w fun e w' => e = .returned (.bool false) ∧ Below w.heap.size w w' := by
  obtain ⟨AC, AI, AG, AR, cC, cI, cG, cR, rfl, hr, hl⟩ := h
  obtain ⟨N, C, Ids, G, R, bad⟩ := z
  simp only at hb hn ⊢
  subst hb
  clear hr hl
  by_cases h1 : N < 1
  · clear hn
    go_enter Tryz.func96, Tryz.ntmps96
    go_wp2
    go_ret
    exact ⟨rfl, below_new (Below.refl _ _) _⟩
  · have h2 : 256 < N := by omega
    clear hn
    go_enter Tryz.func96, Tryz.ntmps96
    go_wp2
    go_ret
    exact ⟨rfl, below_new (Below.refl _ _) _⟩
end Go.Proofs.YtcfejobdgiiihaaGreatDoor

namespace Go.Proofs.YtcfejobdgiiihaaGreatDoor
open Go.RowKit

set_option maxHeartbeats 4000000 in
set_option maxRecDepth 100000 in
theorem zgood_head (z : Zn) (cs : List Value) (w : World) (base : Nat) (h : zRd.R w base z cs) (hb : z.bad = false) (hn1 : 1 ≤ z.N) (hn2 : z.N ≤ 256) (hbad : (rowB z.C z.N && rowB z.R z.N && decide (z.Ids.length = z.G.length)) = false) :
    Calls Tryz.prog 96 #[.agg cs.toArray] w fun e w' => e = .returned (.bool false) ∧ Below w.heap.size w w' := by
  obtain ⟨AC, AI, AG, AR, cC, cI, cG, cR, rfl, hr, hl⟩ := h
  obtain ⟨N, C, Ids, G, R, bad⟩ := z
  simp only at hb hn1 hn2 hbad ⊢
  subst hb
  have hd1 : decide (N < 1) = false := by simp; omega
  have hd2 : decide (256 < N) = false := by simp; omega
  have hW := below_new (Below.refl w.heap.size w) (.cells #[.int .i64 N, .slice AC C.length cC, .slice AI Ids.length cI, .slice AG G.length cG, .slice AR R.length cR, .bool false] 42)
  obtain ⟨rC, hrC⟩ : ∃ b, rowB C N = b := ⟨_, rfl⟩
  obtain ⟨rR, hrR⟩ : ∃ b, rowB R N = b := ⟨_, rfl⟩
  have HC := zrow_calls AC C.length cC 47 base N C _ rfl (hr.C.below hW) hl.c.2
  have HR := zrow_calls AR R.length cR 47 base N R _ rfl (hr.R.below hW) hl.r.2
  rw [hrC] at HC hbad
  rw [hrR] at HR hbad
  replace HC := Lib.hid HC
  replace HR := Lib.hid HR
  have HW := Lib.hid hW
  have h1 : Ids.length ≤ 17592186044416 := hl.i.2
  have h2 : G.length ≤ 17592186044416 := Nat.le_trans hl.g.2 (by decide)
  clear hr hl hrC hrR hW
  cases rC
  · clear hbad
    go_enter Tryz.func96, Tryz.ntmps96
    go_wp2_with fail
    refine HC.out.mono ?_
    rintro e w' ⟨rfl, rfl⟩
    go_wp2
    go_ret
    exact ⟨rfl, HW.out⟩
  · cases rR
    · clear hbad
      go_enter Tryz.func96, Tryz.ntmps96
      go_wp2_with fail
      refine HC.out.mono ?_
      rintro e w' ⟨rfl, rfl⟩
      go_wp2_with fail
      refine HR.out.mono ?_
      rintro e w' ⟨rfl, rfl⟩
      go_wp2
      go_ret
      exact ⟨rfl, HW.out⟩
    · have hne : ((Ids.length : Int) == (G.length : Int)) = false := by have h : Ids.length ≠ G.length := (by simpa using hbad); simp; omega
      have hne2 : ((Ids.length : Int) != (G.length : Int)) = true := by have h : Ids.length ≠ G.length := (by simpa using hbad); simp; omega
      clear hbad
      go_enter Tryz.func96, Tryz.ntmps96
      go_wp2_with fail
      refine HC.out.mono ?_
      rintro e w' ⟨rfl, rfl⟩
      go_wp2_with fail
      refine HR.out.mono ?_
      rintro e w' ⟨rfl, rfl⟩
      go_wp2
      go_ret
      exact ⟨rfl, HW.out⟩
theorem all_take_step' {α : Type} {p : α → Bool} {xs : List α} {k : Nat} (hk : k < xs.length) : (xs.take (k + 1)).all p = ((xs.take k).all p && p xs[k]) := by
  rw [List.take_succ_eq_append_getElem hk, List.all_append]; simp
set_option maxHeartbeats 4000000 in
set_option maxRecDepth 100000 in
theorem zgood_tail (z : Zn) (cs : List Value) (w : World) (base : Nat) (h : zRd.R w base z cs) (hb : z.bad = false) (hn1 : 1 ≤ z.N) (hn2 : z.N ≤ 256) (hC : rowB z.C z.N = true) (hR : rowB z.R z.N = true) (hL : z.Ids.length = z.G.length) :
    Calls Tryz.prog 96 #[.agg cs.toArray] w fun e w' => e = .returned (.bool (z.R.all (fun u => decide (0 ≤ fv u)) && (List.range z.Ids.length).all (idOk z))) ∧ Below w.heap.size w w' := by
  obtain ⟨AC, AI, AG, AR, cC, cI, cG, cR, rfl, hr, hl⟩ := h
  have HZ : Hid (∀ k, idOk z k = (decide (0 ≤ z.Ids.getD k 0) && decide (z.Ids.getD k 0 ≤ 1073741824) && (decide (k = 0) || decide (z.Ids.getD (k - 1) 0 < z.Ids.getD k 0)) && rowB (z.G.getD k []) z.N)) := fun _ => rfl
  obtain ⟨okf, hok⟩ : ∃ f, f = idOk z := ⟨_, rfl⟩
  rw [← hok] at HZ ⊢
  clear hok
  obtain ⟨N, C, Ids, G, R, bad⟩ := z
  simp only at hb hn1 hn2 hC hR hL HZ ⊢
  subst hb
  have hd1 : decide (N < 1) = false := by simp; omega
  have hd2 : decide (256 < N) = false := by simp; omega
  have hW := below_new (Below.refl w.heap.size w) (.cells #[.int .i64 N, .slice AC C.length cC, .slice AI Ids.length cI, .slice AG G.length cG, .slice AR R.length cR, .bool false] 42)
  have HC := zrow_calls AC C.length cC 47 base N C _ rfl (hr.C.below hW) hl.c.2
  have HR := zrow_calls AR R.length cR 47 base N R _ rfl (hr.R.below hW) hl.r.2
  rw [hC] at HC
  rw [hR] at HR
  replace HC := Lib.hid HC
  replace HR := Lib.hid HR
  have HROW := Lib.hid (fun W (hW : Below w.heap.size w W) => (show f64.Row 47 W base AR R from hr.R.below hW))
  have HIDS := Lib.hid (fun W (hW : Below w.heap.size w W) => (show i64.Row 3 W base AI Ids from hr.I.below hW))
  have HG := Lib.hid (fun W (hW : Below w.heap.size w W) => (show (bsl 47 f64).Row 22 W base AG G from hr.G.below hW))
  have HRF : Hid (R.all fin = true) := by
    unfold rowB at hR; rw [Bool.and_eq_true] at hR; exact hR.1
  have HW := Lib.hid hW
  have HBX := Lib.hid (Blk.new w #[.int .i64 N, .slice AC C.length cC, .slice AI Ids.length cI, .slice AG G.length cG, .slice AR R.length cR, .bool false] 42)
  have h1 : Ids.length ≤ 17592186044416 := hl.i.2
  have h2 : G.length ≤ 17592186044416 := Nat.le_trans hl.g.2 (by decide)
  have h3 : R.length ≤ 17592186044416 := hl.r.2
  have hne : ((Ids.length : Int) == (G.length : Int)) = true := by simp; omega
  have hne2 : ((Ids.length : Int) != (G.length : Int)) = false := by simp; omega
  have HL := Lib.hid hL
  clear hr hl hC hR hW hL
  go_enter Tryz.func96, Tryz.ntmps96
  go_wp2_with fail
  refine HC.out.mono ?_
  rintro e w' ⟨rfl, rfl⟩
  go_wp2_with fail
  refine HR.out.mono ?_
  rintro e w' ⟨rfl, rfl⟩
  go_wp2
  clear hne hne2
  obtain ⟨wo, hwo⟩ : ∃ wo : World, wo = (w.alloc (.cells #[.int .i64 N, .slice AC C.length cC, .slice AI Ids.length cI, .slice AG G.length cG, .slice AR R.length cR, .bool false] 42)) := ⟨_, rfl⟩
  rw [← hwo] at HW HBX
  simp only [← hwo]
  clear hwo HC HR hd1 hd2
  go_loop [4, 47] (fun _ i => ∃ k : Nat, k ≤ R.length ∧ i = .int .i64 k ∧ Hid ((R.take k).all (fun u => decide (0 ≤ fv u)) = true)) (fun _ i => R.length - (intOf i).toNat)
  case atStart => exact ⟨0, by omega, rfl, rfl⟩
  case round =>
    obtain ⟨k, hk, rfl, hall⟩ := hrel
    by_cases hlt : k < R.length
    · obtain ⟨a, x, rfl, hcx, hxb, hxe⟩ := f64at (HROW.out wo HW.out) hlt
      have hfx : fin x = true := by
        have := HRF.out
        rw [List.all_eq_true] at this
        exact this x (by rw [← hxe.out, List.getD_eq_getElem?_getD, List.getElem?_eq_getElem hlt, Option.getD_some]; exact List.getElem_mem hlt)
      have hord := order_neg hxb hfx
      have hi1 : (k : Int) < (R.length : Int) := by omega
      obtain ⟨r, hr⟩ : ∃ r, decide (fv x < 0) = r := ⟨_, rfl⟩
      rw [hr] at hord
      have HR := Lib.hid hr
      clear hr hfx
      cases r
      · go_wp2
        go_round
        case rel => exact ⟨k + 1, by omega, by go_num, by rw [Hid, all_take_step hlt hxe.out, hall.out, decide_eq_true (show 0 ≤ fv x by have := of_decide_eq_false HR.out; omega)]; rfl⟩
        case measure => simp [intOf]; omega
      · go_wp2
        go_ret
        have : R.all (fun u => decide (0 ≤ fv u)) = false := all_take_false hlt hxe.out (decide_eq_false (by have := of_decide_eq_true HR.out; omega))
        exact ⟨by rw [this]; rfl, HW.out⟩
    · obtain rfl : k = R.length := by omega
      have hall2 : Hid (R.all (fun u => decide (0 ≤ fv u)) = true) := by have := hall.out; rw [List.take_length] at this; exact this
      clear hall hlt
      have c2 : wo.cell? ⟨w.heap.size, 2, none⟩ = some (.slice AI Ids.length cI) := HBX.out.cell 2
      go_wp2
      clear c2
      go_loopw [5, 6, 57] (fun _ _ i wr => ∃ k : Nat, k ≤ Ids.length ∧ i = .int .i64 k ∧ Hid ((List.range k).all okf = true) ∧ Hid (Blk wr w.heap.size 42 [.int .i64 N, .slice AC C.length cC, .slice AI Ids.length cI, .slice AG G.length cG, .slice AR R.length cR, .bool false]) ∧ Hid (Below w.heap.size w wr)) (fun _ _ i _ => Ids.length - (intOf i).toNat)
      case atStart => exact ⟨0, by omega, rfl, rfl, HBX.out, HW.out⟩
      case round =>
        obtain ⟨k, hk, rfl, hall, hB, hW⟩ := hrel
        by_cases hlt : k < Ids.length
        · obtain ⟨a, x, rfl, hcx, hxb, hxe⟩ := i64at (HIDS.out wr hW.out) hlt
          obtain ⟨b, B, l, c, rfl, hcg, hge, hlc, hlC, hrow⟩ := bsl_at (HG.out wr hW.out) (i := k) (by have := HL.out; omega)
          have c0 : wr.cell? ⟨w.heap.size, 0, none⟩ = some (.int .i64 N) := hB.out.cell 0
          have c2 : wr.cell? ⟨w.heap.size, 2, none⟩ = some (.slice (some a) Ids.length cI) := hB.out.cell 2
          have c3 : wr.cell? ⟨w.heap.size, 3, none⟩ = some (.slice (some b) G.length cG) := hB.out.cell 3
          obtain ⟨rr, hrr⟩ : ∃ r, rowB l N = r := ⟨_, rfl⟩
          have HRW := Lib.hid (fun q => zrow_calls B l.length c 47 base N l (wr.drewN q) rfl hrow hlC)
          have hkg : k < G.length := by have := HL.out; omega
          rw [hrr] at HRW
          have HRR := Lib.hid hrr
          have hi1 : (k : Int) < (Ids.length : Int) := by omega
          have hi2 : (k : Int) < (G.length : Int) := by omega
          have hi3 : (0 : Int) ≤ (k : Int) := by omega
          clear hrow hrr
          by_cases hx1 : x < 0
          · have e1 : decide (x < 0) = true := by simpa using hx1
            have HF : Hid ((List.range Ids.length).all okf = false) := range_all_false hlt (by rw [HZ.out, hxe.out, decide_eq_false (by omega)]; rfl)
            clear hx1
            go_wp2
            go_quiet (fail)
            go_wp2
            go_ret
            exact ⟨by rw [hall2.out, HF.out]; rfl, below_drewN hW.out _⟩
          · have e1 : decide (x < 0) = false := by simpa using hx1
            by_cases hx2 : 1073741824 < x
            · have e2 : decide (1073741824 < x) = true := by simpa using hx2
              have HF : Hid ((List.range Ids.length).all okf = false) := range_all_false hlt (by rw [HZ.out, hxe.out, decide_eq_true (show 0 ≤ x by omega), decide_eq_false (show ¬ x ≤ 1073741824 by omega)]; rfl)
              clear hx1 hx2
              go_wp2
              go_quiet (fail)
              go_wp2
              go_ret
              exact ⟨by rw [hall2.out, HF.out]; rfl, below_drewN hW.out _⟩
            · have e2 : decide (1073741824 < x) = false := by simpa using hx2
              by_cases hk0 : k = 0
              · have e3 : decide ((0 : Int) < (k : Int)) = false := by simp; omega
                have e3' : decide (0 < k) = false := by simp; omega
                have HK := Lib.hid hk0
                clear hk0
                cases rr
                · have HF : Hid ((List.range Ids.length).all okf = false) := range_all_false hlt (by rw [HZ.out, hge.out, HRR.out]; simp)
                  clear hx1 hx2
                  go_wp2
                  go_quiet ((go_at_call 110; exact Calls.quiet_of_same ((HRW.out _).mono (fun _ _ h => ⟨h.1, h.2.symm⟩))))
                  go_wp2
                  go_ret
                  exact ⟨by rw [hall2.out, HF.out]; rfl, below_drewN hW.out _⟩
                · have HT : Hid ((List.range (k + 1)).all okf = true) := range_all_step hall.out (by rw [HZ.out, hxe.out, hge.out, HRR.out, decide_eq_true (show 0 ≤ x by omega), decide_eq_true (show x ≤ 1073741824 by omega), decide_eq_true HK.out]; rfl)
                  clear hx1 hx2
                  go_wp2
                  go_quiet ((go_at_call 110; exact Calls.quiet_of_same ((HRW.out _).mono (fun _ _ h => ⟨h.1, h.2.symm⟩))))
                  go_wp2
                  go_roundw
                  case rel => exact ⟨k + 1, by omega, by go_num, HT.out, hB.out, below_drewN hW.out _⟩
                  case measure => simp [intOf]; omega
              · have e3 : decide ((0 : Int) < (k : Int)) = true := by simp; omega
                have e3' : decide (0 < k) = true := by simp; omega
                obtain ⟨a', y, ha', hcy, hyb, hye⟩ := i64at (HIDS.out wr hW.out) (i := k - 1) (by omega)
                cases ha'
                have e4 : IntKind.i64.wrap ((k : Int) - 1) = (k : Int) - 1 := IntWalk.i64_in _ (by omega)
                have e5 : ((k : Int) - 1).toNat = k - 1 := by omega
                have e6 : (0 : Int) ≤ (k : Int) - 1 := by omega
                have e7 : (k : Int) - 1 < (Ids.length : Int) := by omega
                have HK := Lib.hid hk0
                clear hk0
                by_cases hxy : x ≤ y
                · have e8 : decide (x ≤ y) = true := by simpa using hxy
                  have HF : Hid ((List.range Ids.length).all okf = false) := range_all_false hlt (by rw [HZ.out, hxe.out, hye.out, decide_eq_false HK.out, decide_eq_false (show ¬ y < x by omega)]; simp)
                  clear hx1 hx2 hxy
                  go_wp2
                  go_quiet (fail)
                  clear e4 e5 e6 e7
                  go_wp2
                  go_ret
                  exact ⟨by rw [hall2.out, HF.out]; rfl, below_drewN hW.out _⟩
                · have e8 : decide (x ≤ y) = false := by simpa using hxy
                  cases rr
                  · have HF : Hid ((List.range Ids.length).all okf = false) := range_all_false hlt (by rw [HZ.out, hge.out, HRR.out]; simp)
                    clear hx1 hx2 hxy
                    go_wp2
                    go_quiet ((go_at_call 110; exact Calls.quiet_of_same ((HRW.out _).mono (fun _ _ h => ⟨h.1, h.2.symm⟩))))
                    clear e4 e5 e6 e7
                    go_wp2
                    go_ret
                    exact ⟨by rw [hall2.out, HF.out]; rfl, below_drewN hW.out _⟩
                  · have HT : Hid ((List.range (k + 1)).all okf = true) := range_all_step hall.out (by rw [HZ.out, hxe.out, hye.out, hge.out, HRR.out, decide_eq_true (show 0 ≤ x by omega), decide_eq_true (show x ≤ 1073741824 by omega), decide_eq_true (show y < x by omega)]; simp)
                    clear hx1 hx2 hxy
                    go_wp2
                    go_quiet ((go_at_call 110; exact Calls.quiet_of_same ((HRW.out _).mono (fun _ _ h => ⟨h.1, h.2.symm⟩))))
                    clear e4 e5 e6 e7
                    go_wp2
                    go_roundw
                    case rel => exact ⟨k + 1, by omega, by go_num, HT.out, hB.out, below_drewN hW.out _⟩
                    case measure => simp [intOf]; omega
        · obtain rfl : k = Ids.length := by omega
          go_wp2
          go_ret
          exact ⟨by rw [hall2.out, hall.out]; rfl, hW.out⟩
end Go.Proofs.YtcfejobdgiiihaaGreatDoor

namespace Go.Proofs.YtcfejobdgiiihaaGreatDoor
open Go.RowKit

theorem zgood_calls (z : Zn) (cs : List Value) (w : World) (base : Nat) (h : zRd.R w base z cs) (hb : z.bad = false) :
    Calls Tryz.prog 96 #[.agg cs.toArray] w fun e w' => e = .returned (.bool (goodB z)) ∧ Below w.heap.size w w' := by
  unfold goodB
  by_cases h1 : 1 ≤ z.N
  · by_cases h2 : z.N ≤ 256
    · rw [decide_eq_true h1, decide_eq_true h2, Bool.true_and, Bool.true_and]
      by_cases h3 : (rowB z.C z.N && rowB z.R z.N && decide (z.Ids.length = z.G.length)) = true
      · rw [h3, Bool.true_and]
        simp only [Bool.and_eq_true, decide_eq_true_eq] at h3
        exact zgood_tail z cs w base h hb h1 h2 h3.1.1 h3.1.2 h3.2
      · have h3' : (rowB z.C z.N && rowB z.R z.N && decide (z.Ids.length = z.G.length)) = false := by simpa using h3
        rw [h3']
        exact zgood_head z cs w base h hb h1 h2 h3'
    · rw [decide_eq_false h2]
      simp only [Bool.and_false, Bool.false_and]
      exact zgood_n z cs w base h hb (.inr (by omega))
  · rw [decide_eq_false h1]
    simp only [Bool.false_and]
    exact zgood_n z cs w base h hb (.inl (by omega))
set_option maxHeartbeats 1000000 in
set_option maxRecDepth 100000 in
theorem zlost_calls (z : Zn) (cs : List Value) (w : World) (base : Nat) (h : zRd.R w base z cs) (hb : z.bad = false) :
    Calls Tryz.prog 97 #[.agg cs.toArray] w fun e w' => e = .returned (.bool false) ∧ Below w.heap.size w w' := by
  obtain ⟨AC, AI, AG, AR, cC, cI, cG, cR, rfl, hr, hl⟩ := h
  obtain ⟨N, C, Ids, G, R, bad⟩ := z
  simp only at hb ⊢
  subst hb
  clear hr hl
  go_enter Tryz.func97, Tryz.ntmps97
  go_wp2
  go_ret
  exact ⟨rfl, below_new (Below.refl _ _) _⟩
set_option maxHeartbeats 1000000 in
set_option maxRecDepth 100000 in
theorem zcheck_calls (z : Zn) (cs : List Value) (w : World) (base : Nat) (h : zRd.R w base z cs) (hb : z.bad = false) :
    Calls Tryz.prog 78 #[.agg cs.toArray] w fun e w' => e = .returned (.int .i64 (if goodB z then 0 else 100)) ∧ Below w.heap.size w w' := by
  have HZ := Lib.hid h
  obtain ⟨AC, AI, AG, AR, cC, cI, cG, cR, rfl, hr, hl⟩ := h
  obtain ⟨N, C, Ids, G, R, bad⟩ := z
  simp only at hb ⊢
  subst hb
  have hW := below_new (Below.refl w.heap.size w) (.cells #[.int .i64 N, .slice AC C.length cC, .slice AI Ids.length cI, .slice AG G.length cG, .slice AR R.length cR, .bool false] 42)
  obtain ⟨g, hg⟩ : ∃ g, goodB ⟨N, C, Ids, G, R, false⟩ = g := ⟨_, rfl⟩
  have HG := Lib.hid (fun W (hW : Below w.heap.size w W) => zgood_calls ⟨N, C, Ids, G, R, false⟩ _ W base (zRd.below HZ.out hW) rfl)
  have HLO := Lib.hid (fun W (hW : Below w.heap.size w W) => zlost_calls ⟨N, C, Ids, G, R, false⟩ _ W base (zRd.below HZ.out hW) rfl)
  rw [hg] at HG ⊢
  have HW := Lib.hid hW
  clear hr hl hW hg
  cases g
  · go_enter Tryz.func78, Tryz.ntmps78
    go_wp2_with fail
    refine (HG.out _ HW.out).mono ?_
    rintro e w2 ⟨rfl, hW2⟩
    have HW2 := Lib.hid (below_next HW.out hW2)
    have HB := Lib.hid (Blk.below' (Blk.new w #[.int .i64 N, .slice AC C.length cC, .slice AI Ids.length cI, .slice AG G.length cG, .slice AR R.length cR, .bool false] 42) hW2)
    have c0 : w2.cell? ⟨w.heap.size, 0, none⟩ = some (.int .i64 N) := HB.out.cell 0
    have c1 : w2.cell? ⟨w.heap.size, 1, none⟩ = some (.slice AC C.length cC) := HB.out.cell 1
    have c2 : w2.cell? ⟨w.heap.size, 2, none⟩ = some (.slice AI Ids.length cI) := HB.out.cell 2
    have c3 : w2.cell? ⟨w.heap.size, 3, none⟩ = some (.slice AG G.length cG) := HB.out.cell 3
    have c4 : w2.cell? ⟨w.heap.size, 4, none⟩ = some (.slice AR R.length cR) := HB.out.cell 4
    have c5 : w2.cell? ⟨w.heap.size, 5, none⟩ = some (.bool false) := HB.out.cell 5
    clear hW2
    go_wp2_with fail
    refine (HLO.out _ HW2.out).mono ?_
    rintro e w3 ⟨rfl, hW3⟩
    have HW3 := Lib.hid (below_next HW2.out hW3)
    clear hW3
    go_wp2
    go_ret
    exact ⟨rfl, HW3.out⟩
  · go_enter Tryz.func78, Tryz.ntmps78
    go_wp2_with fail
    refine (HG.out _ HW.out).mono ?_
    rintro e w2 ⟨rfl, hW2⟩
    have HW2 := Lib.hid (below_next HW.out hW2)
    clear hW2
    go_wp2
    go_ret
    exact ⟨rfl, HW2.out⟩
def fitsB (z : Zn) (a : List Nat) : Bool := !z.bad && goodB z && decide ((a.length : Int) = z.N + 1) && a.all fin
set_option maxHeartbeats 2000000 in
set_option maxRecDepth 100000 in
theorem fits_calls (z : Zn) (cs : List Value) (A : Option Addr) (a : List Nat) (n c : Nat) (w : World) (base : Nat) (h : zRd.R w base z cs) (hn : a.length = n) (ha : f64.Row 47 w base A a) (hal : a.length ≤ 17592186044416) :
    Calls Tryz.prog 45 #[.agg cs.toArray, .slice A n c] w fun e w' => e = .returned (.bool (fitsB z a)) ∧ Below w.heap.size w w' := by
  subst hn
  have HZ := Lib.hid h
  have HA := Lib.hid ha
  obtain ⟨AC, AI, AG, AR, cC, cI, cG, cR, rfl, hr, hl⟩ := h
  obtain ⟨N, C, Ids, G, R, bad⟩ := z
  have hN := hl.n
  have HF : Hid (fitsB ⟨N, C, Ids, G, R, bad⟩ a = (!bad && goodB ⟨N, C, Ids, G, R, bad⟩ && decide ((a.length : Int) = N + 1) && a.all fin)) := rfl
  simp only at hN
  clear hr hl ha
  cases bad
  · obtain ⟨g, hg⟩ : ∃ g, goodB ⟨N, C, Ids, G, R, false⟩ = g := ⟨_, rfl⟩
    have HC := Lib.hid (fun W (hW : Below w.heap.size w W) => zcheck_calls ⟨N, C, Ids, G, R, false⟩ _ W base (zRd.below HZ.out hW) rfl)
    rw [hg] at HC HF
    have HGN : Hid (g = true → 1 ≤ N ∧ N ≤ 256) := by
      intro h
      rw [← hg] at h
      unfold goodB at h
      simp only [Bool.and_eq_true, decide_eq_true_eq] at h
      exact ⟨h.1.1.1.1.1.1, h.1.1.1.1.1.2⟩
    have HW := Lib.hid (below_new (Below.refl w.heap.size w) (.cells #[.int .i64 N, .slice AC C.length cC, .slice AI Ids.length cI, .slice AG G.length cG, .slice AR R.length cR, .bool false] 42))
    clear hg
    cases g
    · go_enter Tryz.func45, Tryz.ntmps45
      go_wp2_with fail
      refine (HC.out _ HW.out).mono ?_
      rintro e w2 ⟨rfl, hW2⟩
      have HW2 := Lib.hid (below_next HW.out hW2)
      clear hW2
      go_wp2
      go_ret
      exact ⟨by rw [HF.out]; rfl, HW2.out⟩
    · obtain ⟨hn1, hn2⟩ := HGN.out rfl
      obtain ⟨al, hal2⟩ : ∃ al, a.all fin = al := ⟨_, rfl⟩
      have HNM := Lib.hid (fun W (hW : Below w.heap.size w W) => mnumbers_calls A a.length c 47 base a W rfl (show f64.Row 47 W base A a from (show f64.Row 47 w base A a from HA.out).below hW) hal)
      rw [hal2] at HNM HF
      clear hal2
      by_cases hlen : (a.length : Int) = N + 1
      · have hd : ((a.length : Int) == N + 1) = true := by simpa using hlen
        have HF' : Hid (fitsB ⟨N, C, Ids, G, R, false⟩ a = al) := by rw [Hid, HF.out, decide_eq_true hlen]; simp
        clear hlen
        go_enter Tryz.func45, Tryz.ntmps45
        go_wp2_with fail
        refine (HC.out _ HW.out).mono ?_
        rintro e w2 ⟨rfl, hW2⟩
        have HW2 := Lib.hid (below_next HW.out hW2)
        have HB := Lib.hid (Blk.below' (Blk.new w #[.int .i64 N, .slice AC C.length cC, .slice AI Ids.length cI, .slice AG G.length cG, .slice AR R.length cR, .bool false] 42) hW2)
        have c0 : w2.cell? ⟨w.heap.size, 0, none⟩ = some (.int .i64 N) := HB.out.cell 0
        clear hW2
        go_wp2_with fail
        refine (HNM.out _ HW2.out).mono ?_
        rintro e w3 ⟨rfl, rfl⟩
        cases al
        · go_wp2
          go_ret
          exact ⟨by rw [HF'.out]; rfl, HW2.out⟩
        · go_wp2
          go_ret
          exact ⟨by rw [HF'.out]; rfl, HW2.out⟩
      · have hd : ((a.length : Int) == N + 1) = false := by simpa using hlen
        have HF' : Hid (fitsB ⟨N, C, Ids, G, R, false⟩ a = false) := by rw [Hid, HF.out, decide_eq_false hlen]; simp
        clear hlen
        go_enter Tryz.func45, Tryz.ntmps45
        go_wp2_with fail
        refine (HC.out _ HW.out).mono ?_
        rintro e w2 ⟨rfl, hW2⟩
        have HW2 := Lib.hid (below_next HW.out hW2)
        have HB := Lib.hid (Blk.below' (Blk.new w #[.int .i64 N, .slice AC C.length cC, .slice AI Ids.length cI, .slice AG G.length cG, .slice AR R.length cR, .bool false] 42) hW2)
        have c0 : w2.cell? ⟨w.heap.size, 0, none⟩ = some (.int .i64 N) := HB.out.cell 0
        clear hW2
        go_wp2
        go_ret
        exact ⟨by rw [HF'.out]; rfl, HW2.out⟩
  · have HF' : Hid (fitsB ⟨N, C, Ids, G, R, true⟩ a = false) := by rw [Hid, HF.out]; rfl
    go_enter Tryz.func45, Tryz.ntmps45
    go_wp2
    go_ret
    exact ⟨by rw [HF'.out]; rfl, below_new (Below.refl _ _) _⟩
end Go.Proofs.YtcfejobdgiiihaaGreatDoor

namespace Go.Proofs.YtcfejobdgiiihaaGreatDoor
open Go.RowKit

/-! ### the exact sums, in parts of 2^-2148 -/
def dotS (a l : List Nat) : Nat → Int
  | 0 => 0
  | n + 1 => dotS a l n + fv (a.getD n 0) * fv (l.getD n 0)
def colsS (a : List Nat) (G : List (List Nat)) (n : Nat) : Nat → Int
  | 0 => 0
  | k + 1 => colsS a G n k + ((dotS a (G.getD k []) n).natAbs : Int)
def boxS (a R : List Nat) : Nat → Int
  | 0 => 0
  | i + 1 => boxS a R i + ((fv (a.getD i 0)).natAbs : Int) * fv (R.getD i 0)
def leastV (z : Zn) (a : List Nat) : Int :=
  dotS a z.C z.N.toNat + fv (a.getD z.N.toNat 0) * (2 ^ 1074 : Nat) - colsS a z.G z.N.toNat z.Ids.length - boxS a z.R z.N.toNat
def marginS (z : Zn) (a : List Nat) : Option Nat := if fitsB z a then rdown 2148 (leastV z a) else none

/-! how great they may be -/
def F2 : Nat := fMax * fMax
theorem natAbs_mul_le {x y : Int} {M : Nat} (hx : x.natAbs ≤ M) (hy : y.natAbs ≤ M) : (x * y).natAbs ≤ M * M := by
  rw [Int.natAbs_mul]; exact Nat.mul_le_mul hx hy
theorem all_getD {p : Nat → Bool} {xs : List Nat} (h : xs.all p = true) {i : Nat} (hi : i < xs.length) : p (xs.getD i 0) = true := by
  rw [List.all_eq_true] at h
  exact h _ (by rw [List.getD_eq_getElem?_getD, List.getElem?_eq_getElem hi, Option.getD_some]; exact List.getElem_mem hi)
theorem dotS_bd {a l : List Nat} (ha : a.all fin = true) (hl : l.all fin = true) : ∀ n, n ≤ a.length → n ≤ l.length → (dotS a l n).natAbs ≤ n * F2
  | 0, _, _ => by simp [dotS]
  | n + 1, h1, h2 => by
    have ih := dotS_bd ha hl n (by omega) (by omega)
    have := natAbs_mul_le (fv_le_max (all_getD ha (show n < _ by omega))) (fv_le_max (all_getD hl (show n < _ by omega)))
    rw [dotS, Nat.add_mul, Nat.one_mul]
    have h3 := Int.natAbs_add_le (dotS a l n) (fv (a.getD n 0) * fv (l.getD n 0))
    unfold F2 at *
    omega
theorem colsS_bd {a : List Nat} {G : List (List Nat)} {n : Nat} (ha : a.all fin = true) (hn : n ≤ a.length) : ∀ k, k ≤ G.length → (∀ j, j < k → (G.getD j []).all fin = true ∧ n ≤ (G.getD j []).length) → 0 ≤ colsS a G n k ∧ (colsS a G n k).natAbs ≤ k * (n * F2)
  | 0, _, _ => by simp [colsS]
  | k + 1, h1, h2 => by
    obtain ⟨i1, i2⟩ := colsS_bd ha hn k (by omega) (fun j hj => h2 j (by omega))
    obtain ⟨h3, h4⟩ := h2 k (by omega)
    have := dotS_bd ha h3 n hn h4
    rw [colsS, Nat.add_mul, Nat.one_mul]
    generalize n * F2 = M at *
    generalize k * M = K at *
    omega
theorem boxS_bd {a R : List Nat} (ha : a.all fin = true) (hR : R.all fin = true) : ∀ i, i ≤ a.length → i ≤ R.length → (boxS a R i).natAbs ≤ i * F2
  | 0, _, _ => by simp [boxS]
  | i + 1, h1, h2 => by
    have ih := boxS_bd ha hR i (by omega) (by omega)
    have := natAbs_mul_le (x := ((fv (a.getD i 0)).natAbs : Int)) (by rw [Int.natAbs_natCast]; exact fv_le_max (all_getD ha (show i < _ by omega))) (fv_le_max (all_getD hR (show i < _ by omega)))
    rw [boxS, Nat.add_mul, Nat.one_mul]
    have h3 := Int.natAbs_add_le (boxS a R i) (((fv (a.getD i 0)).natAbs : Int) * fv (R.getD i 0))
    unfold F2 at *
    omega
set_option exponentiation.threshold 6000 in
theorem fMax_lt : fMax < 2 ^ 2098 := by
  unfold fMax
  rw [show (2 : Nat) ^ 2098 = 2 ^ 53 * 2 ^ 2045 from by rw [← Nat.pow_add]]
  exact Nat.mul_lt_mul_of_pos_right (by decide) (Nat.pow_pos (by decide))
set_option exponentiation.threshold 6000 in
theorem F2_cap : 72057594037927936 * F2 * 2 ^ 64 < Cap := by
  have h := Nat.mul_lt_mul'' fMax_lt fMax_lt
  have h1 : F2 < 2 ^ 4196 := by unfold F2; rw [show (2 : Nat) ^ 4196 = 2 ^ 2098 * 2 ^ 2098 from by rw [← Nat.pow_add]]; exact h
  have h2 : 72057594037927936 * F2 * 2 ^ 64 ≤ 2 ^ 56 * 2 ^ 4196 * 2 ^ 64 := Nat.mul_le_mul_right _ (Nat.mul_le_mul (by decide) (Nat.le_of_lt h1))
  rw [← Nat.pow_add, ← Nat.pow_add] at h2
  refine Nat.lt_of_le_of_lt h2 ?_
  unfold Cap
  exact Nat.pow_lt_pow_right (by decide) (by omega)
theorem cap_of {x : Int} (h : x.natAbs ≤ 72057594037927936 * F2) : (x * (2 ^ 64 : Nat)).natAbs < Cap := by
  rw [Int.natAbs_mul, Int.natAbs_natCast]
  exact Nat.lt_of_le_of_lt (Nat.mul_le_mul_right _ h) F2_cap
theorem pow1074_le : 2 ^ 1074 ≤ fMax := by
  unfold fMax
  calc 2 ^ 1074 ≤ 2 ^ 2045 := Nat.pow_le_pow_right (by decide) (by omega)
    _ ≤ 9007199254740991 * 2 ^ 2045 := Nat.le_mul_of_pos_left _ (by decide)

set_option maxHeartbeats 2000000 in
set_option maxRecDepth 100000 in
theorem along_calls (A B : Option Addr) (a l : List Nat) (n m ca cl t s : Nat) (w : World) (base : Nat) (hn : a.length = n) (hm : l.length = m) (ha : f64.Row t w base A a) (hl : f64.Row s w base B l) (haf : a.all fin = true) (hlf : l.all fin = true) (hle : m ≤ n) (hmb : m ≤ 256) (hnb : n ≤ 257) :
    Calls Tryz.prog 46 #[.slice A n ca, .slice B m cl] w fun e w' => e = .returned (.pointer (some ⟨w.heap.size, 0, none⟩)) ∧ AccI w' w.heap.size (dotS a l m * (2 ^ 64 : Nat)) ∧ Below w.heap.size w w' := by
  subst hn hm
  have HA := Lib.hid (fun W (hW : Below w.heap.size w W) => (show f64.Row t W base A a from ha.below hW))
  have HL := Lib.hid (fun W (hW : Below w.heap.size w W) => (show f64.Row s W base B l from hl.below hW))
  have HAF := Lib.hid haf
  have HLF := Lib.hid hlf
  have HN := Lib.hid (anew_calls w)
  clear ha hl haf hlf
  go_enter Tryz.func46, Tryz.ntmps46
  go_wp2_with fail
  refine HN.out.mono ?_
  rintro e w1 ⟨rfl, hI, hW⟩
  have HI := Lib.hid hI
  have HW := Lib.hid hW
  clear hI hW
  go_wp2
  go_loopw [6, 7, 11] (fun _ _ i wr => ∃ k : Nat, k ≤ l.length ∧ i = .int .i64 k ∧ Hid (AccI wr w.heap.size (dotS a l k * (2 ^ 64 : Nat))) ∧ Hid (Below w.heap.size w wr)) (fun _ _ i _ => l.length - (intOf i).toNat)
  case atStart => exact ⟨0, by omega, rfl, by rw [Hid, dotS, Int.zero_mul]; exact HI.out, HW.out⟩
  case round =>
    obtain ⟨k, hk, rfl, hI, hW⟩ := hrel
    by_cases hlt : k < l.length
    · obtain ⟨p, x, rfl, hcx, hxb, hxe⟩ := f64at (HL.out wr hW.out) hlt
      obtain ⟨q, y, rfl, hcy, hyb, hye⟩ := f64at (HA.out wr hW.out) (i := k) (by omega)
      have hxf := all_getD HLF.out hlt
      have hyf := all_getD HAF.out (show k < a.length by omega)
      have hcap : (dotS a l (k + 1) * (2 ^ 64 : Nat)).natAbs < Cap := by
        apply cap_of
        refine Nat.le_trans (dotS_bd HAF.out HLF.out (k + 1) (by omega) (by omega)) (Nat.mul_le_mul_right _ (by omega))
      have hstep : dotS a l (k + 1) * (2 ^ 64 : Nat) = dotS a l k * (2 ^ 64 : Nat) + fv y * fv x * (2 ^ 64 : Nat) := by
        rw [dotS, hxe.out, hye.out, Int.add_mul]
      rw [hxe.out] at hxf
      rw [hye.out] at hyf
      have HP := Lib.hid (aprod_calls w.heap.size y x _ _ wr hI.out hyb hyf hxb hxf hstep hcap)
      have hi1 : (k : Int) < (l.length : Int) := by omega
      have hi2 : (k : Int) < (a.length : Int) := by omega
      clear hxf hyf hcap hstep
      go_wp2_with fail
      refine HP.out.mono ?_
      rintro e w2 ⟨rfl, hI2, hW2⟩
      have HI2 := Lib.hid (And.intro hI2 (hW.out.trans hW2))
      clear hI2 hW2
      go_wp2
      go_roundw
      case rel => exact ⟨k + 1, by omega, by go_num, HI2.out.1, HI2.out.2⟩
      case measure => simp [intOf]; omega
    · obtain rfl : k = l.length := by omega
      go_wp2
      go_ret
      exact ⟨rfl, hI.out, hW.out⟩
end Go.Proofs.YtcfejobdgiiihaaGreatDoor

namespace Go.Proofs.YtcfejobdgiiihaaGreatDoor
open Go.RowKit

theorem rdown_scale {K : Nat} (hK : 1074 ≤ K) (X : Int) (j : Nat) : rdown (K + j) (X * (2 ^ j : Nat)) = rdown K X := by
  by_cases h0 : X = 0
  · subst h0; unfold rdown; rw [Int.zero_mul, if_pos rfl, if_pos rfl]
  · have hp : 0 < 2 ^ j := Nat.pow_pos (by decide)
    have hp' : (0 : Int) < (2 ^ j : Nat) := by omega
    have h1 : X * (2 ^ j : Nat) ≠ 0 := Int.mul_ne_zero h0 (by omega)
    have h2 : decide (X * (2 ^ j : Nat) < 0) = decide (X < 0) := by
      rw [Bool.eq_iff_iff, decide_eq_true_eq, decide_eq_true_eq]
      constructor
      · intro h
        rcases Int.lt_or_le X 0 with h3 | h3
        · exact h3
        · have := Int.mul_nonneg h3 (Int.le_of_lt hp'); omega
      · intro h; exact Int.mul_neg_of_neg_of_pos h hp'
    have h3 : (X * (2 ^ j : Nat)).natAbs = X.natAbs * 2 ^ j := by rw [Int.natAbs_mul, Int.natAbs_natCast]
    have hn : X.natAbs ≠ 0 := by omega
    have h4 : shD (K + j) (X.natAbs * 2 ^ j) = shD K X.natAbs + j := by
      unfold shD; rw [bl_mul_pow hn]; omega
    unfold rdown
    rw [if_neg h0, if_neg h1, h2, h3, h4]
    generalize shD K X.natAbs = s
    have h5 : X.natAbs * 2 ^ j / 2 ^ (s + j) = X.natAbs / 2 ^ s := by
      rw [Nat.pow_add, Nat.mul_comm, Nat.mul_comm (2 ^ s), Nat.mul_div_mul_left _ _ hp]
    have h6 : X.natAbs * 2 ^ j % 2 ^ (s + j) = 2 ^ j * (X.natAbs % 2 ^ s) := by
      rw [Nat.pow_add, Nat.mul_comm, Nat.mul_comm (2 ^ s), Nat.mul_mod_mul_left]
    have h7 : decide (2 ^ j * (X.natAbs % 2 ^ s) ≠ 0) = decide (X.natAbs % 2 ^ s ≠ 0) := by
      rw [Bool.eq_iff_iff, decide_eq_true_eq, decide_eq_true_eq, Ne, Nat.mul_eq_zero]
      constructor
      · intro h h8; exact h (.inr h8)
      · rintro h (h8 | h8)
        · omega
        · exact h h8
    rw [h5, h6, h7]
    congr 1
    omega
structure FitsF (z : Zn) (a : List Nat) (n : Nat) : Prop where
  bad : z.bad = false
  N : z.N = n
  n1 : 1 ≤ n
  n2 : n ≤ 256
  al : a.length = n + 1
  af : a.all fin = true
  cl : z.C.length = n
  cf : z.C.all fin = true
  rl : z.R.length = n
  rf : z.R.all fin = true
  ig : z.Ids.length = z.G.length
  gs : ∀ k, k < z.G.length → (z.G.getD k []).all fin = true ∧ (z.G.getD k []).length = n
  rp : ∀ i, i < n → 0 ≤ fv (z.R.getD i 0)
  ids : ∀ k, k < z.Ids.length → 0 ≤ z.Ids.getD k 0 ∧ (0 < k → z.Ids.getD (k - 1) 0 < z.Ids.getD k 0)
theorem fits_facts {z : Zn} {a : List Nat} (h : fitsB z a = true) : FitsF z a z.N.toNat := by
  unfold fitsB goodB rowB at h
  simp only [Bool.and_eq_true, decide_eq_true_eq, Bool.not_eq_true'] at h
  obtain ⟨⟨⟨hb, ⟨⟨⟨⟨⟨h1, h2⟩, hc⟩, hr⟩, hig⟩, hrp⟩, hid⟩, hl⟩, hf⟩ := h
  have hid' : ∀ k, k < z.Ids.length → idOk z k = true := by
    intro k hk
    rw [List.all_eq_true] at hid
    exact hid k (List.mem_range.2 hk)
  refine ⟨hb, by omega, by omega, by omega, by omega, hf, by omega, hc.1, by omega, hr.1, hig, fun k hk => ?_, fun i hi => ?_, fun k hk => ?_⟩
  · have := hid' k (by omega)
    unfold idOk rowB at this
    simp only [Bool.and_eq_true, decide_eq_true_eq] at this
    exact ⟨this.2.1, by have := this.2.2; omega⟩
  · have := all_getD hrp (i := i) (by omega)
    exact of_decide_eq_true this
  · have := hid' k hk
    unfold idOk at this
    simp only [Bool.and_eq_true, Bool.or_eq_true, decide_eq_true_eq] at this
    refine ⟨this.1.1.1, fun h => ?_⟩
    rcases this.1.2 with h3 | h3
    · omega
    · exact h3
theorem leastV_bd {z : Zn} {a : List Nat} {n : Nat} (h : FitsF z a n) (hG : z.G.length ≤ 17592186044416) (k i : Nat) (hk : k ≤ z.G.length) (hi : i ≤ n) :
    (dotS a z.C n + fv (a.getD n 0) * (2 ^ 1074 : Nat) - colsS a z.G n k - boxS a z.R i).natAbs ≤ 72057594037927936 * F2 := by
  have h1 := dotS_bd h.af h.cf n (by have := h.al; omega) (by have := h.cl; omega)
  have h2 := natAbs_mul_le (x := fv (a.getD n 0)) (y := ((2 ^ 1074 : Nat) : Int)) (fv_le_max (all_getD h.af (by have := h.al; omega))) (by rw [Int.natAbs_natCast]; exact pow1074_le)
  have h3 := (colsS_bd h.af (n := n) (by have := h.al; omega) k hk (fun j hj => ⟨(h.gs j (by omega)).1, by rw [(h.gs j (by omega)).2]; exact Nat.le_refl _⟩)).2
  have h4 := boxS_bd h.af h.rf i (by have := h.al; omega) (by have := h.rl; omega)
  have hn := h.n2
  rw [show fMax * fMax = F2 from rfl] at h2
  have e1 : n * F2 ≤ 256 * F2 := Nat.mul_le_mul_right _ hn
  have e2 : k * (n * F2) ≤ 17592186044416 * (256 * F2) := Nat.mul_le_mul (by omega) e1
  have e3 : i * F2 ≤ 256 * F2 := Nat.mul_le_mul_right _ (by omega)
  generalize fv (a.getD n 0) * ((2 ^ 1074 : Nat) : Int) = q at *
  generalize F2 = f at *
  omega
set_option exponentiation.threshold 6000 in
theorem leastV_bd1 {z : Zn} {a : List Nat} {n : Nat} (h : FitsF z a n) (hG : z.G.length ≤ 17592186044416) (k : Nat) (hk : k ≤ z.G.length) :
    (dotS a z.C n + fv (a.getD n 0) * (2 ^ 1074 : Nat) - colsS a z.G n k).natAbs ≤ 72057594037927936 * F2 := by
  have := leastV_bd h hG k 0 hk (by omega)
  simpa [boxS] using this
end Go.Proofs.YtcfejobdgiiihaaGreatDoor

namespace Go.Proofs.YtcfejobdgiiihaaGreatDoor
open Go.RowKit

abbrev P1074 : Int := ((2 ^ 1074 : Nat) : Int)
/-- an acc's real, in parts of 2^-2148 -/
def AccV (w : World) (b : Nat) (V : Int) : Prop := AccI w b (V * (2 ^ 64 : Nat))
set_option maxHeartbeats 4000000 in
set_option maxRecDepth 100000 in
theorem mmargin_bad (z : Zn) (cs : List Value) (A : Option Addr) (a : List Nat) (n c : Nat) (w : World) (base : Nat) (h : zRd.R w base z cs) (hn : a.length = n) (ha : f64.Row 47 w base A a) (hal : a.length ≤ 17592186044416) (hf : fitsB z a = false) :
    Calls Tryz.prog 16 #[.agg cs.toArray, .slice A n c] w fun e w' => e = fRet (marginS z a) ∧ Below w.heap.size w w' := by
  have HF := Lib.hid (fun W (hW : Below w.heap.size w W) => fits_calls z cs A a n c W base (zRd.below h hW) hn (show f64.Row 47 W base A a from ha.below hW) hal)
  rw [hf] at HF
  have HM : Hid (marginS z a = none) := by unfold marginS; rw [Hid, hf]; rfl
  obtain ⟨AC, AI, AG, AR, cC, cI, cG, cR, rfl, hr, hl⟩ := h
  have HW := Lib.hid (below_new (Below.refl w.heap.size w) (.cells #[.int .i64 z.N, .slice AC z.C.length cC, .slice AI z.Ids.length cI, .slice AG z.G.length cG, .slice AR z.R.length cR, .bool z.bad] 42))
  clear hr hl ha hf
  go_enter Tryz.func16, Tryz.ntmps16
  go_wp2_with fail
  refine (HF.out _ HW.out).mono ?_
  rintro e w2 ⟨rfl, hW2⟩
  have HW2 := Lib.hid (below_next HW.out hW2)
  clear hW2
  go_wp2
  go_ret2
  exact ⟨by rw [HM.out]; rfl, HW2.out⟩
set_option maxHeartbeats 8000000 in
set_option maxRecDepth 100000 in
theorem mmargin_good (z : Zn) (cs : List Value) (A : Option Addr) (a : List Nat) (n c : Nat) (w : World) (base : Nat) (h : zRd.R w base z cs) (hn : a.length = n) (ha : f64.Row 47 w base A a) (hal : a.length ≤ 17592186044416) (hf : fitsB z a = true) :
    Calls Tryz.prog 16 #[.agg cs.toArray, .slice A n c] w fun e w' => e = fRet (marginS z a) ∧ Below w.heap.size w w' := by
  subst hn
  have HF := Lib.hid (fun W (hW : Below w.heap.size w W) => fits_calls z cs A a a.length c W base (zRd.below h hW) rfl (show f64.Row 47 W base A a from ha.below hW) hal)
  rw [hf] at HF
  have hff := fits_facts hf
  obtain ⟨N, hN⟩ : ∃ N : Nat, z.N.toNat = N := ⟨_, rfl⟩
  have HM : Hid (marginS z a = rdown 2148 (dotS a z.C N + fv (a.getD N 0) * P1074 - colsS a z.G N z.Ids.length - boxS a z.R N)) := by unfold marginS leastV; rw [Hid, hf, hN]; rfl
  rw [hN] at hff
  obtain ⟨AC, AI, AG, AR, cC, cI, cG, cR, rfl, hr, hl⟩ := h
  have hzN := hff.N
  obtain ⟨zN, C, Ids, G, R, bad⟩ := z
  simp only at hzN HM HF hN ⊢
  subst hzN
  have hGl : G.length ≤ 17592186044416 := Nat.le_trans hl.g.2 (by decide)
  have hn1 := hff.n1
  have hn2 := hff.n2
  have haL1 : a.length ≤ N + 1 := Nat.le_of_eq hff.al
  have haL2 : N + 1 ≤ a.length := Nat.le_of_eq hff.al.symm
  have hcL : Hid (C.length = N) := hff.cl
  have hrL : Hid (R.length = N) := hff.rl
  have hgL : Hid (Ids.length = G.length) := hff.ig
  have hcL1 : C.length ≤ N := Nat.le_of_eq hff.cl
  have hcL2 : N ≤ C.length := Nat.le_of_eq hff.cl.symm
  have hrL1 : R.length ≤ N := Nat.le_of_eq hff.rl
  have hrL2 : N ≤ R.length := Nat.le_of_eq hff.rl.symm
  have hgL1 : Ids.length ≤ G.length := Nat.le_of_eq hff.ig
  have hgL2 : G.length ≤ Ids.length := Nat.le_of_eq hff.ig.symm
  have HFF := Lib.hid hff
  have HBD := Lib.hid (fun k i (hk : k ≤ G.length) (hi : i ≤ N) => cap_of (leastV_bd hff hGl k i hk hi))
  have HBD1 := Lib.hid (fun k (hk : k ≤ G.length) => cap_of (leastV_bd1 hff hGl k hk))
  have HBD0 := Lib.hid (cap_of (leastV_bd1 hff hGl 0 (by omega)))
  have HW := Lib.hid (below_new (Below.refl w.heap.size w) (.cells #[.int .i64 (N : Int), .slice AC C.length cC, .slice AI Ids.length cI, .slice AG G.length cG, .slice AR R.length cR, .bool bad] 42))
  have HRA := Lib.hid (fun W (hW : Below w.heap.size w W) => (show f64.Row 47 W base A a from ha.below hW))
  have HRC := Lib.hid (fun W (hW : Below w.heap.size w W) => (show f64.Row 47 W base AC C from hr.C.below hW))
  have HRR := Lib.hid (fun W (hW : Below w.heap.size w W) => (show f64.Row 47 W base AR R from hr.R.below hW))
  have HRG := Lib.hid (fun W (hW : Below w.heap.size w W) => (show (bsl 47 f64).Row 22 W base AG G from hr.G.below hW))
  clear hr hl ha hf hff hN
  go_enter Tryz.func16, Tryz.ntmps16
  go_wp2_with fail
  refine (HF.out _ HW.out).mono ?_
  rintro e w2 ⟨rfl, hW2⟩
  have HW2 := Lib.hid (below_next HW.out hW2)
  have HB2 := Lib.hid (Blk.below' (Blk.new w #[.int .i64 (N : Int), .slice AC C.length cC, .slice AI Ids.length cI, .slice AG G.length cG, .slice AR R.length cR, .bool bad] 42) hW2)
  have hbx : w.heap.size < w2.heap.size := HB2.out.lt
  have c1 : w2.cell? ⟨w.heap.size, 1, none⟩ = some (.slice AC C.length cC) := HB2.out.cell 1
  have HAL := Lib.hid (along_calls A AC a C a.length C.length c cC 47 47 w2 base rfl rfl (HRA.out _ HW2.out) (HRC.out _ HW2.out) HFF.out.af HFF.out.cf (by omega) (by omega) (by omega))
  clear hW2 HF HW
  go_wp2_with fail
  refine HAL.out.mono ?_
  rintro e w3 ⟨rfl, hI3, hW3⟩
  have HI3 := Lib.hid hI3
  have HW3 := Lib.hid hW3
  have HB3 := Lib.hid (HB2.out.below hW3 hbx)
  have HWw3 := Lib.hid (below_next HW2.out hW3)
  clear hI3 hW3 c1 HAL
  have c0 : w3.cell? ⟨w.heap.size, 0, none⟩ = some (.int .i64 (N : Int)) := HB3.out.cell 0
  obtain ⟨p, x, rfl, hcx, hxb, hxe⟩ := f64at (HRA.out w3 HWw3.out) (i := N) (by omega)
  have hxf := all_getD HFF.out.af (show N < a.length by omega)
  rw [hxe.out] at hxf
  have hY : (dotS a C N + fv (a.getD N 0) * P1074 - colsS a G N 0) * (2 ^ 64 : Nat) = dotS a C C.length * (2 ^ 64 : Nat) + fv x * (2 ^ 1074 : Nat) * (2 ^ 64 : Nat) := by
    rw [hxe.out, hcL.out, colsS, Int.sub_zero, Int.add_mul]
  have HAD := Lib.hid (aadd_calls w2.heap.size x _ _ w3 HI3.out hxb hxf hY HBD0.out)
  have hi1 : (N : Int) < (a.length : Int) := by omega
  clear hxf hY
  go_wp2_with fail
  refine HAD.out.mono ?_
  rintro e w4 ⟨rfl, hI4, hW4⟩
  have HI4 := Lib.hid hI4
  have HW4 := Lib.hid (HW3.out.trans hW4)
  clear hI4 hW4 c0 hi1 HAD
  have HB4 := Lib.hid (HB2.out.below HW4.out hbx)
  have c3 : w4.cell? ⟨w.heap.size, 3, none⟩ = some (.slice AG G.length cG) := HB4.out.cell 3
  go_wp2
  clear c3
  go_loopw [8, 9, 30] (fun _ _ i wr => ∃ k : Nat, k ≤ G.length ∧ i = .int .i64 k ∧ Hid (AccI wr w2.heap.size ((dotS a C N + fv (a.getD N 0) * P1074 - colsS a G N k) * (2 ^ 64 : Nat))) ∧ Hid (Below w2.heap.size w2 wr)) (fun _ _ i _ => G.length - (intOf i).toNat)
  case atStart => exact ⟨0, by omega, rfl, HI4.out, HW4.out⟩
  case round =>
    obtain ⟨k, hk, rfl, hI, hW⟩ := hrel
    have hWw := Lib.hid (below_next HW2.out hW.out)
    by_cases hlt : k < G.length
    · obtain ⟨b, B, l, lc, rfl, hcg, hge, hlc, hlC, hrow⟩ := bsl_at (HRG.out wr hWw.out) hlt
      have hgs := HFF.out.gs k hlt
      simp only [hge.out] at hgs
      have hll := Lib.hid hgs.2
      have hll1 : l.length ≤ N := Nat.le_of_eq hgs.2
      have hll2 : N ≤ l.length := Nat.le_of_eq hgs.2.symm
      have HAL := Lib.hid (along_calls (some p) B a l a.length l.length c lc 47 47 wr base rfl rfl (HRA.out _ hWw.out) hrow HFF.out.af hgs.1 (by omega) (by omega) (by omega))
      have hsz := hI.out.lt
      have HGE := hge
      have hi1 : (k : Int) < (G.length : Int) := by omega
      clear hrow hgs hge
      go_wp2_with fail
      refine HAL.out.mono ?_
      rintro e w5 ⟨rfl, hI5, hW5⟩
      have HW5 := Lib.hid hW5
      have HAB := Lib.hid (aabs_calls wr.heap.size _ w5 hI5)
      clear hI5 hW5 HAL
      go_wp2_with fail
      refine HAB.out.mono ?_
      rintro e w6 ⟨rfl, hI6, hW6⟩
      have HW6 := Lib.hid (HW5.out.trans hW6)
      have hcap := HBD1.out (k + 1) (by omega)
      have hX : (dotS a C N + fv (a.getD N 0) * P1074 - colsS a G N k) * (2 ^ 64 : Nat) - ((dotS a l l.length * (2 ^ 64 : Nat)).natAbs : Int) = (dotS a C N + fv (a.getD N 0) * P1074 - colsS a G N (k + 1)) * (2 ^ 64 : Nat) := by
        rw [Int.natAbs_mul, Int.natAbs_natCast, colsS, HGE.out, hll.out, Int.natCast_mul, ← Int.sub_mul]
        congr 1
        omega
      have HJ := ajoin_calls w2.heap.size wr.heap.size _ _ w6 (hI.out.below' HW6.out) hI6 (by rw [hX]; exact hcap)
      rw [hX] at HJ
      replace HJ := Lib.hid HJ
      clear hI6 hW6 HAB hcap hX
      go_wp2_with fail
      refine HJ.out.mono ?_
      rintro e w7 ⟨rfl, hI7, hW7⟩
      have HI7 := Lib.hid (And.intro hI7 ((hW.out.trans (HW6.out.mono (Nat.le_of_lt hsz))).trans hW7))
      clear hI7 hW7 HJ
      go_wp2
      go_roundw
      case rel => exact ⟨k + 1, by omega, by go_num, HI7.out.1, HI7.out.2⟩
      case measure => simp [intOf]; omega
    · obtain rfl : k = G.length := by omega
      have HB5 := Lib.hid (HB2.out.below hW.out hbx)
      have c4 : wr.cell? ⟨w.heap.size, 4, none⟩ = some (.slice AR R.length cR) := HB5.out.cell 4
      have hI0 : Hid (AccI wr w2.heap.size ((dotS a C N + fv (a.getD N 0) * P1074 - colsS a G N G.length - boxS a R 0) * (2 ^ 64 : Nat))) := by rw [Hid, boxS, Int.sub_zero]; exact hI.out
      have hW0 := Lib.hid hW.out
      go_wp2
      clear c4 hlt
      obtain ⟨wo, rfl⟩ : ∃ wo : World, wo = wr := ⟨_, rfl⟩
      go_loopw [10, 11, 46] (fun _ _ i wr => ∃ k : Nat, k ≤ R.length ∧ i = .int .i64 k ∧ Hid (AccI wr w2.heap.size ((dotS a C N + fv (a.getD N 0) * P1074 - colsS a G N G.length - boxS a R k) * (2 ^ 64 : Nat))) ∧ Hid (Below w2.heap.size w2 wr)) (fun _ _ i _ => R.length - (intOf i).toNat)
      case atStart => exact ⟨0, by omega, rfl, hI0.out, hW0.out⟩
      case round =>
        obtain ⟨k, hk, rfl, hI, hW⟩ := hrel
        have hWw := Lib.hid (below_next HW2.out hW.out)
        by_cases hlt : k < R.length
        · obtain ⟨pr, r, rfl, hcr, hrb, hre⟩ := f64at (HRR.out wr hWw.out) hlt
          obtain ⟨p', y, hp', hcy, hyb, hye⟩ := f64at (HRA.out wr hWw.out) (i := k) (by omega)
          cases hp'
          have hrf := all_getD HFF.out.rf hlt
          have hyf := all_getD HFF.out.af (show k < a.length by omega)
          rw [hre.out] at hrf
          rw [hye.out] at hyf
          have hcap := HBD.out G.length (k + 1) (by omega) (by omega)
          have hstep : (dotS a C N + fv (a.getD N 0) * P1074 - colsS a G N G.length - boxS a R (k + 1)) * (2 ^ 64 : Nat) = (dotS a C N + fv (a.getD N 0) * P1074 - colsS a G N G.length - boxS a R k) * (2 ^ 64 : Nat) + fv (uneg (uabs y)) * fv r * (2 ^ 64 : Nat) := by
            rw [fv_neg_abs, boxS, hye.out, hre.out, ← Int.add_mul, Int.neg_mul]
            congr 1
            omega
          have hub : uneg (uabs y) < 18446744073709551616 := by rw [uneg_abs]; have := uabs_lt y; omega
          have HP := Lib.hid (aprod_calls w2.heap.size (uneg (uabs y)) r _ _ wr hI.out hub (by rw [fin_neg_abs]; exact hyf) hrb hrf hstep hcap)
          have HAB := Lib.hid (abs_calls y wr hyb)
          have hi1 : (k : Int) < (R.length : Int) := by omega
          have hi2 : (k : Int) < (a.length : Int) := by omega
          clear hrf hyf hcap hstep hub
          go_wp2_with fail
          refine HAB.out.mono ?_
          rintro e w' ⟨rfl, rfl⟩
          have hneg : ∀ W, (Op.unary .neg (.float .f64 (uabs y))).run Tryz.prog W = .ok (.float .f64 (uneg (uabs y))) W := fun _ => rfl
          go_wp2_with fail
          clear hneg
          refine HP.out.mono ?_
          rintro e w5 ⟨rfl, hI5, hW5⟩
          have HI5 := Lib.hid (And.intro hI5 (hW.out.trans hW5))
          clear hI5 hW5
          go_wp2
          go_roundw
          case rel => exact ⟨k + 1, by omega, by go_num, HI5.out.1, HI5.out.2⟩
          case measure => simp [intOf]; omega
        · obtain rfl : k = R.length := by omega
          have HRD := around_calls w2.heap.size _ wr hI.out
          rw [rdown_scale (by decide : 1074 ≤ 2148) _ 64, hrL.out, ← hgL.out, ← HM.out] at HRD
          replace HRD := Lib.hid HRD
          clear HM
          obtain ⟨o, ho⟩ : ∃ o, marginS ⟨(N : Int), C, Ids, G, R, bad⟩ a = o := ⟨_, rfl⟩
          have HO := Lib.hid ho
          have HRD2 := HRD.out
          rw [ho] at HRD2
          unfold fRet at HRD2
          replace HRD2 := Lib.hid HRD2
          clear ho HRD
          go_wp2_with fail
          refine HRD2.out.mono ?_
          rintro e w5 ⟨rfl, hW5⟩
          have HW5 := Lib.hid (below_next hWw.out hW5)
          clear hW5
          go_wp2
          go_ret2
          exact ⟨by rw [HO.out]; rfl, HW5.out⟩
theorem mmargin_calls (z : Zn) (cs : List Value) (A : Option Addr) (a : List Nat) (n c : Nat) (w : World) (base : Nat) (h : zRd.R w base z cs) (hn : a.length = n) (ha : f64.Row 47 w base A a) (hal : a.length ≤ 17592186044416) :
    Calls Tryz.prog 16 #[.agg cs.toArray, .slice A n c] w fun e w' => e = fRet (marginS z a) ∧ Below w.heap.size w w' := by
  by_cases hf : fitsB z a = true
  · exact mmargin_good z cs A a n c w base h hn ha hal hf
  · exact mmargin_bad z cs A a n c w base h hn ha hal (by simpa using hf)
end Go.Proofs.YtcfejobdgiiihaaGreatDoor

namespace Go.Proofs.YtcfejobdgiiihaaGreatDoor
open Go.RowKit

/-! ### what is told is a number's bits -/
theorem pack_fin {neg : Bool} {q : Nat} {e : Int} (hq : q < 9007199254740992) (he : -1074 ≤ e) (he2 : e ≤ 971) : packB neg q e < 18446744073709551616 ∧ fin (packB neg q e) = true := by
  unfold packB
  have hs : sgnB neg = 0 ∨ sgnB neg = 9223372036854775808 := by cases neg <;> simp [sgnB]
  have key : ∀ u : Nat, u < 9218868437227405312 → (u + sgnB neg < 18446744073709551616 ∧ fin (u + sgnB neg) = true) := by
    intro u hu
    refine ⟨by omega, ?_⟩
    unfold fin fexp
    rw [decide_eq_true_eq]
    rcases hs with h | h <;> rw [h] <;> omega
  split
  · exact key _ (by omega)
  · split
    · exact key _ (by omega)
    · exact ⟨by decide, by decide⟩
theorem finD_fin {neg : Bool} {q u : Nat} {e : Int} (hq : q < 9007199254740992) (he : -1074 ≤ e) (h : finD neg q e = some u) : u < 18446744073709551616 ∧ fin u = true := by
  unfold finD at h
  split at h
  · split at h
    · cases h
    · injection h with h; subst h; exact ⟨by decide, by decide⟩
  · injection h with h; subst h; exact pack_fin hq he (by omega)
theorem rdown_parts {K : Nat} (hK : 1074 ≤ K) {X : Int} (h0 : X ≠ 0) :
    X.natAbs / 2 ^ shD K X.natAbs < 9007199254740992 ∧ (X.natAbs / 2 ^ shD K X.natAbs < 4503599627370496 → shD K X.natAbs = K - 1074) ∧ K - 1074 ≤ shD K X.natAbs := by
  have hn : X.natAbs ≠ 0 := by omega
  generalize X.natAbs = n at *
  have hb1 := bl_lt n
  have hb2 := bl_le hn
  have hb0 := bl_pos hn
  have hp : 0 < 2 ^ shD K n := Nat.pow_pos (by decide)
  have hs1 : bl n ≤ 53 + shD K n := by unfold shD; omega
  have hs2 : K - 1074 ≤ shD K n := by unfold shD; omega
  refine ⟨?_, fun h => ?_, hs2⟩
  · rw [Nat.div_lt_iff_lt_mul hp, show (9007199254740992 : Nat) = 2 ^ 53 from by decide, ← Nat.pow_add]
    exact Nat.lt_of_lt_of_le hb1 (Nat.pow_le_pow_right (by decide) hs1)
  · by_cases hc : shD K n = K - 1074
    · exact hc
    · exfalso
      have hs3 : shD K n = bl n - 53 := by unfold shD at *; omega
      have : 4503599627370496 ≤ n / 2 ^ shD K n := by
        rw [Nat.le_div_iff_mul_le hp, show (4503599627370496 : Nat) = 2 ^ 52 from by decide, ← Nat.pow_add]
        exact Nat.le_trans (Nat.pow_le_pow_right (by decide) (by omega)) hb2
      omega
theorem downEnd_fin {neg : Bool} {q u : Nat} {e : Int} (hq : q ≤ 9007199254740992) (he : -1074 ≤ e) (h : downEnd neg q e = some u) : u < 18446744073709551616 ∧ fin u = true := by
  unfold downEnd at h
  split at h
  · exact finD_fin (by decide) (by omega) h
  · exact finD_fin (by omega) he h
theorem rdown_fin {K : Nat} (hK : 1074 ≤ K) {X : Int} {u : Nat} (h : rdown K X = some u) : u < 18446744073709551616 ∧ fin u = true := by
  by_cases h0 : X = 0
  · unfold rdown at h; rw [if_pos h0] at h; injection h with h; subst h; exact ⟨by decide, by decide⟩
  · obtain ⟨h1, _, h3⟩ := rdown_parts hK h0
    unfold rdown at h
    rw [if_neg h0] at h
    refine downEnd_fin ?_ ?_ h
    · split <;> omega
    · omega
theorem marginS_fin {z : Zn} {a : List Nat} {m : Nat} (h : marginS z a = some m) : m < 18446744073709551616 ∧ fin m = true := by
  unfold marginS at h
  split at h
  · exact rdown_fin (by decide) h
  · cases h
/-! ### the least margin -/
def wS (z : Zn) (claims : List (List Nat)) : Nat → Option (Nat × Nat)
  | 0 => some (0, 0)
  | k + 1 => match wS z claims k with
    | none => none
    | some st => match marginS z (claims.getD k []) with
      | none => none
      | some m => some (if k = 0 ∨ fv m < fv st.2 then (k, m) else st)
def worstS (z : Zn) (claims : List (List Nat)) : Option (Nat × Nat) := if claims.length = 0 then none else wS z claims claims.length
def wRet (o : Option (Nat × Nat)) : Ending := match o with
  | none => .returned (.tuple #[.int .i64 0, .float .f64 0, .bool false])
  | some (i, m) => .returned (.tuple #[.int .i64 (i : Nat), .float .f64 m, .bool true])
theorem wS_none {z : Zn} {claims : List (List Nat)} {k : Nat} (h : wS z claims k = none) : ∀ n, k ≤ n → wS z claims n = none
  | 0, hn => by
    obtain rfl : k = 0 := by omega
    exact h
  | n + 1, hn => by
    by_cases e : k = n + 1
    · subst e; exact h
    · have := wS_none h n (by omega)
      rw [wS, this]
theorem wS_fin {z : Zn} {claims : List (List Nat)} : ∀ {k : Nat} {st : Nat × Nat}, wS z claims k = some st → st.2 < 18446744073709551616 ∧ fin st.2 = true
  | 0, st, h => by rw [wS] at h; injection h with h; subst h; exact ⟨by decide, by decide⟩
  | k + 1, st, h => by
    rw [wS] at h
    split at h
    · cases h
    · rename_i st' h'
      split at h
      · cases h
      · rename_i m hm
        injection h with h
        subst h
        split
        · exact marginS_fin hm
        · exact wS_fin h'
theorem order_lt {u v : Nat} (hu : u < 18446744073709551616) (hv : v < 18446744073709551616) (hfu : fin u = true) (hfv : fin v = true) : (FloatKind.f64.format.order u v == some .lt) = decide (fv u < fv v) := by
  show (Ieee.double.order u v == some .lt) = _
  rw [order_fin hu hv hfu hfv]
  rw [Bool.eq_iff_iff, decide_eq_true_eq]
  constructor
  · intro h
    have : compare (fv u) (fv v) = .lt := by simpa using h
    exact Int.compare_eq_lt.1 this
  · intro h
    rw [Int.compare_eq_lt.2 h]; rfl
set_option maxHeartbeats 8000000 in
set_option maxRecDepth 100000 in
theorem mworst_calls (z : Zn) (cs : List Value) (A : Option Addr) (claims : List (List Nat)) (n c : Nat) (w : World) (base : Nat) (h : zRd.R w base z cs) (hn : claims.length = n) (ha : (bsl 47 f64).Row 22 w base A claims) (hal : n ≤ 17592186044416) :
    Calls Tryz.prog 22 #[.agg cs.toArray, .slice A n c] w fun e w' => e = wRet (worstS z claims) ∧ Below w.heap.size w w' := by
  subst hn
  have HM := Lib.hid (fun B (l : List Nat) lc W (hW : Below w.heap.size w W) (hl : f64.Row 47 W base B l) (hll : l.length ≤ 17592186044416) => mmargin_calls z cs B l l.length lc W base (zRd.below h hW) rfl hl hll)
  have HA := Lib.hid (fun W (hW : Below w.heap.size w W) => (show (bsl 47 f64).Row 22 W base A claims from ha.below hW))
  obtain ⟨AC, AI, AG, AR, cC, cI, cG, cR, rfl, hr, hl⟩ := h
  have HW := Lib.hid (below_new (Below.refl w.heap.size w) (.cells #[.int .i64 z.N, .slice AC z.C.length cC, .slice AI z.Ids.length cI, .slice AG z.G.length cG, .slice AR z.R.length cR, .bool z.bad] 42))
  have HB := Lib.hid (Blk.new w #[.int .i64 z.N, .slice AC z.C.length cC, .slice AI z.Ids.length cI, .slice AG z.G.length cG, .slice AR z.R.length cR, .bool z.bad] 42)
  clear hr hl ha
  go_enter Tryz.func22, Tryz.ntmps22
  go_wp2
  go_loopw [7, 8, 9, 10, 11, 12, 15, 20] (fun bi lv _ _ _ _ i _ wr => ∃ (k b m : Nat), k ≤ claims.length ∧ i = .int .i64 k ∧ bi = .int .i64 b ∧ lv = .float .f64 m ∧ Hid (wS z claims k = some (b, m)) ∧ Hid (Blk wr w.heap.size 42 [.int .i64 z.N, .slice AC z.C.length cC, .slice AI z.Ids.length cI, .slice AG z.G.length cG, .slice AR z.R.length cR, .bool z.bad]) ∧ Hid (Below w.heap.size w wr)) (fun _ _ _ _ _ _ i _ _ => claims.length - (intOf i).toNat)
  case atStart => exact ⟨0, 0, 0, by omega, rfl, rfl, rfl, rfl, HB.out, HW.out⟩
  case round =>
    obtain ⟨k, b, m, hk, rfl, rfl, rfl, hS, hB, hW⟩ := hrel
    by_cases hlt : k < claims.length
    · obtain ⟨p, B, l, lc, rfl, hcg, hge, hlc, hlC, hrow⟩ := bsl_at (HA.out wr hW.out) hlt
      have HMG := HM.out B l lc wr hW.out hrow hlC
      obtain ⟨o, ho⟩ : ∃ o, marginS z l = o := ⟨_, rfl⟩
      rw [ho] at HMG
      have HO := Lib.hid ho
      have hi1 : (k : Int) < (claims.length : Int) := by omega
      have hc0 : wr.cell? ⟨w.heap.size, 0, none⟩ = some (.int .i64 z.N) := hB.out.cell 0
      have hc1 : wr.cell? ⟨w.heap.size, 1, none⟩ = some (.slice AC z.C.length cC) := hB.out.cell 1
      have hc2 : wr.cell? ⟨w.heap.size, 2, none⟩ = some (.slice AI z.Ids.length cI) := hB.out.cell 2
      have hc3 : wr.cell? ⟨w.heap.size, 3, none⟩ = some (.slice AG z.G.length cG) := hB.out.cell 3
      have hc4 : wr.cell? ⟨w.heap.size, 4, none⟩ = some (.slice AR z.R.length cR) := hB.out.cell 4
      have hc5 : wr.cell? ⟨w.heap.size, 5, none⟩ = some (.bool z.bad) := hB.out.cell 5
      have HMGH := Lib.hid HMG
      clear hrow ho HMG
      cases o with
      | none =>
        have HN : Hid (worstS z claims = none) := by
          unfold worstS
          rw [Hid, if_neg (by omega)]
          exact wS_none (k := k + 1) (by rw [wS, hS.out, hge.out, HO.out]) _ (by omega)
        have HMG := HMGH.out
        unfold fRet at HMG
        replace HMG := Lib.hid HMG
        go_wp2_with fail
        refine HMG.out.mono ?_
        rintro e w2 ⟨rfl, hW2⟩
        have HW2 := Lib.hid (below_next hW.out hW2)
        clear hW2 hc0 hc1 hc2 hc3 hc4 hc5
        go_wp2
        go_ret3
        exact ⟨by rw [HN.out]; rfl, HW2.out⟩
      | some u =>
        have HMG := HMGH.out
        unfold fRet at HMG
        simp only [Option.getD_some, Option.isSome_some] at HMG
        replace HMG := Lib.hid HMG
        have hord := order_lt (marginS_fin HO.out).1 (wS_fin hS.out).1 (marginS_fin HO.out).2 (wS_fin hS.out).2
        simp only at hord
        obtain ⟨lt, hlt2⟩ : ∃ b, decide (fv u < fv m) = b := ⟨_, rfl⟩
        rw [hlt2] at hord
        have HLT := Lib.hid hlt2
        clear hlt2
        have hnext : ∀ (st : Nat × Nat), (if k = 0 ∨ fv u < fv m then (k, u) else (b, m)) = st → wS z claims (k + 1) = some st := by
          intro st hst; rw [wS, hS.out, hge.out, HO.out]; exact congrArg some hst
        have HNX := Lib.hid hnext
        clear hnext
        by_cases hk0 : k = 0
        · have e0 : ((k : Int) == 0) = true := by simpa using hk0
          have HK := Lib.hid hk0
          clear hk0
          go_wp2_with fail
          refine HMG.out.mono ?_
          rintro e w2 ⟨rfl, hW2⟩
          have HW2 := Lib.hid (And.intro (below_next hW.out hW2) (hB.out.below' hW2))
          clear hW2 hc0 hc1 hc2 hc3 hc4 hc5
          go_wp2
          go_roundw
          case rel => exact ⟨k + 1, k, u, by omega, by go_num, rfl, rfl, HNX.out _ (if_pos (.inl HK.out)), HW2.out.2, HW2.out.1⟩
          case measure => simp [intOf]; omega
        · have e0 : ((k : Int) == 0) = false := by simpa using hk0
          have HK := Lib.hid hk0
          clear hk0
          cases lt
          · go_wp2_with fail
            refine HMG.out.mono ?_
            rintro e w2 ⟨rfl, hW2⟩
            have HW2 := Lib.hid (And.intro (below_next hW.out hW2) (hB.out.below' hW2))
            clear hW2 hc0 hc1 hc2 hc3 hc4 hc5
            go_wp2
            go_roundw
            case rel => exact ⟨k + 1, b, m, by omega, by go_num, rfl, rfl, HNX.out _ (if_neg (by rintro (h | h); exact HK.out h; exact of_decide_eq_false HLT.out h)), HW2.out.2, HW2.out.1⟩
            case measure => simp [intOf]; omega
          · go_wp2_with fail
            refine HMG.out.mono ?_
            rintro e w2 ⟨rfl, hW2⟩
            have HW2 := Lib.hid (And.intro (below_next hW.out hW2) (hB.out.below' hW2))
            clear hW2 hc0 hc1 hc2 hc3 hc4 hc5
            go_wp2
            go_roundw
            case rel => exact ⟨k + 1, k, u, by omega, by go_num, rfl, rfl, HNX.out _ (if_pos (.inr (of_decide_eq_true HLT.out))), HW2.out.2, HW2.out.1⟩
            case measure => simp [intOf]; omega
    · obtain rfl : k = claims.length := by omega
      by_cases h0 : claims.length = 0
      · have e0 : decide (0 < claims.length) = false := decide_eq_false (by omega)
        have HN : Hid (worstS z claims = none ∧ b = 0 ∧ m = 0) := by
          have := hS.out
          rw [h0, wS] at this
          injection this with this
          injection this with h1 h2
          refine ⟨?_, h1.symm, h2.symm⟩
          unfold worstS; rw [if_pos h0]
        clear h0
        go_wp2
        go_ret3
        exact ⟨by rw [HN.out.1, HN.out.2.1, HN.out.2.2]; rfl, hW.out⟩
      · have e0 : decide (0 < claims.length) = true := decide_eq_true (by omega)
        have HN : Hid (worstS z claims = some (b, m)) := by unfold worstS; rw [Hid, if_neg h0]; exact hS.out
        clear h0
        go_wp2
        go_ret3
        exact ⟨by rw [HN.out]; rfl, hW.out⟩
end Go.Proofs.YtcfejobdgiiihaaGreatDoor
