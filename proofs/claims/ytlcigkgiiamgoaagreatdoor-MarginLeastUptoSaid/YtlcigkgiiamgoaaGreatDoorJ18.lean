/- Walks and plain laws of this seat's functions, part 18: C1 C2 C3 C4 C5 C6 C7 C8 C9 C10 C15 C16 C17. -/
import Derived.Test.YtlcigkgiiamgoaaGreatDoorJ14
import Derived.Test.YtlcigkgiiamgoaaGreatDoorJ17
set_option linter.unusedVariables false
set_option linter.unusedSimpArgs false
namespace Go.Proofs.YtlcigkgiiamgoaaGreatDoor
open Go.RowKit

theorem take_eq_step {α : Type} {xs ys : List α} {k : Nat} {d x : α} (h : xs.take k = ys.take k) (hx : k < xs.length) (hy : k < ys.length) (ex : xs.getD k d = x) (ey : ys.getD k d = x) : xs.take (k + 1) = ys.take (k + 1) := by
  rw [take_snocD hx ex, take_snocD hy ey, h]
theorem ne_of_getD {α : Type} [DecidableEq α] {xs ys : List α} {k : Nat} {d x y : α} (ex : xs.getD k d = x) (ey : ys.getD k d = y) (h : x ≠ y) : decide (xs = ys) = false := by
  refine decide_eq_false ?_
  rintro rfl
  exact h (ex.symm.trans ey)
theorem eq_of_takes {α : Type} [DecidableEq α] {xs ys : List α} (h : xs.take xs.length = ys.take xs.length) (hl : ys.length = xs.length) : decide (xs = ys) = true := by
  refine decide_eq_true ?_
  rw [List.take_length, ← hl, List.take_length] at h
  exact h

set_option maxHeartbeats 2000000 in
set_option maxRecDepth 100000 in
theorem sameints_calls (A B : Option Addr) (xs ys : List Int) (n m cx cy t1 t2 b1 b2 : Nat) (w : World) (hn : xs.length = n) (hm : ys.length = m) (hA : i64.Row t1 w b1 A xs) (hB : i64.Row t2 w b2 B ys) (hx : n ≤ 17592186044416) (hy : m ≤ 17592186044416) :
    Calls Tryz.prog 31 #[.slice A n cx, .slice B m cy] w fun e w' => e = .returned (.bool (decide (xs = ys))) ∧ ∃ q, w' = w.drewN q := by
  subst hn hm
  by_cases h : xs.length = ys.length
  · have HE := Lib.hid h
    have hg : ((xs.length : Int) != (ys.length : Int)) = false := by rw [h]; simp
    clear h
    go_enter Tryz.func31, Tryz.ntmps31
    go_wp2
    go_loopw [5] (fun i wr => ∃ (k : Nat), i = .int .i64 k ∧ k ≤ xs.length ∧ Hid (xs.take k = ys.take k) ∧ Hid (∃ q, wr = w.drewN q)) (fun i _ => xs.length - (intOf i).toNat)
    case atStart => exact ⟨0, rfl, Nat.zero_le _, rfl, 0, rfl⟩
    case round =>
      obtain ⟨k, rfl, hk, hI, hQ⟩ := hrel
      obtain ⟨q, rfl⟩ := hQ.out
      by_cases hlt : k < xs.length
      · have hD : Below w.heap.size w (w.drewN q) := below_drewN (Below.refl _ _) q
        obtain ⟨a, x, rfl, hca, hxb, hxe⟩ := i64at hA hlt
        obtain ⟨b, y, rfl, hcb, hyb, hye⟩ := i64at hB (i := k) (by have := HE.out; omega)
        have hlk : (k : Int) < (ys.length : Int) := by have := HE.out; omega
        have hlx : (k : Int) < (xs.length : Int) := by omega
        have hl0 : (0 : Int) ≤ (k : Int) := by omega
        by_cases hxy : x = y
        · subst hxy
          go_wp2
          go_quiet (fail)
          go_wp2
          go_roundw
          case rel => exact ⟨k + 1, by go_num, by omega, take_eq_step hI.out hlt (by have := HE.out; omega) hxe.out hye.out, ⟨_, rfl⟩⟩
          case measure => simp [intOf]; omega
        · have hne := Lib.hid hxy
          have hneb : (x != y) = true := by simpa using hxy
          clear hxy
          go_wp2
          go_quiet (fail)
          go_wp2
          go_ret
          exact ⟨by rw [ne_of_getD hxe.out hye.out hne.out]; rfl, _, drewN_drewN _ _ _⟩
      · obtain rfl : k = xs.length := by omega
        go_wp2
        go_ret
        exact ⟨by rw [eq_of_takes hI.out HE.out.symm]; rfl, q, rfl⟩
  · have hg : ((xs.length : Int) != (ys.length : Int)) = true := by simp; omega
    have HN : Hid (decide (xs = ys) = false) := decide_eq_false (by rintro rfl; exact h rfl)
    go_enter Tryz.func31, Tryz.ntmps31
    go_wp2
    go_ret
    exact ⟨by rw [HN.out]; rfl, 0, rfl⟩

end Go.Proofs.YtlcigkgiiamgoaaGreatDoor

namespace Go.Proofs.YtlcigkgiiamgoaaGreatDoor
open Go.RowKit

theorem makeU {n : Nat} (W : World) (h : n ≤ 4398046511104) : (Instr.makeSlice 33 (.int .i64 (n : Int)) (.int .i64 (n : Int))).run Tryz.prog W = .ok (.slice (some ⟨W.heap.size, 0, none⟩) n n) (W.alloc (.cells (madeCells #[.int .u64 0] n) 51)) :=
  run_make_row' (P := Tryz.prog) 33 51 (.int .u64 0) 8 (by kernel_rfl) (by kernel_rfl) rfl .i64 .i64 n (by omega) (by omega) W
theorem u64_cells {t : Nat} {w : World} {base : Nat} {a : Addr} {l : List Nat} (h : u64.Row t w base (some a) l) : ∀ j u, (i64s l)[j]? = some u → w.cell? (a.add j) = some u := by
  intro j u hj
  have hl : j < l.length := by have := (List.getElem?_eq_some_iff.1 hj).1; simpa [i64s] using this
  obtain ⟨a', x, ha, hc, _, hx⟩ := u64at h hl
  cases ha
  rw [hc]
  simp [i64s, hl] at hj
  rw [← hj, ← hx.out]; simp [hl]
theorem own_u64 {w : World} {b base t : Nat} {v : Value} {xs : List Nat} (h : w.ownsRow b t 1 v (0 + xs.length) ([] ++ i64s xs)) (hb : ∀ x ∈ xs, x < B64) : u64.Own t w b base v xs := by
  rw [Nat.zero_add, List.nil_append] at h
  refine ⟨xs.map fun x => [.int .u64 (x : Nat)], by simp, ?_, ?_⟩
  · have : ∀ ys : List Nat, (ys.map fun x => [Value.int .u64 (x : Nat)]).flatten = i64s ys := by
      intro ys
      induction ys with
      | nil => rfl
      | cons x ys ih => rw [List.map_cons, List.flatten_cons, ih]; rfl
    rw [this]; exact h
  · intro i x c h1 h2
    simp only [List.getElem?_map, h1, Option.map_some, Option.some.injEq] at h2
    subst h2
    exact ⟨rfl, hb x (List.mem_of_getElem? h1)⟩
/-- what the reference tells -/
def RClaimsPost (p : Pr) (m : Int) (base : Nat) (w : World) (e : Ending) (w' : World) : Prop :=
  ∃ B cc ls, e = .returned (.tuple #[.slice B ls.length cc, .int .i64 (errS p m : Nat)]) ∧ Hid (ls = (if errS p m = 0 then claimsL p m else [])) ∧ ls.length ≤ cc ∧ (bsl 51 u64).Row 33 w' base B ls ∧ Below w.heap.size w w'
theorem rclaims_err {p : Pr} {m : Int} {base : Nat} {w w' : World} {c : Nat} (h : errS p m = c) (hc : c ≠ 0) (hW : Below w.heap.size w w') : RClaimsPost p m base w (.returned (.tuple #[.slice none 0 0, .int .i64 (c : Nat)])) w' :=
  ⟨none, 0, [], by rw [h]; rfl, by rw [Hid, h, if_neg hc], Nat.le_refl _, Rd.Row.nil _ _ _ _ _, hW⟩
end Go.Proofs.YtlcigkgiiamgoaaGreatDoor

namespace Go.Proofs.YtlcigkgiiamgoaaGreatDoor
open Go.RowKit

abbrev blU : Rd (List Nat) := bsl 51 u64
abbrev uRow (W : World) (b1 : Nat) (B : Option Addr) (l : List Nat) : Prop := u64.Row 51 W b1 B l
theorem Blk.ne_ownb {α : Type} {d : Rd α} {w : World} {b t t' b0 base : Nat} {cs : List Value} {v : Value} {es : List α} (h : Blk w b t cs) (ho : d.Own t' w b0 base v es) (ht : t ≠ t') : some b ≠ v.ownBlock := h.ne_ownd ho ht
end Go.Proofs.YtlcigkgiiamgoaaGreatDoor

namespace Go.Proofs.YtlcigkgiiamgoaaGreatDoor
open Go.RowKit

abbrev zA : Zn := ⟨2, [4604930618986332160, 4598175219545276416], [0], [[4607182418800017408, 4607182418800017408]], [0, 0], false⟩
abbrev aA : List Nat := [4607182418800017408, 13830554455654793216, 0]
abbrev aB : List Nat := [4607182418800017408, 0, 0]
theorem mA : marginS zA aA = some 4602678819172646912 := by decide +kernel
theorem mB : marginS zA aB = some 13821547256400052224 := by decide +kernel
theorem wA : worstS zA [aA, aB] = some (1, 13821547256400052224) := by decide +kernel
theorem sA : signsS zA aB (1 : Nat) = [-1] := by decide +kernel
abbrev pA : Pr := ⟨[], [], 0, [], 0, 0, 0⟩
theorem eA : errS pA 2 = 0 := by decide +kernel
theorem lA : claimsL pA 2 = [aA] := by decide +kernel
theorem f64all {t b : Nat} {w : World} {base : Nat} {zs : List Nat} (h : Blk w b t (f64s zs)) (hz : ∀ d ∈ zs, d < B64) : f64.Row t w base (some ⟨b, 0, none⟩) zs :=
  h.row (by rw [List.take_of_length_le (by simp [f64s])]; rfl) hz
theorem i64all {t b : Nat} {w : World} {base : Nat} {zs : List Int} (h : Blk w b t (iInts zs)) (hz : ∀ d ∈ zs, InInt d) : i64.Row t w base (some ⟨b, 0, none⟩) zs :=
  h.row (by rw [List.take_of_length_le (by simp [iInts])]; rfl) hz
theorem bslall {α : Type} {te t b : Nat} {d : Rd α} {w : World} {base : Nat} {gs : List (List α)} {cs : List Value} (h : Blk w b t cs)
    (hr : ∀ (i : Nat) (l : List α), gs[i]? = some l → ∃ (A : Option Addr) (c : Nat), cs[i]? = some (Value.slice A l.length c) ∧ l.length ≤ c ∧ l.length ≤ 17592186044416 ∧ d.Row te w base A l) : (bsl te d).Row t w base (some ⟨b, 0, none⟩) gs := by
  intro i l hi
  obtain ⟨A, c, h1, h2, h3, h4⟩ := hr i l hi
  refine ⟨_, [.slice A l.length c], rfl, .inr ⟨_, h⟩, h.lt, ⟨⟨A, c, rfl, h2, h4⟩, h3⟩, fun j u hj => ?_⟩
  rcases j with _ | j
  · simp at hj
    subst hj
    have : (bsl te d).sz = 1 := rfl
    rw [this, Nat.mul_one, Nat.add_zero]
    have ha : (⟨b, 0, none⟩ : Addr).add i = ⟨b, i, none⟩ := by unfold Addr.add; split <;> simp_all
    rw [ha, h.cell]; exact h1
  · simp at hj
abbrev zcsA (g : Nat) : List Value := [.int .i64 2, .slice (some ⟨g, 0, none⟩) 2 2, .slice (some ⟨g + 1, 0, none⟩) 1 1, .slice (some ⟨g + 1 + 1 + 1, 0, none⟩) 1 1, .slice (some ⟨g + 1 + 1 + 1 + 1, 0, none⟩) 2 2, .bool false]
structure AwZ (w : World) (wx : World) : Prop where
  z : zRd.R wx w.heap.size zA (zcsA w.heap.size)
  b : Blk wx (w.heap.size + 1 + 1 + 1 + 1 + 1) 26 (zcsA w.heap.size)
  w : Below w.heap.size w wx
theorem AwZ.below {w W W' : World} (h : AwZ w W) (hW : Below W.heap.size W W') : AwZ w W' := ⟨zRd.below h.z hW, h.b.below' hW, below_next h.w hW⟩
theorem blk_new' (w : World) (g : Nat) (hg : w.heap.size = g) (cs : Array Value) (t : Nat) : Blk (w.alloc (.cells cs t)) g t cs.toList := by subst hg; exact Blk.new w cs t
theorem awz (w : World) : AwZ w ((((((w.alloc (.cells #[.float .f64 4604930618986332160, .float .f64 4598175219545276416] 41)).alloc (.cells #[.int .i64 0] 3)).alloc (.cells #[.float .f64 4607182418800017408, .float .f64 4607182418800017408] 41)).alloc (.cells #[.slice (some ⟨w.heap.size + 1 + 1, 0, none⟩) 2 2] 22)).alloc (.cells #[.float .f64 0, .float .f64 0] 41)).alloc (.cells (zcsA w.heap.size).toArray 26)) := by
  have b0 := (((((blk_new' w _ rfl #[.float .f64 4604930618986332160, .float .f64 4598175219545276416] 41).alloc (.cells #[.int .i64 0] 3)).alloc (.cells #[.float .f64 4607182418800017408, .float .f64 4607182418800017408] 41)).alloc (.cells #[.slice (some ⟨w.heap.size + 1 + 1, 0, none⟩) 2 2] 22)).alloc (.cells #[.float .f64 0, .float .f64 0] 41)).alloc (.cells (zcsA w.heap.size).toArray 26)
  have b1 := ((((blk_new' (w.alloc (.cells #[.float .f64 4604930618986332160, .float .f64 4598175219545276416] 41)) (w.heap.size + 1) (by simp) #[.int .i64 0] 3).alloc (.cells #[.float .f64 4607182418800017408, .float .f64 4607182418800017408] 41)).alloc (.cells #[.slice (some ⟨w.heap.size + 1 + 1, 0, none⟩) 2 2] 22)).alloc (.cells #[.float .f64 0, .float .f64 0] 41)).alloc (.cells (zcsA w.heap.size).toArray 26)
  have b2 := (((blk_new' ((w.alloc (.cells #[.float .f64 4604930618986332160, .float .f64 4598175219545276416] 41)).alloc (.cells #[.int .i64 0] 3)) (w.heap.size + 1 + 1) (by simp) #[.float .f64 4607182418800017408, .float .f64 4607182418800017408] 41).alloc (.cells #[.slice (some ⟨w.heap.size + 1 + 1, 0, none⟩) 2 2] 22)).alloc (.cells #[.float .f64 0, .float .f64 0] 41)).alloc (.cells (zcsA w.heap.size).toArray 26)
  have b3 := ((blk_new' (((w.alloc (.cells #[.float .f64 4604930618986332160, .float .f64 4598175219545276416] 41)).alloc (.cells #[.int .i64 0] 3)).alloc (.cells #[.float .f64 4607182418800017408, .float .f64 4607182418800017408] 41)) (w.heap.size + 1 + 1 + 1) (by simp) #[.slice (some ⟨w.heap.size + 1 + 1, 0, none⟩) 2 2] 22).alloc (.cells #[.float .f64 0, .float .f64 0] 41)).alloc (.cells (zcsA w.heap.size).toArray 26)
  have b4 := (blk_new' ((((w.alloc (.cells #[.float .f64 4604930618986332160, .float .f64 4598175219545276416] 41)).alloc (.cells #[.int .i64 0] 3)).alloc (.cells #[.float .f64 4607182418800017408, .float .f64 4607182418800017408] 41)).alloc (.cells #[.slice (some ⟨w.heap.size + 1 + 1, 0, none⟩) 2 2] 22)) (w.heap.size + 1 + 1 + 1 + 1) (by simp) #[.float .f64 0, .float .f64 0] 41).alloc (.cells (zcsA w.heap.size).toArray 26)
  have b5 := blk_new' (((((w.alloc (.cells #[.float .f64 4604930618986332160, .float .f64 4598175219545276416] 41)).alloc (.cells #[.int .i64 0] 3)).alloc (.cells #[.float .f64 4607182418800017408, .float .f64 4607182418800017408] 41)).alloc (.cells #[.slice (some ⟨w.heap.size + 1 + 1, 0, none⟩) 2 2] 22)).alloc (.cells #[.float .f64 0, .float .f64 0] 41)) (w.heap.size + 1 + 1 + 1 + 1 + 1) (by simp) (zcsA w.heap.size).toArray 26
  have hW := below_new (below_new (below_new (below_new (below_new (below_new (Below.refl w.heap.size w) (.cells #[.float .f64 4604930618986332160, .float .f64 4598175219545276416] 41)) (.cells #[.int .i64 0] 3)) (.cells #[.float .f64 4607182418800017408, .float .f64 4607182418800017408] 41)) (.cells #[.slice (some ⟨w.heap.size + 1 + 1, 0, none⟩) 2 2] 22)) (.cells #[.float .f64 0, .float .f64 0] 41)) (.cells (zcsA w.heap.size).toArray 26)
  generalize (((((w.alloc (.cells #[.float .f64 4604930618986332160, .float .f64 4598175219545276416] 41)).alloc (.cells #[.int .i64 0] 3)).alloc (.cells #[.float .f64 4607182418800017408, .float .f64 4607182418800017408] 41)).alloc (.cells #[.slice (some ⟨w.heap.size + 1 + 1, 0, none⟩) 2 2] 22)).alloc (.cells #[.float .f64 0, .float .f64 0] 41)).alloc (.cells (zcsA w.heap.size).toArray 26) = W at *
  refine ⟨⟨some ⟨w.heap.size, 0, none⟩, some ⟨w.heap.size + 1, 0, none⟩, some ⟨w.heap.size + 1 + 1 + 1, 0, none⟩, some ⟨w.heap.size + 1 + 1 + 1 + 1, 0, none⟩, 2, 1, 1, 2, rfl, ⟨f64all b0 (by decide), i64all b1 (by decide), bslall b3 ?_, f64all b4 (by decide)⟩, by constructor <;> decide⟩, b5, hW⟩
  intro i l hi
  rcases i with _ | i
  · simp at hi
    subst hi
    exact ⟨some ⟨w.heap.size + 1 + 1, 0, none⟩, 2, rfl, by decide, by decide, f64all b2 (by decide)⟩
  · simp at hi
theorem awM (w W : World) (hz : AwZ w W) (a : List Nat) (m : Nat) (ha : a.length = 3) (hb : ∀ d ∈ a, d < B64) (hm : marginS zA a = some m) :
    Calls Tryz.prog 8 #[.agg (zcsA w.heap.size).toArray, .slice (some ⟨W.heap.size, 0, none⟩) 3 3] (W.alloc (.cells (f64s a).toArray 41)) fun e w' => e = .returned (.tuple #[.float .f64 m, .bool true]) ∧ AwZ w w' := by
  have h := below_new (Below.refl W.heap.size W) (.cells (f64s a).toArray 41)
  refine (mmargin_calls zA (zcsA w.heap.size) _ a 3 3 _ w.heap.size (zRd.below hz.z h) ha (f64all (Blk.new W (f64s a).toArray 41) hb) (by omega)).mono ?_
  rintro e w' ⟨rfl, hW⟩
  rw [hm]
  exact ⟨rfl, hz.below (below_next h hW)⟩
theorem awW (w W : World) (hz : AwZ w W) :
    Calls Tryz.prog 29 #[.agg (zcsA w.heap.size).toArray, .slice (some ⟨W.heap.size + 1 + 1, 0, none⟩) 2 2] (((W.alloc (.cells (f64s aA).toArray 41)).alloc (.cells (f64s aB).toArray 41)).alloc (.cells #[.slice (some ⟨W.heap.size, 0, none⟩) 3 3, .slice (some ⟨W.heap.size + 1, 0, none⟩) 3 3] 22))
      fun e w' => e = .returned (.tuple #[.int .i64 1, .float .f64 13821547256400052224, .bool true]) ∧ AwZ w w' := by
  have h := below_new (below_new (below_new (Below.refl W.heap.size W) (.cells (f64s aA).toArray 41)) (.cells (f64s aB).toArray 41)) (.cells #[.slice (some ⟨W.heap.size, 0, none⟩) 3 3, .slice (some ⟨W.heap.size + 1, 0, none⟩) 3 3] 22)
  have b0 := ((blk_new' W _ rfl (f64s aA).toArray 41).alloc (.cells (f64s aB).toArray 41)).alloc (.cells #[.slice (some ⟨W.heap.size, 0, none⟩) 3 3, .slice (some ⟨W.heap.size + 1, 0, none⟩) 3 3] 22)
  have b1 := (blk_new' (W.alloc (.cells (f64s aA).toArray 41)) (W.heap.size + 1) (by simp) (f64s aB).toArray 41).alloc (.cells #[.slice (some ⟨W.heap.size, 0, none⟩) 3 3, .slice (some ⟨W.heap.size + 1, 0, none⟩) 3 3] 22)
  have b2 := blk_new' ((W.alloc (.cells (f64s aA).toArray 41)).alloc (.cells (f64s aB).toArray 41)) (W.heap.size + 1 + 1) (by simp) #[.slice (some ⟨W.heap.size, 0, none⟩) 3 3, .slice (some ⟨W.heap.size + 1, 0, none⟩) 3 3] 22
  refine (mworst_calls zA (zcsA w.heap.size) _ [aA, aB] 2 2 _ w.heap.size (zRd.below hz.z h) rfl (bslall b2 ?_) (by decide)).mono ?_
  · intro i l hi
    rcases i with _ | _ | i
    · simp at hi
      subst hi
      exact ⟨some ⟨W.heap.size, 0, none⟩, 3, rfl, by decide, by decide, f64all b0 (by decide)⟩
    · simp at hi
      subst hi
      exact ⟨some ⟨W.heap.size + 1, 0, none⟩, 3, rfl, by decide, by decide, f64all b1 (by decide)⟩
    · simp at hi
  · intro e w' hh
    rw [wA] at hh
    exact ⟨hh.1, hz.below (below_next h hh.2)⟩
theorem awC (w W : World) (hz : AwZ w W) :
    Calls Tryz.prog 30 #[.agg #[.slice none 0 0, .slice none 0 0, .int .i64 0, .slice none 0 0, .int .i64 0, .int .i64 0, .int .i64 0], .int .i64 2] W
      fun e w' => ∃ a g cap c, e = .returned (.tuple #[.slice (some a) 1 c, .int .i64 0]) ∧ w'.cell? a = some (.slice (some ⟨g, 0, none⟩) 3 cap) ∧ w'.cell? ⟨g, 0, none⟩ = some (.float .f64 4607182418800017408) ∧ w'.cell? ⟨g, 1, none⟩ = some (.float .f64 13830554455654793216) ∧ w'.cell? ⟨g, 2, none⟩ = some (.float .f64 0) ∧ AwZ w w' := by
  refine (mclaims_calls pA [.slice none 0 0, .slice none 0 0, .int .i64 0, .slice none 0 0, .int .i64 0, .int .i64 0, .int .i64 0] 2 W w.heap.size ⟨none, none, none, 0, 0, 0, rfl, ⟨Rd.Row.nil _ _ _ _ _, Rd.Row.nil _ _ _ _ _, Rd.Row.nil _ _ _ _ _⟩, by constructor <;> decide⟩ (by decide)).mono ?_
  rintro e w' ⟨v, es, rfl, hO, hN, hE, hW⟩
  rw [eA, if_pos rfl, lA] at hE
  obtain ⟨A, c, rfl, hc, hr⟩ := hO.row
  rcases es with _ | ⟨e0, _ | ⟨e1, es⟩⟩
  · simp at hE
  · simp only [List.map_cons, List.map_nil, List.cons.injEq, and_true] at hE
    obtain ⟨a, cs, ha, _, _, ⟨hcs, ho⟩, hcell⟩ := hr 0 e0 rfl
    subst ha
    subst hcs
    have h0 := hcell 0 _ rfl
    rcases ho.own.2 with ⟨hn, _⟩ | ⟨g, cap, cur, hv, hg, hh, h1, h2, h3, h4⟩
    · simp [OL.val] at hn
    · have hv' := hv
      simp only [OL.val, Value.slice.injEq, Option.some.injEq, Addr.mk.injEq, and_true] at hv'
      obtain ⟨hgg, _, hcc⟩ := hv'
      rw [hE] at h4
      have hl : e0.l.length = 3 := by rw [hE]; rfl
      have hcl : ∀ i u, (f64s aA)[i]? = some u → w'.cell? ⟨e0.g, i, none⟩ = some u := by
        intro i u hi
        rw [← h4, List.getElem?_take] at hi
        split at hi
        · rw [hgg, cell_of_row w' g _ cur _ (0, 0) hh, ← Array.getElem?_toList]; exact hi
        · simp at hi
      refine ⟨a, e0.g, e0.cap, c, by rw [eA]; rfl, ?_, hcl 0 _ rfl, hcl 1 _ rfl, hcl 2 _ rfl, hz.below hW⟩
      have e : a.add (0 * olRd.sz + 0) = a := by simp [Addr.add]
      rw [e] at h0
      rw [h0, OL.val, hl]
  · simp at hE
theorem awS (w W : World) (hz : AwZ w W) :
    Calls Tryz.prog 32 #[.agg (zcsA w.heap.size).toArray, .slice (some ⟨W.heap.size, 0, none⟩) 3 3, .int .i64 1] (W.alloc (.cells (f64s aB).toArray 41)) fun e w' => ∃ g, e = .returned (.slice (some ⟨g, 0, none⟩) 1 1) ∧ Blk w' g 3 [.int .i64 (-1)] ∧ AwZ w w' := by
  have h := below_new (Below.refl W.heap.size W) (.cells (f64s aB).toArray 41)
  refine (msigns_calls zA (zcsA w.heap.size) _ aB 3 3 1 _ w.heap.size (zRd.below hz.z h) rfl (f64all (Blk.new W (f64s aB).toArray 41) (by decide)) (by decide) (by decide)).mono ?_
  rintro e w' ⟨g, rfl, _, hb, hW⟩
  rw [sA] at hb
  exact ⟨g, rfl, hb, hz.below (below_next h hW)⟩
theorem awI (W : World) (g : Nat) (h : Blk W g 3 [.int .i64 (-1)]) :
    Calls Tryz.prog 31 #[.slice (some ⟨g, 0, none⟩) 1 1, .slice (some ⟨W.heap.size, 0, none⟩) 1 1] (W.alloc (.cells #[.int .i64 (-1)] 3)) fun e w' => e = .returned (.bool true) ∧ ∃ q, w' = (W.alloc (.cells #[.int .i64 (-1)] 3)).drewN q := by
  exact sameints_calls (some ⟨g, 0, none⟩) (some ⟨W.heap.size, 0, none⟩) [-1] [-1] 1 1 1 1 3 3 0 0 _ rfl rfl (i64all (zs := [-1]) (h.alloc _) (by decide)) (i64all (zs := [-1]) (blk_new' W _ rfl #[.int .i64 (-1)] 3) (by decide)) (by decide) (by decide)
theorem six' {w : World} {b t : Nat} {x0 x1 x2 x3 x4 x5 : Value} (h : Blk w b t [x0, x1, x2, x3, x4, x5]) :
    w.cell? ⟨b, 0, none⟩ = some x0 ∧ w.cell? ⟨b, 1, none⟩ = some x1 ∧ w.cell? ⟨b, 2, none⟩ = some x2 ∧ w.cell? ⟨b, 3, none⟩ = some x3 ∧ w.cell? ⟨b, 4, none⟩ = some x4 ∧ w.cell? ⟨b, 5, none⟩ = some x5 := six h
set_option maxHeartbeats 4000000 in
set_option maxRecDepth 100000 in
theorem awake_calls (w : World) : Calls Tryz.prog 9 #[] w fun e w' => e = .returned (.bool true) ∧ Below w.heap.size w w' := by
  have HZ0 := Lib.hid (awz w)
  have HM := Lib.hid (fun W hz => awM w W hz)
  have HWO := Lib.hid (fun W hz => awW w W hz)
  have HC := Lib.hid (fun W hz => awC w W hz)
  have HS := Lib.hid (fun W hz => awS w W hz)
  have HI := Lib.hid (fun W g h => awI W g h)
  go_enter Tryz.func9, Tryz.ntmps9
  go_upto_region 1 with fail
  go_cut [1] (fun s1 wx => s1 = .pointer (some ⟨w.heap.size + 1 + 1 + 1 + 1 + 1, 0, none⟩) ∧ Hid (AwZ w wx))
  case first =>
    go_wp2
    go_meet
    exact ⟨rfl, HZ0.out⟩
  case rest =>
    obtain ⟨rfl, hz⟩ := hcut
    clear HZ0
    obtain ⟨wa, rfl⟩ : ∃ wo : World, wo = wc := ⟨_, rfl⟩
    obtain ⟨c0, c1, c2, c3, c4, c5⟩ := six' hz.out.b
    go_wp2_with fail
    refine (HM.out wa hz.out aA _ rfl (by decide) mA).mono ?_
    rintro e w2 ⟨rfl, h2⟩
    have H2 := Lib.hid h2
    clear c0 c1 c2 c3 c4 c5 h2 hz
    obtain ⟨c0, c1, c2, c3, c4, c5⟩ := six' H2.out.b
    go_wp2_with fail
    refine (HM.out w2 H2.out aB _ rfl (by decide) mB).mono ?_
    rintro e w3 ⟨rfl, h3⟩
    have H3 := Lib.hid h3
    clear c0 c1 c2 c3 c4 c5 h3 H2
    obtain ⟨c0, c1, c2, c3, c4, c5⟩ := six' H3.out.b
    go_wp2_with fail
    refine (HWO.out w3 H3.out).mono ?_
    rintro e w4 ⟨rfl, h4⟩
    have H4 := Lib.hid h4
    clear c0 c1 c2 c3 c4 c5 h4 H3
    go_wp2_with fail
    refine (HC.out w4 H4.out).mono ?_
    rintro e w5 ⟨a, g, cap, c, rfl, k0, k1, k2, k3, h5⟩
    have H5 := Lib.hid h5
    clear h5 H4
    obtain ⟨c0, c1, c2, c3, c4, c5⟩ := six' H5.out.b
    go_wp2_with fail
    refine (HS.out w5 H5.out).mono ?_
    rintro e w6 ⟨g2, rfl, hb, h6⟩
    have H6 := Lib.hid h6
    clear c0 c1 c2 c3 c4 c5 h6 H5 k0 k1 k2 k3
    go_wp2_with fail
    refine (HI.out w6 g2 hb).mono ?_
    rintro e w7 ⟨rfl, q, rfl⟩
    go_wp2
    go_ret
    exact ⟨rfl, below_drewN (below_new H6.out.w _) q⟩
end Go.Proofs.YtlcigkgiiamgoaaGreatDoor

namespace Go.Proofs.YtlcigkgiiamgoaaGreatDoor
open Go.RowKit

theorem UN1 : Tryz.prog.underlying 27 = some (.slice 47) := by kernel_rfl
theorem IN1 : (Tryz.prog.info? 47).map (fun i => (i.zero, i.size, i.bytes)) = some (some (.agg #[.bool false, .slice none 0 0, .int .i64 0]), 3, 40) := by kernel_rfl
/-- the real numbers of a list of numbers' bits -/
abbrev nRd : Rd Int := numRd 1074
theorem map_take_snoc {xs : List Nat} {k x : Nat} (hk : k < xs.length) (hx : xs.getD k 0 = x) : (xs.take (k + 1)).map fv = (xs.take k).map fv ++ [fv x] := by
  rw [take_snocD hk hx, List.map_append]; rfl
set_option maxHeartbeats 4000000 in
set_option maxRecDepth 100000 in
theorem exact_calls (A : Option Addr) (l : List Nat) (n c t b1 base : Nat) (w : World) (hn : l.length = n) (hA : u64.Row t w b1 A l) (hl : n ≤ 1099511627776) (hbase : base ≤ w.heap.size) :
    Calls Tryz.prog 6 #[.slice A n c] w fun e w' => ∃ B k cc, e = .returned (.tuple #[.slice B k cc, .bool (l.all fin)]) ∧ k ≤ cc ∧ Below w.heap.size w w' ∧ (l.all fin = true → k = l.length ∧ nRd.Row 47 w' base B (l.map fv)) := by
  subst hn
  have HA := Lib.hid (fun W (hW : Below w.heap.size w W) => (show u64.Row t W b1 A l from hA.below hW))
  clear hA
  go_enter Tryz.func6, Tryz.ntmps6
  go_wp2
  go_loopw [4, 5] (fun v i wr => ∃ k : Nat, k ≤ l.length ∧ i = .int .i64 k ∧ Hid ((l.take k).all fin = true) ∧ Hid (nRd.Own 47 wr w.heap.size base v ((l.take k).map fv)) ∧ Hid (Below w.heap.size w wr)) (fun _ i _ => l.length - (intOf i).toNat)
  case atStart => exact ⟨0, by omega, rfl, rfl, by rw [Hid, List.take_zero]; exact Rd.Own.nil _ _ _ _ _, Below.refl _ _⟩
  case round =>
    obtain ⟨k, hk, rfl, hall, hO, hW⟩ := hrel
    have hlt0 : ((l.take k).map fv).length = k := by rw [List.length_map, List.length_take]; omega
    obtain ⟨vA, vc, rfl, hvc0, hvrow⟩ := hO.out.row
    rw [hlt0] at hO ⊢
    by_cases hlt : k < l.length
    · obtain ⟨a, x, rfl, hcx, hxb, hxe⟩ := u64at (HA.out wr hW.out) hlt
      have hi1 : (k : Int) < (l.length : Int) := by omega
      have hwsz := hW.out.size
      have hlen : (((l.take k).map fv).length + 1) * 40 ≤ 140737488355328 := by rw [hlt0]; omega
      have HT := Lib.hid (map_take_snoc hlt hxe.out)
      clear hlt0 hvrow hvc0
      by_cases hf : fin x = true
      · have HB := Lib.hid (of_fin x base wr hxb hf)
        have HF := Lib.hid hf
        clear hf
        go_wp2_with fail
        refine HB.out.mono ?_
        rintro e w2 ⟨cs, rfl, hr, hW2⟩
        have HR := Lib.hid hr
        obtain ⟨neg, m, ex, v, rfl, ⟨xs, A2, c2, hv, hc, hr2, ht, hval⟩, he, heb, hX⟩ := hr
        cases hv
        have HO2 := Lib.hid (hO.out.below hW2)
        have HW2 := Lib.hid (below_next hW.out hW2)
        have hwsz2 := HW2.out.size
        have HR2 := Lib.hid (fun o => nRd.below HR.out (below_new (Below.refl w2.heap.size w2) o))
        have HO3 := Lib.hid (fun o => HO2.out.below (below_new (Below.refl w2.heap.size w2) o))
        have HW3 := Lib.hid (fun o => below_new HW2.out o)
        clear hW2 hc hr2 ht hval he heb hX HB HR HO2
        go_wp2_with (at_builtin; refine own_append' nRd (w2.heap.size + 1) w.heap.size base (by simp) rfl _ _ 27 47 (.agg #[.bool false, .slice none 0 0, .int .i64 0]) 40 (by rfl) UN1 IN1 rfl (by decide) (by decide) _ ((l.take k).map fv) (fv x) _ (by rfl) (by rfl) (HR2.out _) (by decide) (HO3.out _) hbase (Nat.le_succ_of_le hwsz2) hlen ?_; intro v1 w1 hO1 hg1; have HRR := Lib.hid (And.intro hO1 (Rd.Own.below_of (HO3.out _) (HW3.out _) hg1)); clear hO1 hg1)
        go_roundw
        case rel => exact ⟨k + 1, by omega, by go_num, by rw [Hid, all_take_step hlt hxe.out, hall.out, HF.out]; rfl, by rw [HT.out]; exact HRR.out.1, HRR.out.2⟩
        case measure => simp [intOf]; omega
      · have hf' : fexp x = 2047 := by simpa [fin] using hf
        have HB := Lib.hid (of_bad x wr hxb hf')
        have HF : Hid (fin x = false) := by simpa [Hid] using hf
        clear hf hf'
        go_wp2_with fail
        refine HB.out.mono ?_
        rintro e w2 ⟨rfl, hW2⟩
        have HW2 := Lib.hid (below_next hW.out hW2)
        clear hW2 HB
        go_wp2
        go_ret2
        have hff : l.all fin = false := all_take_false hlt hxe.out HF.out
        exact ⟨none, 0, 0, by rw [hff]; rfl, Nat.le_refl _, below_new HW2.out _, fun h => by rw [hff] at h; cases h⟩
    · obtain rfl : k = l.length := by omega
      have hall2 : Hid (l.all fin = true) := by have := hall.out; rw [List.take_length] at this; exact this
      rw [List.take_length] at hvrow
      have HV := Lib.hid hvrow
      have hvc : l.length ≤ vc := by rw [List.length_map, List.take_length] at hvc0; exact hvc0
      clear hlt0 hvrow hvc0
      go_wp2
      go_ret2
      exact ⟨vA, l.length, vc, by rw [hall2.out]; rfl, hvc, hW.out, fun _ => ⟨rfl, HV.out⟩⟩
end Go.Proofs.YtlcigkgiiamgoaaGreatDoor

namespace Go.Proofs.YtlcigkgiiamgoaaGreatDoor
open Go.RowKit

set_option maxHeartbeats 4000000 in
set_option maxRecDepth 100000 in
theorem numbers_calls (A : Option Addr) (l : List Nat) (n c t b1 base : Nat) (N : Int) (w : World) (hn : l.length = n) (hA : u64.Row t w b1 A l) (hl : (n : Int) = N → n ≤ 1099511627776) (hbase : base ≤ w.heap.size) :
    Calls Tryz.prog 18 #[.slice A n c, .int .i64 N] w fun e w' => ∃ B k cc, e = .returned (.tuple #[.slice B k cc, .bool (rowB l N)]) ∧ k ≤ cc ∧ Below w.heap.size w w' ∧ (rowB l N = true → k = l.length ∧ nRd.Row 47 w' base B (l.map fv)) := by
  subst hn
  have HA := Lib.hid (fun W (hW : Below w.heap.size w W) => (show u64.Row t W b1 A l from hA.below hW))
  clear hA
  by_cases hN : (l.length : Int) = N
  rotate_left
  · have hne : ((l.length : Int) != N) = true := by simpa using hN
    have HB : Hid (rowB l N = false) := by simp [Hid, rowB, hN]
    clear hN
    go_enter Tryz.func18, Tryz.ntmps18
    go_wp2
    go_ret2
    exact ⟨none, 0, 0, by rw [HB.out]; rfl, Nat.le_refl _, Below.refl _ _, fun h => by rw [HB.out] at h; cases h⟩
  subst hN
  replace hl := hl rfl
  have HRB : Hid (rowB l (l.length : Int) = l.all fin) := by simp [Hid, rowB]
  rw [HRB.out]
  clear HRB
  have hne : ((l.length : Int) != (l.length : Int)) = false := by simp
  go_enter Tryz.func18, Tryz.ntmps18
  go_wp2
  clear hne
  go_loopw [6, 7] (fun v i wr => ∃ k : Nat, k ≤ l.length ∧ i = .int .i64 k ∧ Hid ((l.take k).all fin = true) ∧ Hid (nRd.Own 47 wr w.heap.size base v ((l.take k).map fv)) ∧ Hid (Below w.heap.size w wr)) (fun _ i _ => l.length - (intOf i).toNat)
  case atStart => exact ⟨0, by omega, rfl, rfl, by rw [Hid, List.take_zero]; exact Rd.Own.nil _ _ _ _ _, Below.refl _ _⟩
  case round =>
    obtain ⟨k, hk, rfl, hall, hO, hW⟩ := hrel
    have hlt0 : ((l.take k).map fv).length = k := by rw [List.length_map, List.length_take]; omega
    obtain ⟨vA, vc, rfl, hvc0, hvrow⟩ := hO.out.row
    rw [hlt0] at hO ⊢
    by_cases hlt : k < l.length
    · obtain ⟨a, x, rfl, hcx, hxb, hxe⟩ := u64at (HA.out wr hW.out) hlt
      have hi1 : (k : Int) < (l.length : Int) := by omega
      have hwsz := hW.out.size
      have hlen : (((l.take k).map fv).length + 1) * 40 ≤ 140737488355328 := by rw [hlt0]; omega
      have HT := Lib.hid (map_take_snoc hlt hxe.out)
      clear hlt0 hvrow hvc0
      by_cases hf : fin x = true
      · have HB := Lib.hid (of_fin x base wr hxb hf)
        have HF := Lib.hid hf
        clear hf
        go_wp2_with fail
        refine HB.out.mono ?_
        rintro e w2 ⟨cs, rfl, hr, hW2⟩
        have HR := Lib.hid hr
        obtain ⟨neg, m, ex, v, rfl, ⟨xs, A2, c2, hv, hc, hr2, ht, hval⟩, he, heb, hX⟩ := hr
        cases hv
        have HO2 := Lib.hid (hO.out.below hW2)
        have HW2 := Lib.hid (below_next hW.out hW2)
        have hwsz2 := HW2.out.size
        have HR2 := Lib.hid (fun o => nRd.below HR.out (below_new (Below.refl w2.heap.size w2) o))
        have HO3 := Lib.hid (fun o => HO2.out.below (below_new (Below.refl w2.heap.size w2) o))
        have HW3 := Lib.hid (fun o => below_new HW2.out o)
        clear hW2 hc hr2 ht hval he heb hX HB HR HO2
        go_wp2_with (at_builtin; refine own_append' nRd (w2.heap.size + 1) w.heap.size base (by simp) rfl _ _ 27 47 (.agg #[.bool false, .slice none 0 0, .int .i64 0]) 40 (by rfl) UN1 IN1 rfl (by decide) (by decide) _ ((l.take k).map fv) (fv x) _ (by rfl) (by rfl) (HR2.out _) (by decide) (HO3.out _) hbase (Nat.le_succ_of_le hwsz2) hlen ?_; intro v1 w1 hO1 hg1; have HRR := Lib.hid (And.intro hO1 (Rd.Own.below_of (HO3.out _) (HW3.out _) hg1)); clear hO1 hg1)
        go_roundw
        case rel => exact ⟨k + 1, by omega, by go_num, by rw [Hid, all_take_step hlt hxe.out, hall.out, HF.out]; rfl, by rw [HT.out]; exact HRR.out.1, HRR.out.2⟩
        case measure => simp [intOf]; omega
      · have hf' : fexp x = 2047 := by simpa [fin] using hf
        have HB := Lib.hid (of_bad x wr hxb hf')
        have HF : Hid (fin x = false) := by simpa [Hid] using hf
        clear hf hf'
        go_wp2_with fail
        refine HB.out.mono ?_
        rintro e w2 ⟨rfl, hW2⟩
        have HW2 := Lib.hid (below_next hW.out hW2)
        clear hW2 HB
        go_wp2
        go_ret2
        have hff : l.all fin = false := all_take_false hlt hxe.out HF.out
        exact ⟨none, 0, 0, by rw [hff]; rfl, Nat.le_refl _, below_new HW2.out _, fun h => by rw [hff] at h; cases h⟩
    · obtain rfl : k = l.length := by omega
      have hall2 : Hid (l.all fin = true) := by have := hall.out; rw [List.take_length] at this; exact this
      rw [List.take_length] at hvrow
      have HV := Lib.hid hvrow
      have hvc : l.length ≤ vc := by rw [List.length_map, List.take_length] at hvc0; exact hvc0
      clear hlt0 hvrow hvc0
      go_wp2
      go_ret2
      exact ⟨vA, l.length, vc, by rw [hall2.out]; rfl, hvc, hW.out, fun _ => ⟨rfl, HV.out⟩⟩
end Go.Proofs.YtlcigkgiiamgoaaGreatDoor

namespace Go.Proofs.YtlcigkgiiamgoaaGreatDoor
open Go.RowKit

abbrev mRd2 : Rd Int := numRd 2148
theorem addr_succ (p : Addr) (n : Nat) (h : 0 < n) : (⟨p.block, p.off + n, none⟩ : Addr) = p.add n := by
  unfold Addr.add; rw [if_neg (by omega)]
theorem nat_elem {K t : Nat} {w : World} {base : Nat} {A : Option Addr} {xs : List Int} (h : (numRd K).Row t w base A xs) {i : Nat} (hi : i < xs.length) :
    ∃ (a : Addr) (neg : Bool) (A2 : Option Addr) (n c : Nat) (e : Int), A = some a ∧ (numRd K).R w base (xs.getD i 0) [.bool neg, .slice A2 n c, .int .i64 e] ∧
      w.cell? (a.add (i * 3)) = some (.bool neg) ∧ w.cell? ⟨(a.add (i * 3)).block, (a.add (i * 3)).off + 1, none⟩ = some (.slice A2 n c) ∧ w.cell? ⟨(a.add (i * 3)).block, (a.add (i * 3)).off + 2, none⟩ = some (.int .i64 e) := by
  obtain ⟨a, cs, ha, _, _, hr, hc⟩ := h i xs[i] (by simp [hi])
  have hr0 := hr
  obtain ⟨neg, m, e, v, rfl, ⟨ys, A2, c, hv, _⟩, _⟩ := hr
  cases hv
  refine ⟨a, neg, A2, ys.length, c, e, ha, ?_, hc 0 _ rfl, by rw [addr_succ _ 1 (by decide), Addr.add_add]; exact hc 1 _ rfl, by rw [addr_succ _ 2 (by decide), Addr.add_add]; exact hc 2 _ rfl⟩
  rw [List.getD_eq_getElem?_getD, List.getElem?_eq_getElem hi]; exact hr0
theorem num_open {K : Nat} {w : World} {base : Nat} {X : Int} {cs : List Value} (h : (numRd K).R w base X cs) : ∃ neg A n c e, cs = [.bool neg, .slice A n c, .int .i64 e] := by
  obtain ⟨neg, m, e, v, rfl, ⟨ys, A2, c, hv, _⟩, _⟩ := h
  cases hv
  exact ⟨_, _, _, _, _, rfl⟩
def CapL : Nat := 4772
theorem times_o (K J base : Nat) (X Y : Int) (cx cy : List Value) (w : World) (hbase : base ≤ w.heap.size) (hx : (numRd K).R w base X cx) (hy : (numRd J).R w base Y cy)
    (hX : X.natAbs < 2 ^ CapL) (hY : Y.natAbs < 2 ^ CapL) (hK : K ≤ 1073741824) (hJ : J ≤ 1073741824) :
    Calls Tryz.prog 13 #[.agg cx.toArray, .agg cy.toArray] w fun r w' => ∃ neg A n c e, r = .returned (.agg #[.bool neg, .slice A n c, .int .i64 e]) ∧ (numRd (K + J)).R w' base (X * Y) [.bool neg, .slice A n c, .int .i64 e] ∧ Below w.heap.size w w' := by
  refine (times_num K J base CapL X Y cx cy w hbase hx hy hX hY (by decide) hK hJ).mono ?_
  rintro r w' ⟨cs, rfl, hr, hW⟩
  obtain ⟨neg, A, n, c, e, rfl⟩ := num_open hr
  exact ⟨_, _, _, _, _, rfl, hr, hW⟩
theorem plus_o (K base : Nat) (X Y : Int) (cx cy : List Value) (w : World) (hbase : base ≤ w.heap.size) (hx : (numRd K).R w base X cx) (hy : (numRd K).R w base Y cy)
    (hX : X.natAbs < 2 ^ CapL) (hY : Y.natAbs < 2 ^ CapL) (hK : K ≤ 1073741824) :
    Calls Tryz.prog 12 #[.agg cx.toArray, .agg cy.toArray] w fun r w' => ∃ neg A n c e, r = .returned (.agg #[.bool neg, .slice A n c, .int .i64 e]) ∧ (numRd K).R w' base (X + Y) [.bool neg, .slice A n c, .int .i64 e] ∧ Below w.heap.size w w' := by
  refine (plus_num K base CapL X Y cx cy w hbase hx hy hX hY (by decide) hK).mono ?_
  rintro r w' ⟨cs, rfl, hr, hW⟩
  obtain ⟨neg, A, n, c, e, rfl⟩ := num_open hr
  exact ⟨_, _, _, _, _, rfl, hr, hW⟩
theorem three {w : World} {b t : Nat} {x0 x1 x2 : Value} (h : Blk w b t [x0, x1, x2]) : w.cell? ⟨b, 0, none⟩ = some x0 ∧ w.cell? ⟨b, 1, none⟩ = some x1 ∧ w.cell? ⟨b, 2, none⟩ = some x2 := ⟨h.cell 0, h.cell 1, h.cell 2⟩
set_option exponentiation.threshold 6000 in
theorem cap_eqL : Cap = 2 ^ CapL := rfl
theorem getD_map_fv {a : List Nat} {k : Nat} (h : k < a.length) : (a.map fv).getD k 0 = fv (a.getD k 0) := by
  rw [List.getD_eq_getElem?_getD, List.getD_eq_getElem?_getD, List.getElem?_map, List.getElem?_eq_getElem h]; rfl
set_option exponentiation.threshold 6000 in
theorem weigh_bd {a l : List Nat} (haf : a.all fin = true) (hlf : l.all fin = true) (hle : l.length ≤ a.length) (hm2 : l.length ≤ 256) {k : Nat} (hk : k < l.length) {xa xb : Int} (hxa : (a.map fv).getD k 0 = xa) (hxb : (l.map fv).getD k 0 = xb) :
    xa.natAbs < 2 ^ CapL ∧ xb.natAbs < 2 ^ CapL ∧ (xa * xb).natAbs < 2 ^ CapL ∧ (dotS a l k).natAbs < 2 ^ CapL ∧ dotS a l k + xa * xb = dotS a l (k + 1) := by
  rw [getD_map_fv (by omega)] at hxa
  rw [getD_map_fv hk] at hxb
  have h1 := fv_le_max (all_getD haf (show k < _ by omega))
  have h2 := fv_le_max (all_getD hlf hk)
  have h3 := natAbs_mul_le h1 h2
  have h4 := dotS_bd haf hlf k (by omega) (by omega)
  rw [show fMax * fMax = F2 from rfl] at h3
  rw [← hxa, ← hxb, ← cap_eqL]
  have hc := F2_cap
  have hp : 0 < 2 ^ 64 := by decide
  have hf : fMax ≤ F2 := Nat.le_mul_of_pos_left _ (by unfold fMax; exact Nat.mul_pos (by decide) (Nat.pow_pos (by decide)))
  have e1 : k * F2 ≤ 256 * F2 := Nat.mul_le_mul_right _ (by omega)
  have e2 : 72057594037927936 * F2 ≤ 72057594037927936 * F2 * 2 ^ 64 := Nat.le_mul_of_pos_right _ hp
  generalize Cap = cp at *
  generalize F2 = f at *
  generalize 72057594037927936 * f * 2 ^ 64 = q at *
  refine ⟨by omega, by omega, by omega, by omega, rfl⟩
theorem mRd2_zero (w : World) (base : Nat) : mRd2.R w base 0 [.bool false, .slice none 0 0, .int .i64 0] :=
  ⟨false, 0, 0, _, rfl, mRd_nil _ _ _ _, fun h => absurd rfl h, by omega, by rw [Nat.zero_mul, sg_zero]⟩
theorem wstep {w W : World} {base : Nat} {X : Int} {z0 z1 z2 x0 x1 x2 : Value} {cs4 : List Value} (hW : Below w.heap.size w W) (h4 : Blk W w.heap.size 47 cs4) (h5 : Blk W (w.heap.size + 1) 47 [z0, z1, z2]) (hr : mRd2.R W base X [x0, x1, x2]) (hbase : base ≤ w.heap.size) :
    Below w.heap.size w (((W.setCell ⟨w.heap.size + 1, 0, none⟩ x0).setCell ⟨w.heap.size + 1, 1, none⟩ x1).setCell ⟨w.heap.size + 1, 2, none⟩ x2) ∧ Blk (((W.setCell ⟨w.heap.size + 1, 0, none⟩ x0).setCell ⟨w.heap.size + 1, 1, none⟩ x1).setCell ⟨w.heap.size + 1, 2, none⟩ x2) w.heap.size 47 cs4 ∧
      Blk (((W.setCell ⟨w.heap.size + 1, 0, none⟩ x0).setCell ⟨w.heap.size + 1, 1, none⟩ x1).setCell ⟨w.heap.size + 1, 2, none⟩ x2) (w.heap.size + 1) 47 [x0, x1, x2] ∧ mRd2.R (((W.setCell ⟨w.heap.size + 1, 0, none⟩ x0).setCell ⟨w.heap.size + 1, 1, none⟩ x1).setCell ⟨w.heap.size + 1, 2, none⟩ x2) base X [x0, x1, x2] := by
  obtain ⟨g1, g2, g3⟩ := set3 (base := base) (B := w.heap.size) (E := [87]) (w0 := w) x0 x1 x2 h5 (by omega) (by decide) (by omega) hW
  have hne : w.heap.size ≠ w.heap.size + 1 := by omega
  exact ⟨g3, ((h4.far (p := ⟨w.heap.size + 1, 0, none⟩) hne _).far (p := ⟨w.heap.size + 1, 1, none⟩) hne _).far (p := ⟨w.heap.size + 1, 2, none⟩) hne _, g1, mRd2.keep hr g2⟩
set_option maxHeartbeats 4000000 in
set_option maxRecDepth 100000 in
theorem weighs_calls (A B : Option Addr) (a l : List Nat) (n m ca cb t1 t2 base : Nat) (w : World) (hn : a.length = n) (hm : l.length = m) (hA : nRd.Row t1 w base A (a.map fv)) (hB : nRd.Row t2 w base B (l.map fv))
    (haf : a.all fin = true) (hlf : l.all fin = true) (hle : m ≤ n) (hm2 : m ≤ 256) (hn2 : n ≤ 1099511627776) (hbase : base ≤ w.heap.size) :
    Calls Tryz.prog 15 #[.slice A n ca, .slice B m cb] w fun e w' => ∃ cs, e = .returned (.agg cs.toArray) ∧ mRd2.R w' base (dotS a l m) cs ∧ Below w.heap.size w w' := by
  subst hn hm
  have HA := Lib.hid (fun W (hW : Below w.heap.size w W) => (show nRd.Row t1 W base A (a.map fv) from hA.below hW))
  have HB := Lib.hid (fun W (hW : Below w.heap.size w W) => (show nRd.Row t2 W base B (l.map fv) from hB.below hW))
  have HF := Lib.hid (And.intro haf hlf)
  have HW0 := Lib.hid (below_new (below_new (Below.refl w.heap.size w) (.cells #[.bool false, .slice none 0 0, .int .i64 0] 47)) (.cells #[.bool false, .slice none 0 0, .int .i64 0] 47))
  have HB40 := Lib.hid ((Blk.new w #[.bool false, .slice none 0 0, .int .i64 0] 47).alloc (.cells #[.bool false, .slice none 0 0, .int .i64 0] 47))
  have HB50 := Lib.hid (blk_new' (w.alloc (.cells #[.bool false, .slice none 0 0, .int .i64 0] 47)) (w.heap.size + 1) (by simp) #[.bool false, .slice none 0 0, .int .i64 0] 47)
  clear hA hB haf hlf
  go_enter Tryz.func15, Tryz.ntmps15
  go_wp2
  go_loopw [6] (fun iv wr => ∃ (k : Nat) (neg : Bool) (A2 : Option Addr) (n2 c2 : Nat) (ex : Int), k ≤ l.length ∧ iv = .int .i64 k ∧ Hid (Below w.heap.size w wr) ∧ Hid (Blk wr w.heap.size 47 [.bool false, .slice none 0 0, .int .i64 0]) ∧ Hid (Blk wr (w.heap.size + 1) 47 [.bool neg, .slice A2 n2 c2, .int .i64 ex]) ∧ Hid (mRd2.R wr base (dotS a l k) [.bool neg, .slice A2 n2 c2, .int .i64 ex])) (fun iv _ => l.length - (intOf iv).toNat)
  case atStart => exact ⟨0, false, none, 0, 0, 0, by omega, rfl, HW0.out, HB40.out, HB50.out, mRd2_zero _ _⟩
  case round =>
    obtain ⟨k, neg, A2, n2, c2, ex, hk, rfl, hW, hB4, hB5, hS⟩ := hrel
    by_cases hlt : k < l.length
    · obtain ⟨pa, na, Aa, la, ka, ea, rfl, ra, a0, a1, a2⟩ := nat_elem (HA.out wr hW.out) (i := k) (by rw [List.length_map]; omega)
      obtain ⟨pb, nb, Ab, lb, kb, eb, rfl, rb, b0, b1, b2⟩ := nat_elem (HB.out wr hW.out) (i := k) (by rw [List.length_map]; omega)
      have hi1 : (k : Int) < (l.length : Int) := by omega
      have hi2 : (k : Int) < (a.length : Int) := by omega
      have hi3 : (0 : Int) ≤ (k : Int) := by omega
      obtain ⟨xa, hxa⟩ : ∃ x, (a.map fv).getD k 0 = x := ⟨_, rfl⟩
      obtain ⟨xb, hxb⟩ : ∃ x, (l.map fv).getD k 0 = x := ⟨_, rfl⟩
      rw [hxa] at ra
      rw [hxb] at rb
      have HX : Hid (xa.natAbs < 2 ^ CapL ∧ xb.natAbs < 2 ^ CapL ∧ (xa * xb).natAbs < 2 ^ CapL ∧ (dotS a l k).natAbs < 2 ^ CapL ∧ dotS a l k + xa * xb = dotS a l (k + 1)) := weigh_bd HF.out.1 HF.out.2 hle hm2 hlt hxa hxb
      have hbs := Nat.le_trans hbase hW.out.size
      have HT := Lib.hid (fun W (hW : Below wr.heap.size wr W) => times_o 1074 1074 base xa xb _ _ W (Nat.le_trans hbs hW.size) (Rd.below _ ra hW) (Rd.below _ rb hW) HX.out.1 HX.out.2.1 (by decide) (by decide))
      have HP := Lib.hid (fun W ct (hW : Below wr.heap.size wr W) (hr : mRd2.R W base (xa * xb) ct) => plus_o 2148 base (dotS a l k) (xa * xb) _ ct W (Nat.le_trans hbs hW.size) (Rd.below _ hS.out hW) hr HX.out.2.2.2.1 HX.out.2.2.1 (by decide))
      obtain ⟨s0, s1, s2⟩ : wr.cell? ⟨w.heap.size + 1, 0, none⟩ = some (.bool neg) ∧ wr.cell? ⟨w.heap.size + 1, 1, none⟩ = some (.slice A2 n2 c2) ∧ wr.cell? ⟨w.heap.size + 1, 2, none⟩ = some (.int .i64 ex) := ⟨hB5.out.cell 0, hB5.out.cell 1, hB5.out.cell 2⟩
      clear ra rb hxa hxb
      go_wp2
      go_region_with (first
        | (go_at_call 13; refine (HT.out _ (by repeat (first | exact Below.refl _ _ | (with_reducible apply below_drewN) | (with_reducible apply Below.drew)))).mono ?_; rintro e w2 ⟨nt, At, lt, kt, et, rfl, hrt, hWt⟩; have HW2 : Hid (Below wr.heap.size wr w2) := below_next (by repeat (first | exact Below.refl _ _ | (with_reducible apply below_drewN) | (with_reducible apply Below.drew))) hWt; have HRT := Lib.hid hrt; have HB2 := Lib.hid (Blk.below' hB5.out HW2.out); obtain ⟨q0, q1, q2⟩ : w2.cell? ⟨w.heap.size + 1, 0, none⟩ = some (.bool neg) ∧ w2.cell? ⟨w.heap.size + 1, 1, none⟩ = some (.slice A2 n2 c2) ∧ w2.cell? ⟨w.heap.size + 1, 2, none⟩ = some (.int .i64 ex) := ⟨HB2.out.cell 0, HB2.out.cell 1, HB2.out.cell 2⟩; clear hrt hWt)
        | (go_at_call 12; refine (HP.out _ _ (by repeat (first | exact HW2.out | (with_reducible apply below_drewN) | (with_reducible apply Below.drew))) (by repeat (first | exact HRT.out))).mono ?_; rintro e w3 ⟨np, Ap, lp, kp, ep, rfl, hrp, hWp⟩; have HW3 : Hid (Below wr.heap.size wr w3) := below_next (by repeat (first | exact HW2.out | (with_reducible apply below_drewN) | (with_reducible apply Below.drew))) hWp; have HRP := Lib.hid hrp; have HB3 := Lib.hid (Blk.below' hB5.out HW3.out); obtain ⟨p0, p1, p2⟩ : w3.cell? ⟨w.heap.size + 1, 0, none⟩ = some (.bool neg) ∧ w3.cell? ⟨w.heap.size + 1, 1, none⟩ = some (.slice A2 n2 c2) ∧ w3.cell? ⟨w.heap.size + 1, 2, none⟩ = some (.int .i64 ex) := ⟨HB3.out.cell 0, HB3.out.cell 1, HB3.out.cell 2⟩; have g0 := HB3.out.frozen 0; have g1 := HB3.out.frozen 1; have g2 := HB3.out.frozen 2; clear hrp hWp))
      all_goals (
        go_wp2
        go_roundw
        case rel => exact ⟨k + 1, np, Ap, lp, kp, ep, by omega, by go_num, (wstep (below_next hW.out HW3.out) (Blk.below' hB4.out HW3.out) HB3.out HRP.out hbase).1, (wstep (below_next hW.out HW3.out) (Blk.below' hB4.out HW3.out) HB3.out HRP.out hbase).2.1, (wstep (below_next hW.out HW3.out) (Blk.below' hB4.out HW3.out) HB3.out HRP.out hbase).2.2.1, by rw [← HX.out.2.2.2.2]; exact (wstep (below_next hW.out HW3.out) (Blk.below' hB4.out HW3.out) HB3.out HRP.out hbase).2.2.2⟩
        case measure => simp [intOf]; omega)
    · obtain rfl : k = l.length := by omega
      obtain ⟨s0, s1, s2⟩ : wr.cell? ⟨w.heap.size + 1, 0, none⟩ = some (.bool neg) ∧ wr.cell? ⟨w.heap.size + 1, 1, none⟩ = some (.slice A2 n2 c2) ∧ wr.cell? ⟨w.heap.size + 1, 2, none⟩ = some (.int .i64 ex) := ⟨hB5.out.cell 0, hB5.out.cell 1, hB5.out.cell 2⟩
      obtain ⟨r0, r1, r2⟩ : wr.cell? ⟨w.heap.size, 0, none⟩ = some (.bool false) ∧ wr.cell? ⟨w.heap.size, 1, none⟩ = some (.slice none 0 0) ∧ wr.cell? ⟨w.heap.size, 2, none⟩ = some (.int .i64 0) := ⟨hB4.out.cell 0, hB4.out.cell 1, hB4.out.cell 2⟩
      have f0 := hB4.out.frozen 0
      have f1 := hB4.out.frozen 1
      have f2 := hB4.out.frozen 2
      obtain ⟨g1, g2, g3⟩ := set3 (base := base) (B := w.heap.size) (E := [87]) (w0 := w) (.bool neg) (.slice A2 n2 c2) (.int .i64 ex) hB4.out hbase (by decide) (Nat.le_refl _) hW.out
      have HG := Lib.hid (And.intro g3 (mRd2.keep hS.out g2))
      obtain ⟨t0, t1, t2⟩ := three g1
      clear g1 g2 g3
      go_wp2
      refine bodyPost_ret (v := .agg #[.bool neg, .slice A2 n2 c2, .int .i64 ex]) (by simp [results, Tryz.results15, go_sem, t0, t1, t2]) rfl ⟨[.bool neg, .slice A2 n2 c2, .int .i64 ex], rfl, HG.out.2, HG.out.1⟩
end Go.Proofs.YtlcigkgiiamgoaaGreatDoor

namespace Go.Proofs.YtlcigkgiiamgoaaGreatDoor
open Go.RowKit

end Go.Proofs.YtlcigkgiiamgoaaGreatDoor

namespace Go.Proofs.YtlcigkgiiamgoaaGreatDoor
open Go.RowKit

theorem eq_neq (n : Nat) : ((n : Int) != (n : Int)) = false := by simp
end Go.Proofs.YtlcigkgiiamgoaaGreatDoor

namespace Go.Proofs.YtlcigkgiiamgoaaGreatDoor
open Go.RowKit

/-- a real at a finer scale -/
theorem num_raise {K J : Nat} {w : World} {base : Nat} {X : Int} {cs : List Value} (h : (numRd K).R w base X cs) : (numRd (K + J)).R w base (X * (2 ^ J : Nat)) cs := by
  obtain ⟨neg, m, e, v, rfl, hm, he, heb, rfl⟩ := h
  refine ⟨neg, m, e, v, rfl, hm, fun h => by have := he h; omega, heb, ?_⟩
  by_cases h0 : m = 0
  · subst h0; simp [sg_zero]
  · have h1 := he h0
    rw [show (e + (K + J : Nat) : Int).toNat = (e + K).toNat + J from by omega, Nat.pow_add, ← Nat.mul_assoc]
    generalize m * 2 ^ (e + K).toNat = q
    cases neg
    · simp [sg]
    · simp [sg, Int.neg_mul]
/-- the reference's real zonotope -/
structure RRows (w : World) (base : Nat) (z : Zn) (AC AI AG AR : Option Addr) : Prop where
  C : nRd.Row 47 w base AC (z.C.map fv)
  I : i64.Row 3 w base AI z.Ids
  G : (bsl 47 nRd).Row 27 w base AG (z.G.map (fun g => g.map fv))
  R : nRd.Row 47 w base AR (z.R.map fv)
def realCs (z : Zn) (AC AI AG AR : Option Addr) (cC cI cG cR : Nat) : List Value := [.int .i64 z.N, .slice AC z.C.length cC, .slice AI z.Ids.length cI, .slice AG z.G.length cG, .slice AR z.R.length cR]
theorem RRows.below {w w' : World} {base : Nat} {z : Zn} {AC AI AG AR : Option Addr} (h : RRows w base z AC AI AG AR) (hW : Below w.heap.size w w') : RRows w' base z AC AI AG AR :=
  ⟨h.C.below hW, h.I.below hW, h.G.below hW, h.R.below hW⟩
end Go.Proofs.YtlcigkgiiamgoaaGreatDoor

namespace Go.Proofs.YtlcigkgiiamgoaaGreatDoor
open Go.RowKit

/-! ### ref10.Reals -/
theorem Rd.Own.keep {α : Type} {d : Rd α} {t : Nat} {w w' : World} {b0 base : Nat} {v : Value} {xs : List α} {E : List Nat} (h : d.Own t w b0 base v xs) (hk : Keeps base E w w') (ht : t ∈ E) (hE : ∀ q, q ∈ d.E → q ∈ E) : d.Own t w' b0 base v xs := by
  obtain ⟨css, hl, ho, hr⟩ := h
  refine ⟨css, hl, ⟨ho.1, ?_⟩, fun i x c h1 h2 => d.keep (hr i x c h1 h2) (hk.sub hE)⟩
  rcases ho.2 with hn | ⟨g, cap, cur, rfl, hg, hh, r⟩
  · exact .inl hn
  · exact .inr ⟨g, cap, cur, rfl, hg, (hk.2 g (Array.getElem?_eq_some_iff.1 hh).1 (.inr ⟨cur, t, ht, hh⟩)).trans hh, r⟩
def realB (z : Zn) : Bool := !z.bad && goodB z
theorem five {w : World} {b t : Nat} {x0 x1 x2 x3 x4 : Value} (h : Blk w b t [x0, x1, x2, x3, x4]) :
    w.cell? ⟨b, 0, none⟩ = some x0 ∧ w.cell? ⟨b, 1, none⟩ = some x1 ∧ w.cell? ⟨b, 2, none⟩ = some x2 ∧ w.cell? ⟨b, 3, none⟩ = some x3 ∧ w.cell? ⟨b, 4, none⟩ = some x4 :=
  ⟨h.cell 0, h.cell 1, h.cell 2, h.cell 3, h.cell 4⟩
abbrev zc5 : List Value := [.int .i64 0, .slice none 0 0, .slice none 0 0, .slice none 0 0, .slice none 0 0]
theorem realB_no {z : Zn} (h : z.bad = true ∨ z.N < 1 ∨ 256 < z.N ∨ z.Ids.length ≠ z.G.length ∨ rowB z.C z.N = false ∨ rowB z.R z.N = false) : realB z = false := by
  unfold realB goodB
  rcases h with h | h | h | h | h | h
  · rw [h]; rfl
  · rw [decide_eq_false (show ¬ 1 ≤ z.N by omega)]; simp
  · rw [decide_eq_false (show ¬ z.N ≤ 256 by omega)]; simp
  · rw [decide_eq_false h]; simp
  · rw [h]; simp
  · rw [h]; simp
set_option maxHeartbeats 2000000 in
set_option maxRecDepth 100000 in
theorem reals_early (z : Zn) (cs : List Value) (w : World) (b1 : Nat) (h : rzRd.R w b1 z cs) (hb : z.bad = true ∨ z.N < 1 ∨ 256 < z.N ∨ z.Ids.length ≠ z.G.length) :
    Calls Tryz.prog 4 #[.agg cs.toArray] w fun e w' => e = .returned (.tuple #[.agg zc5.toArray, .bool false]) ∧ Below w.heap.size w w' := by
  obtain ⟨AC, AI, AG, AR, cC, cI, cG, cR, rfl, hr, hl⟩ := h
  obtain ⟨N, C, Ids, G, R, bad⟩ := z
  have h1 : Ids.length ≤ 17592186044416 := hl.i.2
  have h2 : G.length ≤ 17592186044416 := Nat.le_trans hl.g.2 (by decide)
  simp only at hb ⊢
  clear hr hl
  rcases hb with rfl | hb
  · go_enter Tryz.func4, Tryz.ntmps4
    go_wp2
    refine bodyPost_ret (v := .tuple #[.agg zc5.toArray, .bool false]) (by simp [results, Tryz.results4, go_sem]) rfl ⟨rfl, below_new (below_new (Below.refl _ _) _) _⟩
  · cases bad
    rotate_left
    · clear hb
      go_enter Tryz.func4, Tryz.ntmps4
      go_wp2
      refine bodyPost_ret (v := .tuple #[.agg zc5.toArray, .bool false]) (by simp [results, Tryz.results4, go_sem]) rfl ⟨rfl, below_new (below_new (Below.refl _ _) _) _⟩
    · by_cases hn1 : N < 1
      · clear hb
        go_enter Tryz.func4, Tryz.ntmps4
        go_wp2
        refine bodyPost_ret (v := .tuple #[.agg zc5.toArray, .bool false]) (by simp [results, Tryz.results4, go_sem]) rfl ⟨rfl, below_new (below_new (Below.refl _ _) _) _⟩
      · by_cases hn2 : 256 < N
        · clear hb
          go_enter Tryz.func4, Tryz.ntmps4
          go_wp2
          refine bodyPost_ret (v := .tuple #[.agg zc5.toArray, .bool false]) (by simp [results, Tryz.results4, go_sem]) rfl ⟨rfl, below_new (below_new (Below.refl _ _) _) _⟩
        · have hb' : Ids.length ≠ G.length := by
            rcases hb with h | h | h
            · exact absurd h hn1
            · exact absurd h hn2
            · exact h
          have e1 : ((Ids.length : Int) != (G.length : Int)) = true := by simp; omega
          clear hb hb'
          go_enter Tryz.func4, Tryz.ntmps4
          go_wp2
          refine bodyPost_ret (v := .tuple #[.agg zc5.toArray, .bool false]) (by simp [results, Tryz.results4, go_sem]) rfl ⟨rfl, below_new (below_new (Below.refl _ _) _) _⟩
end Go.Proofs.YtlcigkgiiamgoaaGreatDoor

namespace Go.Proofs.YtlcigkgiiamgoaaGreatDoor
open Go.RowKit

/-- the world behind the three first blocks of Reals -/
abbrev rzCs (N : Int) (AC AI AG AR : Option Addr) (lC cC lI cI lG cG lR cR : Nat) (b : Bool) : List Value := [.int .i64 N, .slice AC lC cC, .slice AI lI cI, .slice AG lG cG, .slice AR lR cR, .bool b]
structure RW (w wx : World) (zs xs : List Value) : Prop where
  W : Below w.heap.size w wx
  Z : Blk wx w.heap.size 36 zs
  O : Blk wx (w.heap.size + 1) 30 zc5
  X : Blk wx (w.heap.size + 2) 30 xs
theorem RW.next {w wx wy : World} {zs xs : List Value} (h : RW w wx zs xs) (hb : Below wx.heap.size wx wy) : RW w wy zs xs :=
  ⟨below_next h.W hb, h.Z.below' hb, h.O.below' hb, h.X.below' hb⟩
theorem RW.drewN {w wx : World} {zs xs : List Value} (h : RW w wx zs xs) (q : Nat) : RW w (wx.drewN q) zs xs := ⟨below_drewN h.W q, h.Z, h.O, h.X⟩
theorem rw_new (w : World) (zs : List Value) (N : Int) : RW w (((w.alloc (.cells zs.toArray 36)).alloc (.cells zc5.toArray 30)).alloc (.cells #[.int .i64 N, .slice none 0 0, .slice none 0 0, .slice none 0 0, .slice none 0 0] 30)) zs [.int .i64 N, .slice none 0 0, .slice none 0 0, .slice none 0 0, .slice none 0 0] := by
  refine ⟨below_new (below_new (below_new (Below.refl _ _) _) _) _, ((Blk.new w zs.toArray 36).alloc _).alloc _, (blk_new' (w.alloc (.cells zs.toArray 36)) (w.heap.size + 1) (by simp) zc5.toArray 30).alloc _, ?_⟩
  have := blk_new' ((w.alloc (.cells zs.toArray 36)).alloc (.cells zc5.toArray 30)) (w.heap.size + 2) (by simp) #[.int .i64 N, .slice none 0 0, .slice none 0 0, .slice none 0 0, .slice none 0 0] 30
  exact this
set_option maxHeartbeats 4000000 in
set_option maxRecDepth 100000 in
theorem reals_head (z : Zn) (cs : List Value) (w : World) (b1 base : Nat) (h : rzRd.R w b1 z cs) (hbase : base ≤ w.heap.size) (hb : z.bad = false) (hn1 : 1 ≤ z.N) (hn2 : z.N ≤ 256) (hL : z.Ids.length = z.G.length) (hrow : (rowB z.C z.N && rowB z.R z.N) = false) :
    Calls Tryz.prog 4 #[.agg cs.toArray] w fun e w' => e = .returned (.tuple #[.agg zc5.toArray, .bool false]) ∧ Below w.heap.size w w' := by
  obtain ⟨AC, AI, AG, AR, cC, cI, cG, cR, rfl, hr, hl⟩ := h
  obtain ⟨N, C, Ids, G, R, bad⟩ := z
  simp only at hb hn1 hn2 hL hrow ⊢
  subst hb
  have HNC := Lib.hid (fun W (hW : Below w.heap.size w W) => numbers_calls AC C C.length cC 51 b1 base N W rfl (hr.C.below hW) (by omega) (Nat.le_trans hbase hW.size))
  have HNR := Lib.hid (fun W (hW : Below w.heap.size w W) => numbers_calls AR R R.length cR 51 b1 base N W rfl (hr.R.below hW) (by omega) (Nat.le_trans hbase hW.size))
  have HW := Lib.hid (rw_new w [.int .i64 N, .slice AC C.length cC, .slice AI Ids.length cI, .slice AG G.length cG, .slice AR R.length cR, .bool false] N)
  have h1 : Ids.length ≤ 17592186044416 := hl.i.2
  have h2 : G.length ≤ 17592186044416 := Nat.le_trans hl.g.2 (by decide)
  have hd1 : decide (N < 1) = false := by simp; omega
  have hd2 : decide (256 < N) = false := by simp; omega
  have e1 : ((Ids.length : Int) != (G.length : Int)) = false := by simp; omega
  obtain ⟨rc, hrc⟩ : ∃ r, rowB C N = r := ⟨_, rfl⟩
  obtain ⟨rr, hrr⟩ : ∃ r, rowB R N = r := ⟨_, rfl⟩
  rw [hrc] at HNC hrow
  rw [hrr] at HNR hrow
  clear hr hl hrc hrr hL
  go_enter Tryz.func4, Tryz.ntmps4
  go_wp2_with fail
  refine (HNC.out _ HW.out.W).mono ?_
  rintro e w1 ⟨B1, k1, c1, rfl, hk1, hW1, hC1⟩
  have H1 := Lib.hid (HW.out.next hW1)
  obtain ⟨z0, _, _, _, z4, _⟩ := six H1.out.Z
  clear hW1 hC1 HNC HW hd1 hd2 e1
  go_wp2_with fail
  refine (HNR.out _ H1.out.W).mono ?_
  rintro e w2 ⟨B2, k2, c2, rfl, hk2, hW2, hC2⟩
  have H2 := Lib.hid (H1.out.next hW2)
  obtain ⟨o0, o1, o2, o3, o4⟩ := five H2.out.O
  have f0 := H2.out.O.frozen 0; have f1 := H2.out.O.frozen 1; have f2 := H2.out.O.frozen 2; have f3 := H2.out.O.frozen 3; have f4 := H2.out.O.frozen 4
  have x1 := H2.out.X.cell 1; have x4 := H2.out.X.cell 4; have g1 := H2.out.X.frozen 1; have g4 := H2.out.X.frozen 4
  obtain ⟨s1, s2, s3⟩ := set5 (base := 0) (B := w.heap.size) (E := []) (w0 := w) (.int .i64 0) (.slice none 0 0) (.slice none 0 0) (.slice none 0 0) (.slice none 0 0) H2.out.O (by omega) (by simp) (by omega) H2.out.W
  have HS := Lib.hid s3
  obtain ⟨t0, t1, t2, t3, t4⟩ := five s1
  clear hW2 hC2 HNR z0 z4 s1 s2 s3
  cases rc
  · go_wp2
    refine bodyPost_ret (v := .tuple #[.agg zc5.toArray, .bool false]) (by simp [results, Tryz.results4, go_sem, t0, t1, t2, t3, t4]) rfl ⟨rfl, HS.out⟩
  · have hrr : rr = false := by simpa using hrow
    subst hrr
    go_wp2
    refine bodyPost_ret (v := .tuple #[.agg zc5.toArray, .bool false]) (by simp [results, Tryz.results4, go_sem, t0, t1, t2, t3, t4]) rfl ⟨rfl, HS.out⟩
end Go.Proofs.YtlcigkgiiamgoaaGreatDoor

namespace Go.Proofs.YtlcigkgiiamgoaaGreatDoor
open Go.RowKit

abbrev gRd : Rd (List Int) := bsl 47 nRd
theorem nRd_E : nRd.E = [87] := rfl
theorem gRd_E : gRd.E = [47, 87] := rfl
/-- what Reals holds in its second loop -/
structure RS (w wx : World) (base : Nat) (zs : List Value) (n : Nat) (C R : List Nat) (B1 B2 : Option Addr) (c1 c2 : Nat) (vI vG : Value) (I : List Int) (Gs : List (List Int)) : Prop where
  rw : RW w wx zs [.int .i64 n, .slice B1 n c1, vI, vG, .slice B2 n c2]
  C : nRd.Row 47 wx base B1 (C.map fv)
  R : nRd.Row 47 wx base B2 (R.map fv)
  I : i64.Own 3 wx w.heap.size base vI I
  G : gRd.Own 27 wx w.heap.size base vG Gs
section
variable {w wx wy : World} {base n c1 c2 : Nat} {zs : List Value} {C R : List Nat} {B1 B2 : Option Addr} {vI vG : Value} {I : List Int} {Gs : List (List Int)}
theorem RS.next (h : RS w wx base zs n C R B1 B2 c1 c2 vI vG I Gs) (hb : Below wx.heap.size wx wy) : RS w wy base zs n C R B1 B2 c1 c2 vI vG I Gs :=
  ⟨h.rw.next hb, h.C.below hb, h.R.below hb, h.I.below hb, h.G.below hb⟩
theorem RS.drewN (h : RS w wx base zs n C R B1 B2 c1 c2 vI vG I Gs) (q : Nat) : RS w (wx.drewN q) base zs n C R B1 B2 c1 c2 vI vG I Gs :=
  h.next (below_drewN (Below.refl _ _) q)
theorem RS.drew (h : RS w wx base zs n C R B1 B2 c1 c2 vI vG I Gs) : RS w wx.drew base zs n C R B1 B2 c1 c2 vI vG I Gs :=
  h.next (Below.refl _ _).drew
theorem RW.grown {xs : List Value} {row : Option Nat} {α : Type} {d : Rd α} {t : Nat} {v : Value} {es : List α} (h : RW w wx zs xs) (ho : d.Own t wx w.heap.size base v es) (hg : wx.grownBy wy v.ownBlock) (h1 : 36 ≠ t) (h2 : 30 ≠ t) : RW w wy zs xs :=
  ⟨Rd.Own.below_of ho h.W hg, h.Z.grown hg (h.Z.ne_ownd ho h1), h.O.grown hg (h.O.ne_ownd ho h2), h.X.grown hg (h.X.ne_ownd ho h2)⟩
theorem RW.setX {xs : List Value} (h : RW w wx zs xs) (i : Nat) (v : Value) : RW w (wx.setCell ⟨w.heap.size + 2, i, none⟩ v) zs (xs.set i v) :=
  ⟨h.W.setCell (p := ⟨w.heap.size + 2, i, none⟩) (show w.heap.size ≤ w.heap.size + 2 by omega) _, h.Z.far (p := ⟨w.heap.size + 2, i, none⟩) (show w.heap.size ≠ w.heap.size + 2 by omega) _, h.O.far (p := ⟨w.heap.size + 2, i, none⟩) (show w.heap.size + 1 ≠ w.heap.size + 2 by omega) _, h.X.set i v⟩
theorem RS.appI {v1 : Value} {x : Int} (h : RS w wx base zs n C R B1 B2 c1 c2 vI vG I Gs) (hbase : base ≤ w.heap.size) (ho : i64.Own 3 wy w.heap.size base v1 (I ++ [x])) (hg : wx.grownBy wy vI.ownBlock) :
    RS w (wy.setCell ⟨w.heap.size + 2, 2, none⟩ v1) base zs n C R B1 B2 c1 c2 v1 vG (I ++ [x]) Gs ∧ RW w wy zs [.int .i64 n, .slice B1 n c1, vI, vG, .slice B2 n c2] ∧ Keeps base [47, 87, 27] wx (wy.setCell ⟨w.heap.size + 2, 2, none⟩ v1) := by
  have hr := RW.grown (row := none) h.rw h.I hg (by decide) (by decide)
  have k1 : Keeps base [47, 87, 27] wx wy := h.I.keeps hg hbase (by decide)
  have k2 : Keeps base [47, 87, 27, 3] wy (wy.setCell ⟨w.heap.size + 2, 2, none⟩ v1) := Keeps.set_blk hr.X (by omega) (by decide) 2 v1
  have k := k1.trans (k2.sub (by simp +contextual))
  refine ⟨⟨hr.setX 2 v1, h.C.keep k (by simp) (by intro q hq; rw [nRd_E] at hq; simp at hq; simp [hq]), h.R.keep k (by simp) (by intro q hq; rw [nRd_E] at hq; simp at hq; simp [hq]), ho.keep k2 (by simp) (by intro q hq; cases hq), h.G.keep k (by simp) (by intro q hq; rw [gRd_E] at hq; simp at hq; rcases hq with hq | hq <;> simp [hq])⟩, hr, k⟩
theorem RS.appG {v1 : Value} {x : List Int} (h : RS w wx base zs n C R B1 B2 c1 c2 vI vG I Gs) (hbase : base ≤ w.heap.size) (ho : gRd.Own 27 wy w.heap.size base v1 (Gs ++ [x])) (hg : wx.grownBy wy vG.ownBlock) :
    RS w (wy.setCell ⟨w.heap.size + 2, 3, none⟩ v1) base zs n C R B1 B2 c1 c2 vI v1 I (Gs ++ [x]) ∧ RW w wy zs [.int .i64 n, .slice B1 n c1, vI, vG, .slice B2 n c2] := by
  have hr := RW.grown (row := none) h.rw h.G hg (by decide) (by decide)
  have k1 : Keeps base [47, 87, 3] wx wy := h.G.keeps hg hbase (by decide)
  have k2 : Keeps base [47, 87, 3, 27] wy (wy.setCell ⟨w.heap.size + 2, 3, none⟩ v1) := Keeps.set_blk hr.X (by omega) (by decide) 3 v1
  have k := k1.trans (k2.sub (by simp +contextual))
  refine ⟨⟨hr.setX 3 v1, h.C.keep k (by simp) (by intro q hq; rw [nRd_E] at hq; simp at hq; simp [hq]), h.R.keep k (by simp) (by intro q hq; rw [nRd_E] at hq; simp at hq; simp [hq]), h.I.keep k (by simp) (by intro q hq; cases hq), ho.keep k2 (by simp) (by intro q hq; rw [gRd_E] at hq; simp at hq; rcases hq with hq | hq <;> simp [hq])⟩, hr⟩
end
end Go.Proofs.YtlcigkgiiamgoaaGreatDoor
