/- Walks and plain laws of this seat's functions, part 2: A1 A2 A3 A4 A5. -/
import Derived.Deep.MidRow
import Derived.StillTailTactics
import Derived.Test.YtcfejobdgiiihaaGreatDoorJ01
set_option linter.unusedVariables false
set_option linter.unusedSimpArgs false
namespace Go.Proofs.YtcfejobdgiiihaaGreatDoor
open Go.RowKit

/-! ### exact sums: 76 words, two's complement, and a mark -/
def accCells (ws : List Nat) (bad : Bool) : List Value := i64s ws ++ [.bool bad]
theorem i64s_length (ws : List Nat) : (i64s ws).length = ws.length := by simp [i64s]
theorem acc_at {w : World} {b t : Nat} {ws : List Nat} {bad : Bool} (h : Blk w b t (accCells ws bad)) {i : Nat} (hi : i < ws.length) :
    w.cell? ⟨b, i, none⟩ = some (.int .u64 (ws.getD i 0 : Nat)) := by
  rw [h.cell, accCells, List.getElem?_append_left (by rw [i64s_length]; exact hi)]
  simp [i64s, hi]
theorem acc_mark {w : World} {b t : Nat} {ws : List Nat} {bad : Bool} (h : Blk w b t (accCells ws bad)) {n : Nat} (hn : ws.length = n) :
    w.cell? ⟨b, n, none⟩ = some (.bool bad) := by
  rw [h.cell, accCells, List.getElem?_append_right (by rw [i64s_length]; omega), i64s_length, hn, Nat.sub_self]; rfl
theorem acc_set {w : World} {b t : Nat} {ws : List Nat} {bad : Bool} (h : Blk w b t (accCells ws bad)) (i x : Nat) (v : Int) (hv : v = x) (hi : i < ws.length) :
    Blk (w.setCell ⟨b, i, none⟩ (.int .u64 v)) b t (accCells (ws.set i x) bad) := by
  subst hv
  have := h.set i (.int .u64 (x : Nat))
  rw [accCells, List.set_append_left _ _ (by rw [i64s_length]; exact hi)] at this
  rw [accCells]
  simpa [i64s, List.map_set] using this
/-- the words of a real in parts of 2^-2212 -/
structure WordsOf (X : Int) (ws : List Nat) : Prop where
  len : ws.length = 76
  bd : ∀ d ∈ ws, d < B64
  eq : (val B64 ws : Int) = X % (B64 ^ 76 : Nat)
def Cap : Nat := 2 ^ 4772
def AccI (w : World) (b : Nat) (X : Int) : Prop := X.natAbs < Cap ∧ ∃ ws, WordsOf X ws ∧ Blk w b 129 (accCells ws false)


theorem A76 : (Tryz.prog.underlying 126).map (·.isRow) = some true := by kernel_rfl
theorem below_scs {B b : Nat} {w : World} (hb : B ≤ b) : ∀ (vs : List Value) (o : Nat) (W : World), Below B w W → Below B w (W.setCells b o vs)
  | [], _, _, h => h
  | v :: r, o, W, h => below_scs hb r (o + 1) _ (h.setCell hb v)
theorem scs_size (b : Nat) : ∀ (vs : List Value) (o : Nat) (W : World), (W.setCells b o vs).heap.size = W.heap.size
  | [], _, _ => rfl
  | v :: r, o, W => by rw [World.setCells, scs_size b r]; simp [World.setCell]
theorem scs_other {b k : Nat} (hk : k ≠ b) : ∀ (vs : List Value) (o : Nat) (W : World), (W.setCells b o vs).heap[k]? = W.heap[k]?
  | [], _, _ => rfl
  | v :: r, o, W => by rw [World.setCells, scs_other hk r]; exact Below.heap_setCell W _ v k hk
theorem only_scs (b o : Nat) (vs : List Value) (W : World) : Only b W (W.setCells b o vs) :=
  ⟨below_scs (Nat.le_refl _) vs o W (Below.refl _ _), scs_size b vs o W, fun _ hk => scs_other hk vs o W⟩
theorem Blk.scs {b t : Nat} : ∀ (vs : List Value) (o : Nat) (W : World) (cs : List Value), Blk W b t cs → o + vs.length ≤ cs.length → Blk (W.setCells b o vs) b t (cs.take o ++ (vs ++ cs.drop (o + vs.length)))
  | [], o, W, cs, h, _ => by simpa [World.setCells] using h
  | v :: r, o, W, cs, h, hl => by
    simp only [List.length_cons] at hl
    have := Blk.scs r (o + 1) _ (cs.set o v) (h.set o v) (by simp; omega)
    rw [World.setCells]
    have e1 : (cs.set o v).take (o + 1) = cs.take o ++ [v] := by
      rw [List.take_succ_eq_append_getElem (by simp; omega)]
      rw [List.getElem_set_self, List.take_set, List.set_eq_of_length_le (by simp; omega)]
    have e2 : (cs.set o v).drop (o + 1 + r.length) = cs.drop (o + (v :: r).length) := by
      rw [List.drop_set, if_pos (by omega)]; congr 1; simp; omega
    rw [e1, e2] at this
    simpa using this
/-- a whole array goes into the front of a block -/
theorem wp_store_front {op : Oper} {a : Act} {w : World} {K : Act → World → Prop} {Q : Exit → Act → World → Prop} (ty : TypeId) (x y : Operand) (ho : op.op = .store ty x y)
    (b t : Nat) (hx : a.eval x = .pointer (some ⟨b, 0, none⟩)) (old post vs : List Value) (hy : a.eval y = .agg vs.toArray) (hb : Blk w b t (old ++ post)) (hl : old.length = vs.length)
    (hi : (Tryz.prog.info? ty).map (·.size) = some vs.length) (h1 : ∀ v ∈ vs, v.oneCell' = true)
    (h : ∀ w2, Blk w2 b t (vs ++ post) → Only b w w2 → K (a.put op.dst undef) w2) : op.wp Tryz.prog a w K Q := by
  have hb2 := Blk.scs vs 0 w _ hb (by simp; omega)
  refine wp_store_mid ty x y ho b 0 vs.toArray hx hy (fun j hj => ?_) (by simpa using hi) (all_oneCell_toArray h1) ?_
  · rw [Nat.zero_add]
    refine ⟨?_, hb.frozen j⟩
    rw [hb.cell, List.getElem?_append_left (by simp at hj; omega)]
    simp at hj
    rw [List.getElem?_eq_getElem (by omega)]; rfl
  · refine h _ ?_ (by simpa using only_scs b 0 vs w)
    simpa [hl.symm, List.drop_append] using hb2
theorem run_load_row {w : World} {b ty : Nat} {cs : List Value} (hc : w.rangeAt b 0 cs) (hu : (Tryz.prog.underlying ty).map (·.isRow) = some true) (hi : (Tryz.prog.info? ty).map (·.size) = some cs.length) :
    (Instr.loadAt ty (.pointer (some ⟨b, 0, none⟩))).run Tryz.prog w = .ok (.agg cs.toArray) w := by
  obtain ⟨d, hd, hr⟩ := Option.map_eq_some_iff.1 hu
  exact run_loadAt_mid w b 0 ty cs d hc hd hr hi
theorem wp_load_front {op : Oper} {a : Act} {w : World} {K : Act → World → Prop} {Q : Exit → Act → World → Prop} (ty : TypeId) (x : Operand) (ho : op.op = .load ty x)
    (b : Nat) (hx : a.eval x = .pointer (some ⟨b, 0, none⟩)) (cs : List Value) (hc : w.rangeAt b 0 cs) (hu : (Tryz.prog.underlying ty).map (·.isRow) = some true) (hi : (Tryz.prog.info? ty).map (·.size) = some cs.length)
    (h : K (a.put op.dst (.agg cs.toArray)) w) : op.wp Tryz.prog a w K Q := by
  obtain ⟨d, hd, hr⟩ := Option.map_eq_some_iff.1 hu
  exact wp_load_mid ty x ho b 0 hx cs d hc hd hr hi h
theorem res_front {fn : Func} {p : Tmp} {ty : TypeId} (h : fn.results = #[.cell p ty]) (tmps : Array Value) (w : World) (g t : Nat) (cs : List Value)
    (hp : tmps.getD p undef = .pointer (some ⟨g, 0, none⟩)) (hg : Blk w g t cs) (hu : (Tryz.prog.underlying ty).map (·.isRow) = some true) (hi : (Tryz.prog.info? ty).map (·.size) = some cs.length) :
    (results fn tmps).run Tryz.prog w = .ok (.agg cs.toArray) w := by
  obtain ⟨d, hd, hr⟩ := Option.map_eq_some_iff.1 hu
  exact results_cell_row h tmps w g t cs.toArray (0, 0) d hp hg hd (by cases d <;> simp_all) (by simpa using hi)
theorem Z76 : Tryz.zeroCells126.toList = i64s (List.replicate 76 0) := by kernel_rfl
theorem I76 : (Tryz.prog.info? 126).map (·.size) = some 76 := by kernel_rfl
theorem acc_range {w : World} {b t : Nat} {ws : List Nat} {bad : Bool} (h : Blk w b t (accCells ws bad)) {n : Nat} (hl : ws.length = n) : w.rangeAt b 0 (i64s ws) := by
  intro j v hj
  rw [Nat.zero_add, h.cell, accCells, List.getElem?_append_left (List.getElem?_eq_some_iff.1 hj).1, hj]
theorem Blk.range {w : World} {b t : Nat} {cs : List Value} (h : Blk w b t cs) : w.rangeAt b 0 cs := by
  intro j v hj
  rw [Nat.zero_add, h.cell, hj]
def negB (ws : List Nat) : Bool := decide ((ws.getD 75 0 : Int) / 9223372036854775808 = 1)
set_option maxHeartbeats 1000000 in
set_option maxRecDepth 100000 in
theorem aneg_calls (b : Nat) (ws : List Nat) (bad : Bool) (w : World) (hb : Blk w b 129 (accCells ws bad)) (hl : ws.length = 76) (hbd : ∀ d ∈ ws, d < B64) :
    Calls Tryz.prog 89 #[.pointer (some ⟨b, 0, none⟩)] w fun e w' => e = .returned (.bool (negB ws)) ∧ w = w' := by
  have h75 := acc_at hb (i := 75) (by omega)
  have hx := getD_mem_lt hbd (i := 75) (by omega)
  have HN : Hid (negB ws = decide ((ws.getD 75 0 : Int) / 9223372036854775808 = 1)) := rfl
  generalize ws.getD 75 0 = x at *
  clear hb hbd hl
  go_enter Tryz.func89, Tryz.ntmps89
  go_wp2
  go_ret
  exact ⟨by rw [HN.out]; rfl, rfl⟩
set_option maxHeartbeats 2000000 in
set_option maxRecDepth 100000 in
theorem asize_pos (b : Nat) (ws : List Nat) (bad : Bool) (w : World) (hb : Blk w b 129 (accCells ws bad)) (hl : ws.length = 76) (hbd : ∀ d ∈ ws, d < B64) (hn : negB ws = false) :
    Calls Tryz.prog 80 #[.pointer (some ⟨b, 0, none⟩)] w fun e w' => e = .returned (.agg (i64s ws).toArray) ∧ Below w.heap.size w w' := by
  have HN := Lib.hid (fun W (hW : Blk W b 129 (accCells ws bad)) => aneg_calls b ws bad W hW hl hbd)
  rw [hn] at HN
  clear hn
  have hR : Hid ((w.alloc (.cells Tryz.zeroCells126 126)).rangeAt b 0 (i64s ws)) := acc_range (hb.alloc _) hl
  have hI : Hid ((Tryz.prog.info? 126).map (·.size) = some (i64s ws).length) := by rw [i64s_length, hl]; exact I76
  have hL : Hid ((i64s (List.replicate 76 0)).length = (i64s ws).length) := by simp [Hid, i64s_length, hl]
  have hY : Hid (Blk ((w.alloc (.cells Tryz.zeroCells126 126)).alloc (.cells Tryz.zeroCells126 126)) (w.heap.size + 1) 126 (i64s (List.replicate 76 0) ++ [])) := by
    have := Blk.new (w.alloc (.cells Tryz.zeroCells126 126)) Tryz.zeroCells126 126
    rw [Z76] at this
    simpa [Hid] using this
  have hZ : Hid (Blk ((w.alloc (.cells Tryz.zeroCells126 126)).alloc (.cells Tryz.zeroCells126 126)) w.heap.size 126 (i64s (List.replicate 76 0) ++ [])) := by
    have := (Blk.new w Tryz.zeroCells126 126).alloc (.cells Tryz.zeroCells126 126)
    rw [Z76] at this
    simpa [Hid] using this
  have HB := Lib.hid hb
  clear hb
  go_enter Tryz.func80, Tryz.ntmps80
  repeat (first | (refine wp_load_front 126 (.tmp 8) (by rfl) b (by rfl) (i64s ws) hR.out A76 hI.out ?_) | (refine wp_store_front 126 (.tmp 3) (.tmp 9) (by rfl) (w.heap.size + 1) 126 (by rfl) (i64s (List.replicate 76 0)) [] (i64s ws) (by rfl) hY.out hL.out hI.out (i64s_one _) ?_; intro w2 hb2 hO2) | go_skip | go_guarded | go_step)
  have hb2' : Hid (Blk w2 (w.heap.size + 1) 126 (i64s ws)) := by simpa [Hid] using hb2
  have hz2 : Hid (Blk w2 w.heap.size 126 (i64s (List.replicate 76 0) ++ [])) := hZ.out.below hO2.below (by omega)
  have HO2 := Lib.hid hO2
  have hsz : w2.heap.size = w.heap.size + 2 := by rw [hO2.size]; simp
  have hba : Blk w2 b 129 (accCells ws bad) := (HB.out.below (B := w.heap.size) (below_new (below_new (Below.refl _ _) _) _) HB.out.lt).below hO2.below (by have := HB.out.lt; omega)
  have HN2 := Lib.hid (HN.out w2 hba)
  have hR3 : Hid (w2.rangeAt (w.heap.size + 1) 0 (i64s ws)) := Blk.range hb2'.out
  clear hb2 hO2 hba
  refine HN2.out.mono ?_
  rintro e w3 ⟨rfl, rfl⟩
  dsimp only
  repeat (first | (refine wp_load_front 126 (.tmp 3) (by rfl) (w.heap.size + 1) (by rfl) (i64s ws) hR3.out A76 hI.out ?_) | (refine wp_store_front 126 (.tmp 2) (.tmp 26) (by rfl) w.heap.size 126 (by rfl) (i64s (List.replicate 76 0)) [] (i64s ws) (by rfl) hz2.out hL.out hI.out (i64s_one _) ?_; intro w3 hb3 hO3) | go_skip | go_guarded | go_step)
  refine bodyPost_ret (v := .agg (i64s ws).toArray) (res_front (by rfl) _ _ w.heap.size 126 (i64s ws) (by rfl) (by simpa using hb3) A76 hI.out) rfl ⟨rfl, ?_⟩
  have h1 : Below w.heap.size w w2 := (below_new (below_new (Below.refl _ _) _) _).trans (HO2.out.below.mono (by omega))
  exact h1.trans hO3.below
theorem pow76 : (B64 ^ 76 : Nat) = B64 ^ 75 * 18446744073709551616 := Nat.pow_succ ..
set_option exponentiation.threshold 6000 in
theorem pow4772 : Cap ≤ B64 ^ 75 := by
  unfold Cap
  rw [show B64 = 2 ^ 64 from rfl, ← Nat.pow_mul]; exact Nat.pow_le_pow_right (by decide) (by omega)
theorem WordsOf.top {X : Int} {ws : List Nat} (h : WordsOf X ws) (hX : X.natAbs < Cap) :
    negB ws = decide (X < 0) ∧ (0 ≤ X → val B64 ws = X.natAbs) ∧ (X < 0 → val B64 ws + X.natAbs = B64 ^ 76) := by
  obtain ⟨hl, hbd, he⟩ := h
  have hX2 := Nat.lt_of_lt_of_le hX pow4772
  have h1 := val_take B64 (xs := ws) (i := 75) (by omega)
  rw [show 75 + 1 = ws.length from by omega, List.take_length] at h1
  have h2 := val_lt (B := B64) (by decide) (ws.take 75) (fun d hd => hbd d (List.mem_of_mem_take hd))
  rw [List.length_take, hl, Nat.min_eq_left (by decide)] at h2
  have h3 := getD_mem_lt hbd (i := 75) (by omega)
  have hV := val_lt (B := B64) (by decide) ws hbd
  rw [hl, pow76] at hV
  unfold negB
  rw [pow76] at *
  generalize ws.getD 75 0 = x at *
  generalize val B64 (ws.take 75) = lo at *
  generalize val B64 ws = V at *
  generalize B64 ^ 75 = P at *
  simp only [B64] at h3
  have hpos : 0 < P := by omega
  rcases Int.lt_or_le X 0 with hn | hn
  · have e1 : X % ((P * 18446744073709551616 : Nat) : Int) = X + (P * 18446744073709551616 : Nat) := by
      rw [← Int.add_emod_right, Int.emod_eq_of_lt (by omega) (by omega)]
    rw [e1] at he
    have hx : 18446744073709551615 ≤ x := by
      have : P * 18446744073709551615 < P * (x + 1) := by rw [Nat.mul_add]; omega
      have := Nat.lt_of_mul_lt_mul_left this
      omega
    refine ⟨?_, fun h => by omega, fun _ => by omega⟩
    rw [decide_eq_true (by omega), decide_eq_true hn]
  · have e1 : X % ((P * 18446744073709551616 : Nat) : Int) = X := Int.emod_eq_of_lt hn (by omega)
    rw [e1] at he
    have hx : x < 1 := by
      have : P * x < P * 1 := by omega
      exact Nat.lt_of_mul_lt_mul_left this
    refine ⟨?_, fun _ => by omega, fun h => by omega⟩
    rw [decide_eq_false (by omega), decide_eq_false (by omega)]
end Go.Proofs.YtcfejobdgiiihaaGreatDoor

namespace Go.Proofs.YtcfejobdgiiihaaGreatDoor
open Go.RowKit

theorem getD_rep (n j : Nat) : (List.replicate n 0).getD j 0 = 0 := getD_replicate n j
theorem val_take_rep (B n k : Nat) : val B ((List.replicate n 0).take k) = 0 := by
  rw [List.take_replicate]; exact val_replicate _ _
set_option maxHeartbeats 2000000 in
set_option maxRecDepth 100000 in
theorem asize_neg (b : Nat) (ws : List Nat) (bad : Bool) (w : World) (hb : Blk w b 129 (accCells ws bad)) (hl : ws.length = 76) (hbd : ∀ d ∈ ws, d < B64) (hn : negB ws = true) :
    Calls Tryz.prog 80 #[.pointer (some ⟨b, 0, none⟩)] w fun e w' => (∃ ys c, e = .returned (.agg (i64s ys).toArray) ∧ SubInv (List.replicate 76 0) ws 76 ys c) ∧ Below w.heap.size w w' := by
  have HN := Lib.hid (fun W (hW : Blk W b 129 (accCells ws bad)) => aneg_calls b ws bad W hW hl hbd)
  rw [hn] at HN
  clear hn
  have hR : Hid ((w.alloc (.cells Tryz.zeroCells126 126)).rangeAt b 0 (i64s ws)) := acc_range (hb.alloc _) hl
  have hI : Hid ((Tryz.prog.info? 126).map (·.size) = some (i64s ws).length) := by rw [i64s_length, hl]; exact I76
  have hL : Hid ((i64s (List.replicate 76 0)).length = (i64s ws).length) := by simp [Hid, i64s_length, hl]
  have hY : Hid (Blk ((w.alloc (.cells Tryz.zeroCells126 126)).alloc (.cells Tryz.zeroCells126 126)) (w.heap.size + 1) 126 (i64s (List.replicate 76 0) ++ [])) := by
    have := Blk.new (w.alloc (.cells Tryz.zeroCells126 126)) Tryz.zeroCells126 126
    rw [Z76] at this
    simpa [Hid] using this
  have hZ : Hid (Blk ((w.alloc (.cells Tryz.zeroCells126 126)).alloc (.cells Tryz.zeroCells126 126)) w.heap.size 126 (i64s (List.replicate 76 0) ++ [])) := by
    have := (Blk.new w Tryz.zeroCells126 126).alloc (.cells Tryz.zeroCells126 126)
    rw [Z76] at this
    simpa [Hid] using this
  have HB := Lib.hid hb
  have HBD := Lib.hid hbd
  clear hb hbd
  go_enter Tryz.func80, Tryz.ntmps80
  repeat (first | (refine wp_load_front 126 (.tmp 8) (by rfl) b (by rfl) (i64s ws) hR.out A76 hI.out ?_) | (refine wp_store_front 126 (.tmp 3) (.tmp 9) (by rfl) (w.heap.size + 1) 126 (by rfl) (i64s (List.replicate 76 0)) [] (i64s ws) (by rfl) hY.out hL.out hI.out (i64s_one _) ?_; intro w2 hb2 hO2) | go_skip | go_guarded | go_step)
  have hb2' : Hid (Blk w2 (w.heap.size + 1) 126 (i64s ws)) := by simpa [Hid] using hb2
  have hz2 : Hid (Blk w2 w.heap.size 126 (i64s (List.replicate 76 0) ++ [])) := hZ.out.below hO2.below (by omega)
  have HO2 : Hid (Below w.heap.size w w2) := (below_new (below_new (Below.refl _ _) _) _).trans (hO2.below.mono (by omega))
  have hsz : w2.heap.size = w.heap.size + 2 := by rw [hO2.size]; simp
  have hba : Blk w2 b 129 (accCells ws bad) := (HB.out.below (B := w.heap.size) (below_new (below_new (Below.refl _ _) _) _) HB.out.lt).below hO2.below (by have := HB.out.lt; omega)
  have HN2 := Lib.hid (HN.out w2 hba)
  clear hb2 hO2 hba hR hY hZ HB HN
  refine HN2.out.mono ?_
  rintro e w3 ⟨rfl, rfl⟩
  clear HN2
  go_wp2
  go_loopw [4, 5, 12] (fun cv j i wr => ∃ (k cc : Nat) (rs : List Nat), i = .int .i64 k ∧ cv = .int .u64 cc ∧ k ≤ 76 ∧ Hid (SubInv (List.replicate 76 0) ws k rs cc) ∧ Hid (Blk wr (w.heap.size + 1) 126 (i64s (rs ++ ws.drop k))) ∧ Hid (Below (w.heap.size + 1) w2 wr)) (fun _ _ i _ => 76 - (intOf i).toNat)
  case atStart => exact ⟨0, 0, [], rfl, rfl, by omega, ⟨rfl, by simp, .inl rfl, by simp [val]⟩, hb2'.out, Below.refl _ _⟩
  case round =>
    obtain ⟨k, cc, rs, rfl, rfl, hk, hI2, hZ2, hW⟩ := hrel
    have hrl := hI2.out.len
    by_cases hlt : k < 76
    · have hbb : ∀ d ∈ rs ++ ws.drop k, d < B64 := fun d hd => by
        rcases List.mem_append.1 hd with hd | hd
        · exact hI2.out.bd d hd
        · exact HBD.out d (List.mem_of_mem_drop hd)
      obtain ⟨y, hz1, hz2', hyb, hy⟩ := hZ2.out.at64 (i := k) (by simp; omega) hbb
      have hyk : ws.getD k 0 = y := by
        rw [← hy.out]
        simp only [List.getD_eq_getElem?_getD]
        rw [List.getElem?_append_right (by omega), hrl, Nat.sub_self, List.getElem?_drop, Nat.add_zero]
      clear hbb hy
      obtain ⟨s, hs⟩ : ∃ s, s = (0 + 2 ^ 64 - y - cc) % 2 ^ 64 := ⟨_, rfl⟩
      obtain ⟨b', hb'⟩ : ∃ b', b' = if 0 < y + cc then 1 else 0 := ⟨_, rfl⟩
      have hrun := fun W => run_sub64 0 y cc hI2.out.c1 W
      have hst := SubInv.step hI2.out (by simp; omega) (by omega) (getD_rep 76 k) hyk (by decide) hyb
      rw [← hs, ← hb'] at hst hrun
      have HST := Lib.hid hst
      have HSET : Hid (rs.length = k ∧ (rs ++ ws.drop k).set k s = (rs ++ [s]) ++ ws.drop (k + 1)) := ⟨hrl, by
        rw [List.set_append, if_neg (by omega), hrl, Nat.sub_self, List.drop_eq_getElem_cons (by omega), List.append_assoc]; rfl⟩
      have hrun' : ∀ W, (callFunc 81 #[.int .u64 0, .int .u64 y, .int .u64 cc]).run Tryz.prog W = .ok (.value (.tuple #[.int .u64 s, .int .u64 b'])) W := hrun
      clear hst hs hb' hyk hrun hrl
      go_wp2
      go_roundw
      case rel =>
        have hb := hZ2.out.set64 k s _ rfl
        rw [HSET.out.2] at hb
        exact ⟨k + 1, _, _, by go_num, rfl, by omega, HST.out, hb, hW.out.setCell (Nat.le_refl _) _⟩
      case measure => simp [intOf]; omega
    · obtain rfl : k = 76 := by omega
      have hZ' := hZ2.out
      rw [List.drop_of_length_le (by omega), List.append_nil] at hZ'
      have HZ' := Lib.hid hZ'
      have hI3 : Hid ((Tryz.prog.info? 126).map (·.size) = some (i64s rs).length) := by rw [i64s_length, hrl]; exact I76
      have hL3 : Hid ((i64s (List.replicate 76 0)).length = (i64s rs).length) := by simp [Hid, i64s_length, hrl]
      have hz3 : Hid (Blk wr w.heap.size 126 (i64s (List.replicate 76 0) ++ [])) := hz2.out.below hW.out (by omega)
      have hR3 : Hid (wr.rangeAt (w.heap.size + 1) 0 (i64s rs)) := Blk.range HZ'.out
      clear hZ' hrl
      repeat (first | (refine wp_load_front 126 (.tmp 3) (by rfl) (w.heap.size + 1) (by rfl) (i64s rs) hR3.out A76 hI3.out ?_) | (refine wp_store_front 126 (.tmp 2) (.tmp 26) (by rfl) w.heap.size 126 (by rfl) (i64s (List.replicate 76 0)) [] (i64s rs) (by rfl) hz3.out hL3.out hI3.out (i64s_one _) ?_; intro w3 hb3 hO3) | go_skip | go_guarded | go_step)
      refine bodyPost_ret (v := .agg (i64s rs).toArray) (res_front (by rfl) _ _ w.heap.size 126 (i64s rs) (by rfl) (by simpa using hb3) A76 hI3.out) rfl ⟨⟨rs, cc, rfl, hI2.out⟩, ?_⟩
      exact (HO2.out.trans (hW.out.mono (by omega))).trans hO3.below
end Go.Proofs.YtcfejobdgiiihaaGreatDoor

namespace Go.Proofs.YtcfejobdgiiihaaGreatDoor
open Go.RowKit

theorem WordsOf.mk' {X q : Int} {ws : List Nat} (hl : ws.length = 76) (hbd : ∀ d ∈ ws, d < B64) (he : (val B64 ws : Int) = X + q * (B64 ^ 76 : Nat)) : WordsOf X ws := by
  refine ⟨hl, hbd, ?_⟩
  have hV := val_lt (B := B64) (by decide) ws hbd
  rw [hl] at hV
  generalize B64 ^ 76 = P at *
  have : X = (val B64 ws : Int) + (-q) * (P : Nat) := by rw [he, Int.neg_mul]; omega
  rw [this, Int.add_mul_emod_self_right, Int.emod_eq_of_lt (by omega) (by omega)]
theorem WordsOf.val {X : Int} {ws : List Nat} (h : WordsOf X ws) : ∃ q : Int, (val B64 ws : Int) = X + q * (B64 ^ 76 : Nat) := by
  refine ⟨-(X / (B64 ^ 76 : Nat)), ?_⟩
  rw [h.eq, Int.neg_mul]
  have := Int.emod_add_mul_ediv X (B64 ^ 76 : Nat)
  rw [Int.mul_comm] at this
  omega
/-- the words of a size -/
structure Mag (n : Nat) (ys : List Nat) : Prop where
  len : ys.length = 76
  bd : ∀ d ∈ ys, d < B64
  eq : Go.Proofs.YtcfejobdgiiihaaGreatDoor.val B64 ys = n
theorem asize_calls (b : Nat) (X : Int) (ws : List Nat) (bad : Bool) (w : World) (hb : Blk w b 129 (accCells ws bad)) (hw : WordsOf X ws) (hX : X.natAbs < Cap) :
    Calls Tryz.prog 80 #[.pointer (some ⟨b, 0, none⟩)] w fun e w' => (∃ ys, e = .returned (.agg (i64s ys).toArray) ∧ Mag X.natAbs ys) ∧ Below w.heap.size w w' := by
  obtain ⟨h1, h2, h3⟩ := hw.top hX
  rcases Int.lt_or_le X 0 with hn | hn
  · rw [decide_eq_true hn] at h1
    refine (asize_neg b ws bad w hb hw.len hw.bd h1).mono ?_
    rintro e w' ⟨⟨ys, c, rfl, hI⟩, hW⟩
    refine ⟨⟨ys, rfl, hI.len, hI.bd, ?_⟩, hW⟩
    have h4 := h3 hn
    have h5 := hI.eq
    rw [val_take_rep, List.take_of_length_le (by rw [hw.len]; exact Nat.le_refl _)] at h5
    have hV := val_lt (B := B64) (by decide) ys hI.bd
    rw [hI.len] at hV
    rcases hI.c1 with rfl | rfl
    · have : X.natAbs < B64 ^ 75 := Nat.lt_of_lt_of_le hX pow4772
      rw [pow76] at *
      generalize B64 ^ 75 = P at *
      omega
    · generalize B64 ^ 76 = P at *
      omega
  · rw [decide_eq_false (by omega)] at h1
    refine (asize_pos b ws bad w hb hw.len hw.bd h1).mono ?_
    rintro e w' ⟨rfl, hW⟩
    exact ⟨⟨ws, rfl, hw.len, hw.bd, h2 hn⟩, hW⟩
set_option exponentiation.threshold 6000 in
theorem cap_eq : Cap = B64 ^ 74 * 68719476736 := by
  unfold Cap
  rw [show B64 = 2 ^ 64 from rfl, ← Nat.pow_mul, show (68719476736 : Nat) = 2 ^ 36 from by decide, ← Nat.pow_add]
theorem Mag.top {n : Nat} {ys : List Nat} (h : Mag n ys) (hn : n < Cap) : ys.getD 74 0 < 68719476736 ∧ ys.getD 75 0 = 0 := by
  have h1 := val_take B64 (xs := ys) (i := 75) (by have := h.len; omega)
  rw [show 75 + 1 = ys.length from by have := h.len; omega, List.take_length, h.eq] at h1
  have h2 := val_take B64 (xs := ys) (i := 74) (by have := h.len; omega)
  rw [show 74 + 1 = 75 from rfl] at h2
  rw [cap_eq] at hn
  rw [show (B64 ^ 75 : Nat) = B64 ^ 74 * B64 from Nat.pow_succ ..] at h1
  generalize B64 ^ 74 = P at *
  have hpos : 0 < P := by
    rcases Nat.eq_zero_or_pos P with h0 | h0
    · subst h0; omega
    · exact h0
  have h3 : P * (ys.getD 74 0) < P * 68719476736 := by omega
  refine ⟨Nat.lt_of_mul_lt_mul_left h3, ?_⟩
  rcases Nat.eq_zero_or_pos (ys.getD 75 0) with h0 | h0
  · exact h0
  · have : P * B64 * 1 ≤ P * B64 * ys.getD 75 0 := Nat.mul_le_mul_left _ h0
    simp only [B64] at this h1
    omega

set_option maxHeartbeats 2000000 in
set_option maxRecDepth 100000 in
theorem afit_calls (b : Nat) (X : Int) (ws : List Nat) (w : World) (hb : Blk w b 129 (accCells ws false)) (hw : WordsOf X ws) (hX : X.natAbs < Cap) :
    Calls Tryz.prog 83 #[.pointer (some ⟨b, 0, none⟩)] w fun e w' => e = .returned (.tuple #[]) ∧ Below w.heap.size w w' := by
  have HS := Lib.hid (asize_calls b X ws false w hb hw hX)
  have HX := Lib.hid hX
  clear hb hw hX
  go_enter Tryz.func83, Tryz.ntmps83
  go_wp2_with fail
  refine HS.out.mono ?_
  rintro e w2 ⟨⟨ys, rfl, hm⟩, hW⟩
  obtain ⟨h74, h75⟩ := hm.top HX.out
  have hI : Hid ((Tryz.prog.info? 126).map (·.size) = some (i64s ys).length) := by rw [i64s_length, hm.len]; exact I76
  have hL : Hid ((i64s (List.replicate 76 0)).length = (i64s ys).length) := by simp [Hid, i64s_length, hm.len]
  have hY : Hid (Blk (w2.alloc (.cells Tryz.zeroCells126 126)) w2.heap.size 126 (i64s (List.replicate 76 0) ++ [])) := by
    have := Blk.new w2 Tryz.zeroCells126 126
    rw [Z76] at this
    simpa [Hid] using this
  have HM := Lib.hid hm
  have HW := Lib.hid hW
  have H74 := Lib.hid h74
  have H75 := Lib.hid h75
  clear hm hW h74 h75
  dsimp only
  repeat (first | (refine wp_store_front 126 (.tmp 2) (.tmp 6) (by rfl) w2.heap.size 126 (by rfl) (i64s (List.replicate 76 0)) [] (i64s ys) (by rfl) hY.out hL.out hI.out (i64s_one _) ?_; intro w3 hb3 hO3) | go_skip | go_guarded | go_step)
  have hb3' : Blk w3 w2.heap.size 126 (i64s ys) := by simpa using hb3
  have hyl : ys.length = 76 := HM.out.len
  have c74 : w3.cell? ⟨w2.heap.size, 74, none⟩ = some (.int .u64 (ys.getD 74 0 : Nat)) := by rw [hb3'.cell]; simp [i64s, hyl]
  have c75 : w3.cell? ⟨w2.heap.size, 75, none⟩ = some (.int .u64 0) := by rw [hb3'.cell]; have := H75.out; simp [i64s, hyl] at this ⊢; simp [this]
  have d74 : ((ys.getD 74 0 : Nat) : Int) / 68719476736 = 0 := by have := H74.out; omega
  have HW3 : Hid (Below w.heap.size w w3) := (below_next HW.out ((below_new (Below.refl _ _) _).trans hO3.below))
  clear hb3 hb3' hyl hO3 hI hL hY HM
  generalize ys.getD 74 0 = y at *
  go_loop [3, 4] (fun i v => i = .int .i64 74 ∨ i = .int .i64 75 ∨ i = .int .i64 76) (fun i v => (76 - intOf i).toNat)
  case atStart => exact .inl rfl
  case round =>
    rcases hrel with rfl | rfl | rfl
    · go_wp2
      go_round
      case rel => exact .inr (.inl rfl)
      case measure => simp [intOf]
    · go_wp2
      go_round
      case rel => exact .inr (.inr rfl)
      case measure => simp [intOf]
    · go_wp2
      go_end0
      exact ⟨rfl, HW3.out⟩
end Go.Proofs.YtcfejobdgiiihaaGreatDoor

namespace Go.Proofs.YtcfejobdgiiihaaGreatDoor
open Go.RowKit

theorem val_take_any (B : Nat) (vs : List Nat) (k : Nat) : val B (vs.take (k + 1)) = val B (vs.take k) + B ^ k * vs.getD k 0 := by
  by_cases h : k < vs.length
  · exact val_take B h
  · rw [List.take_of_length_le (by omega), List.take_of_length_le (by omega), getD_ge (by omega)]; simp
/-- after k words are added at the place i -/
structure PutP (ws vs : List Nat) (i k : Nat) (zs : List Nat) (c : Nat) : Prop where
  len : zs.length = 76
  bd : ∀ d ∈ zs, d < B64
  c1 : c = 0 ∨ c = 1
  eq : val B64 zs + B64 ^ (i + k) * c = val B64 ws + B64 ^ i * val B64 (vs.take k)
theorem PutP.step {ws vs zs : List Nat} {i k c x y : Nat} (h : PutP ws vs i k zs c) (hk : i + k < 76) (hx : zs.getD (i + k) 0 = x) (hy : vs.getD k 0 = y) (hxb : x < B64) (hyb : y < B64) :
    PutP ws vs i (k + 1) (zs.set (i + k) ((x + y + c) % 2 ^ 64)) ((x + y + c) / 2 ^ 64) := by
  obtain ⟨h1, h2, h3, h4⟩ := h
  refine ⟨by simpa using h1, mem_set h2 (Nat.mod_lt _ (by decide)), ?_, ?_⟩
  · simp only [B64] at hxb hyb; omega
  · have e1 := val_set_any B64 (xs := zs) (k := i + k) ((x + y + c) % 2 ^ 64) (by omega)
    rw [hx] at e1
    rw [val_take_any, hy, Nat.mul_add, ← Nat.mul_assoc, ← Nat.pow_add]
    have := digit_step (B64 ^ (i + k)) B64 (x + y + c)
    rw [show B64 ^ (i + (k + 1)) = B64 ^ (i + k) * B64 from Nat.pow_succ ..]
    rw [show (2 : Nat) ^ 64 = B64 from rfl] at *
    rw [Nat.mul_add, Nat.mul_add] at this
    omega
structure PutM (ws vs : List Nat) (i k : Nat) (zs : List Nat) (c : Nat) : Prop where
  len : zs.length = 76
  bd : ∀ d ∈ zs, d < B64
  c1 : c = 0 ∨ c = 1
  eq : val B64 zs + B64 ^ i * val B64 (vs.take k) = val B64 ws + B64 ^ (i + k) * c
theorem PutM.step {ws vs zs : List Nat} {i k c x y : Nat} (h : PutM ws vs i k zs c) (hk : i + k < 76) (hx : zs.getD (i + k) 0 = x) (hy : vs.getD k 0 = y) (hxb : x < B64) (hyb : y < B64) :
    PutM ws vs i (k + 1) (zs.set (i + k) ((x + 2 ^ 64 - y - c) % 2 ^ 64)) (if x < y + c then 1 else 0) := by
  obtain ⟨h1, h2, h3, h4⟩ := h
  refine ⟨by simpa using h1, mem_set h2 (Nat.mod_lt _ (by decide)), ?_, ?_⟩
  · split <;> simp
  · have e1 := val_set_any B64 (xs := zs) (k := i + k) ((x + 2 ^ 64 - y - c) % 2 ^ 64) (by omega)
    rw [hx] at e1
    rw [val_take_any, hy, Nat.mul_add, ← Nat.mul_assoc, ← Nat.pow_add]
    have hd : (x + 2 ^ 64 - y - c) % 2 ^ 64 + (y + c) = x + B64 * (if x < y + c then 1 else 0) := by
      simp only [B64] at *
      split <;> omega
    have := congrArg (B64 ^ (i + k) * ·) hd
    simp only [Nat.mul_add] at this
    rw [show B64 ^ (i + (k + 1)) = B64 ^ (i + k) * B64 from Nat.pow_succ .., Nat.mul_assoc]
    generalize (x + 2 ^ 64 - y - c) % 2 ^ 64 = q at *
    omega
theorem PutP.words {X : Int} {ws vs zs : List Nat} {i k c : Nat} (h : PutP ws vs i k zs c) (hw : WordsOf X ws) (hv : vs.length ≤ k) (he : c = 0 ∨ i + k = 76) : WordsOf (X + (B64 ^ i * val B64 vs : Nat)) zs := by
  obtain ⟨q, hq⟩ := hw.val
  have e := h.eq
  rw [List.take_of_length_le hv] at e
  rcases he with rfl | he
  · refine .mk' (q := q) h.len h.bd ?_
    rw [Nat.mul_zero] at e
    generalize B64 ^ i * val B64 vs = u at *
    omega
  · refine .mk' (q := q - c) h.len h.bd ?_
    rw [he] at e
    rw [Int.sub_mul]
    generalize B64 ^ i * val B64 vs = u at *
    generalize q * ((B64 ^ 76 : Nat) : Int) = p at *
    have e2 : (c : Int) * ((B64 ^ 76 : Nat) : Int) = ((B64 ^ 76 * c : Nat) : Int) := by rw [Int.natCast_mul, Int.mul_comm]
    rw [e2]
    generalize B64 ^ 76 * c = r at *
    omega
theorem PutM.words {X : Int} {ws vs zs : List Nat} {i k c : Nat} (h : PutM ws vs i k zs c) (hw : WordsOf X ws) (hv : vs.length ≤ k) (he : c = 0 ∨ i + k = 76) : WordsOf (X - (B64 ^ i * val B64 vs : Nat)) zs := by
  obtain ⟨q, hq⟩ := hw.val
  have e := h.eq
  rw [List.take_of_length_le hv] at e
  rcases he with rfl | he
  · refine .mk' (q := q) h.len h.bd ?_
    rw [Nat.mul_zero] at e
    generalize B64 ^ i * val B64 vs = u at *
    omega
  · refine .mk' (q := q + c) h.len h.bd ?_
    rw [he] at e
    rw [Int.add_mul]
    generalize B64 ^ i * val B64 vs = u at *
    generalize q * ((B64 ^ 76 : Nat) : Int) = p at *
    have e2 : (c : Int) * ((B64 ^ 76 : Nat) : Int) = ((B64 ^ 76 * c : Nat) : Int) := by rw [Int.natCast_mul, Int.mul_comm]
    rw [e2]
    generalize B64 ^ 76 * c = r at *
    omega
theorem getD3 (v0 v1 v2 k : Nat) (h : 3 ≤ k) : [v0, v1, v2].getD k 0 = 0 := getD_ge h

set_option maxHeartbeats 4000000 in
set_option maxRecDepth 100000 in
theorem aput_plus (b i v0 v1 v2 at_ : Nat) (X Y : Int) (ws : List Nat) (w : World) (hb : Blk w b 129 (accCells ws false)) (hw : WordsOf X ws) (hvb : ∀ d ∈ [v0, v1, v2], d < B64) (hi : at_ / 64 = i) (hi2 : i ≤ 70) (hY : Y = X + (B64 ^ i * val B64 [v0, v1, v2] : Nat)) (hYc : Y.natAbs < Cap) :
    Calls Tryz.prog 86 #[.pointer (some ⟨b, 0, none⟩), .agg #[.int .u64 v0, .int .u64 v1, .int .u64 v2], .int .i64 at_, .bool false] w fun e w' => e = .returned (.tuple #[]) ∧ AccI w' b Y ∧ Below b w w' := by
  have hii : (at_ : Int) / 64 = (i : Int) := by omega
  have HB := Lib.hid hb
  have HW := Lib.hid hw
  have HVB := Lib.hid hvb
  have HY := Lib.hid hY
  have HYC := Lib.hid hYc
  have HF := Lib.hid (fun zs W (h1 : Blk W b 129 (accCells zs false)) (h2 : WordsOf Y zs) => afit_calls b Y zs W h1 h2 hYc)
  have hbl := hb.lt
  have hv := Lib.hid (Blk.new w #[.int .u64 (v0 : Int), .int .u64 (v1 : Int), .int .u64 (v2 : Int)] 135)
  clear hi hb hw hvb hY hYc
  have hdiv : 0 ≤ (at_ : Int) := by omega
  go_enter Tryz.func86, Tryz.ntmps86
  go_wp2
  go_loopw [9, 10, 11] (fun cv kv dv wr => ∃ (k cc : Nat) (zs : List Nat), kv = .int .i64 k ∧ cv = .int .u64 cc ∧ i + k ≤ 76 ∧ Hid (PutP ws [v0, v1, v2] i k zs cc) ∧ Hid (Blk wr b 129 (accCells zs false)) ∧ Hid (Blk wr w.heap.size 135 [.int .u64 (v0 : Int), .int .u64 (v1 : Int), .int .u64 (v2 : Int)]) ∧ Hid (Below b w wr)) (fun _ kv _ _ => 76 - (intOf kv).toNat)
  case atStart => exact ⟨0, 0, ws, rfl, rfl, by omega, ⟨HW.out.len, HW.out.bd, .inl rfl, by simp [val]⟩, HB.out.alloc _, hv.out, (Below.refl _ _).alloc (by omega) _⟩
  case round =>
    obtain ⟨k, cc, zs, rfl, rfl, hk, hI, hZ, hV, hW⟩ := hrel
    have hzl := hI.out.len
    have hw1 : IntKind.i64.wrap ((i : Int) + (k : Int)) = (i : Int) + (k : Int) := IntWalk.i64_in _ (by omega)
    have hw2 : ((i : Int) + (k : Int)).toNat = i + k := by omega
    by_cases hlt : i + k < 76
    · have hx1 := acc_at hZ.out (i := i + k) (by omega)
      have hxf := hZ.out.frozen (i + k)
      have hxb := getD_mem_lt hI.out.bd (i := i + k) (by omega)
      obtain ⟨x, hx⟩ : ∃ x, zs.getD (i + k) 0 = x := ⟨_, rfl⟩
      rw [hx] at hx1 hxb
      have HX := Lib.hid hx
      clear hx
      have hi1 : (0 : Int) ≤ (i : Int) + (k : Int) := by omega
      have hi2' : (i : Int) + (k : Int) < 76 := by omega
      by_cases hk3 : k < 3
      · have hyc : wr.cell? ⟨w.heap.size, k, none⟩ = some (.int .u64 ([v0, v1, v2].getD k 0 : Nat)) := by
          rw [hV.out.cell]
          obtain rfl | rfl | rfl : k = 0 ∨ k = 1 ∨ k = 2 := by omega
          all_goals rfl
        have hyb := getD_mem_lt HVB.out (i := k) (by simpa using hk3)
        obtain ⟨y, hy⟩ : ∃ y, [v0, v1, v2].getD k 0 = y := ⟨_, rfl⟩
        rw [hy] at hyc hyb
        obtain ⟨s, hs⟩ : ∃ s, s = (x + y + cc) % 2 ^ 64 := ⟨_, rfl⟩
        obtain ⟨b', hb'⟩ : ∃ b', b' = (x + y + cc) / 2 ^ 64 := ⟨_, rfl⟩
        have hrun := fun W => run_add64 x y cc hI.out.c1 W
        have hst := PutP.step hI.out hlt HX.out hy hxb hyb
        rw [← hs, ← hb'] at hst hrun
        have HST := Lib.hid hst
        have hrun' : ∀ W, (callFunc 82 #[.int .u64 x, .int .u64 y, .int .u64 cc]).run Tryz.prog W = .ok (.value (.tuple #[.int .u64 s, .int .u64 b'])) W := hrun
        clear hst hs hb' hy hrun hzl
        go_wp2
        go_region_with (fail)
        go_wp2
        go_roundw
        case rel =>
          have hb := acc_set hZ.out (i + k) s _ rfl (by have := hI.out.len; omega)
          exact ⟨k + 1, _, _, by go_num, rfl, by omega, HST.out, hb, hV.out.far (p := ⟨b, i + k, none⟩) (show w.heap.size ≠ b by omega) _, (hW.out.setCell (p := ⟨b, i + k, none⟩) (Nat.le_refl b) _).drew⟩
        case measure => simp [intOf]; omega
      · rcases hI.out.c1 with rfl | rfl
        · have hz := hI.out.words HW.out (by simp; omega) (.inl rfl)
          rw [← HY.out] at hz
          have HZW := Lib.hid hz
          have HFC := Lib.hid (HF.out zs wr hZ.out hz)
          clear hz hzl
          go_wp2_with fail
          refine HFC.out.mono ?_
          rintro e w2 ⟨rfl, hW2⟩
          go_wp2
          go_end0
          exact ⟨rfl, ⟨HYC.out, zs, HZW.out, hZ.out.below' hW2⟩, hW.out.trans (hW2.mono (Nat.le_of_lt hZ.out.lt))⟩
        · have hy := getD3 v0 v1 v2 k (by omega)
          have hyb : 0 < B64 := by decide
          obtain ⟨s, hs⟩ : ∃ s, s = (x + 0 + 1) % 2 ^ 64 := ⟨_, rfl⟩
          obtain ⟨b', hb'⟩ : ∃ b', b' = (x + 0 + 1) / 2 ^ 64 := ⟨_, rfl⟩
          have hrun := fun W => run_add64 x 0 1 hI.out.c1 W
          have hst := PutP.step hI.out hlt HX.out hy hxb hyb
          rw [← hs, ← hb'] at hst hrun
          have HST := Lib.hid hst
          have hrun' : ∀ W, (callFunc 82 #[.int .u64 x, .int .u64 0, .int .u64 1]).run Tryz.prog W = .ok (.value (.tuple #[.int .u64 s, .int .u64 b'])) W := hrun
          clear hst hs hb' hy hrun hzl
          go_wp2
          go_region_with (fail)
          go_wp2
          go_roundw
          case rel =>
            have hb := acc_set hZ.out (i + k) s _ rfl (by have := hI.out.len; omega)
            exact ⟨k + 1, _, _, by go_num, rfl, by omega, HST.out, hb, hV.out.far (p := ⟨b, i + k, none⟩) (show w.heap.size ≠ b by omega) _, (hW.out.setCell (p := ⟨b, i + k, none⟩) (Nat.le_refl b) _).drew⟩
          case measure => simp [intOf]; omega
    · have hz := hI.out.words HW.out (by simp; omega) (.inr (by omega))
      rw [← HY.out] at hz
      have HZW := Lib.hid hz
      have HFC := Lib.hid (HF.out zs wr hZ.out hz)
      clear hz hzl
      go_wp2_with fail
      refine HFC.out.mono ?_
      rintro e w2 ⟨rfl, hW2⟩
      go_wp2
      go_end0
      exact ⟨rfl, ⟨HYC.out, zs, HZW.out, hZ.out.below' hW2⟩, hW.out.trans (hW2.mono (Nat.le_of_lt hZ.out.lt))⟩
end Go.Proofs.YtcfejobdgiiihaaGreatDoor

namespace Go.Proofs.YtcfejobdgiiihaaGreatDoor
open Go.RowKit

set_option maxHeartbeats 4000000 in
set_option maxRecDepth 100000 in
theorem aput_minus (b i v0 v1 v2 at_ : Nat) (X Y : Int) (ws : List Nat) (w : World) (hb : Blk w b 129 (accCells ws false)) (hw : WordsOf X ws) (hvb : ∀ d ∈ [v0, v1, v2], d < B64) (hi : at_ / 64 = i) (hi2 : i ≤ 70) (hY : Y = X - (B64 ^ i * val B64 [v0, v1, v2] : Nat)) (hYc : Y.natAbs < Cap) :
    Calls Tryz.prog 86 #[.pointer (some ⟨b, 0, none⟩), .agg #[.int .u64 v0, .int .u64 v1, .int .u64 v2], .int .i64 at_, .bool true] w fun e w' => e = .returned (.tuple #[]) ∧ AccI w' b Y ∧ Below b w w' := by
  have hii : (at_ : Int) / 64 = (i : Int) := by omega
  have HB := Lib.hid hb
  have HW := Lib.hid hw
  have HVB := Lib.hid hvb
  have HY := Lib.hid hY
  have HYC := Lib.hid hYc
  have HF := Lib.hid (fun zs W (h1 : Blk W b 129 (accCells zs false)) (h2 : WordsOf Y zs) => afit_calls b Y zs W h1 h2 hYc)
  have hbl := hb.lt
  have hv := Lib.hid (Blk.new w #[.int .u64 (v0 : Int), .int .u64 (v1 : Int), .int .u64 (v2 : Int)] 135)
  clear hi hb hw hvb hY hYc
  have hdiv : 0 ≤ (at_ : Int) := by omega
  go_enter Tryz.func86, Tryz.ntmps86
  go_wp2
  go_loopw [9, 10, 11] (fun cv kv dv wr => ∃ (k cc : Nat) (zs : List Nat), kv = .int .i64 k ∧ cv = .int .u64 cc ∧ i + k ≤ 76 ∧ Hid (PutM ws [v0, v1, v2] i k zs cc) ∧ Hid (Blk wr b 129 (accCells zs false)) ∧ Hid (Blk wr w.heap.size 135 [.int .u64 (v0 : Int), .int .u64 (v1 : Int), .int .u64 (v2 : Int)]) ∧ Hid (Below b w wr)) (fun _ kv _ _ => 76 - (intOf kv).toNat)
  case atStart => exact ⟨0, 0, ws, rfl, rfl, by omega, ⟨HW.out.len, HW.out.bd, .inl rfl, by simp [val]⟩, HB.out.alloc _, hv.out, (Below.refl _ _).alloc (by omega) _⟩
  case round =>
    obtain ⟨k, cc, zs, rfl, rfl, hk, hI, hZ, hV, hW⟩ := hrel
    have hzl := hI.out.len
    have hw1 : IntKind.i64.wrap ((i : Int) + (k : Int)) = (i : Int) + (k : Int) := IntWalk.i64_in _ (by omega)
    have hw2 : ((i : Int) + (k : Int)).toNat = i + k := by omega
    by_cases hlt : i + k < 76
    · have hx1 := acc_at hZ.out (i := i + k) (by omega)
      have hxf := hZ.out.frozen (i + k)
      have hxb := getD_mem_lt hI.out.bd (i := i + k) (by omega)
      obtain ⟨x, hx⟩ : ∃ x, zs.getD (i + k) 0 = x := ⟨_, rfl⟩
      rw [hx] at hx1 hxb
      have HX := Lib.hid hx
      clear hx
      have hi1 : (0 : Int) ≤ (i : Int) + (k : Int) := by omega
      have hi2' : (i : Int) + (k : Int) < 76 := by omega
      by_cases hk3 : k < 3
      · have hyc : wr.cell? ⟨w.heap.size, k, none⟩ = some (.int .u64 ([v0, v1, v2].getD k 0 : Nat)) := by
          rw [hV.out.cell]
          obtain rfl | rfl | rfl : k = 0 ∨ k = 1 ∨ k = 2 := by omega
          all_goals rfl
        have hyb := getD_mem_lt HVB.out (i := k) (by simpa using hk3)
        obtain ⟨y, hy⟩ : ∃ y, [v0, v1, v2].getD k 0 = y := ⟨_, rfl⟩
        rw [hy] at hyc hyb
        obtain ⟨s, hs⟩ : ∃ s, s = (x + 2 ^ 64 - y - cc) % 2 ^ 64 := ⟨_, rfl⟩
        obtain ⟨b', hb'⟩ : ∃ b', b' = if x < y + cc then 1 else 0 := ⟨_, rfl⟩
        have hrun := fun W => run_sub64 x y cc hI.out.c1 W
        have hst := PutM.step hI.out hlt HX.out hy hxb hyb
        rw [← hs, ← hb'] at hst hrun
        have HST := Lib.hid hst
        have hrun' : ∀ W, (callFunc 81 #[.int .u64 x, .int .u64 y, .int .u64 cc]).run Tryz.prog W = .ok (.value (.tuple #[.int .u64 s, .int .u64 b'])) W := hrun
        clear hst hs hb' hy hrun hzl
        go_wp2
        go_region_with (fail)
        go_wp2
        go_roundw
        case rel =>
          have hb := acc_set hZ.out (i + k) s _ rfl (by have := hI.out.len; omega)
          exact ⟨k + 1, _, _, by go_num, rfl, by omega, HST.out, hb, hV.out.far (p := ⟨b, i + k, none⟩) (show w.heap.size ≠ b by omega) _, (hW.out.setCell (p := ⟨b, i + k, none⟩) (Nat.le_refl b) _).drew⟩
        case measure => simp [intOf]; omega
      · rcases hI.out.c1 with rfl | rfl
        · have hz := hI.out.words HW.out (by simp; omega) (.inl rfl)
          rw [← HY.out] at hz
          have HZW := Lib.hid hz
          have HFC := Lib.hid (HF.out zs wr hZ.out hz)
          clear hz hzl
          go_wp2_with fail
          refine HFC.out.mono ?_
          rintro e w2 ⟨rfl, hW2⟩
          go_wp2
          go_end0
          exact ⟨rfl, ⟨HYC.out, zs, HZW.out, hZ.out.below' hW2⟩, hW.out.trans (hW2.mono (Nat.le_of_lt hZ.out.lt))⟩
        · have hy := getD3 v0 v1 v2 k (by omega)
          have hyb : 0 < B64 := by decide
          obtain ⟨s, hs⟩ : ∃ s, s = (x + 2 ^ 64 - 0 - 1) % 2 ^ 64 := ⟨_, rfl⟩
          obtain ⟨b', hb'⟩ : ∃ b', b' = if x < 0 + 1 then 1 else 0 := ⟨_, rfl⟩
          have hrun := fun W => run_sub64 x 0 1 hI.out.c1 W
          have hst := PutM.step hI.out hlt HX.out hy hxb hyb
          rw [← hs, ← hb'] at hst hrun
          have HST := Lib.hid hst
          have hrun' : ∀ W, (callFunc 81 #[.int .u64 x, .int .u64 0, .int .u64 1]).run Tryz.prog W = .ok (.value (.tuple #[.int .u64 s, .int .u64 b'])) W := hrun
          clear hst hs hb' hy hrun hzl
          go_wp2
          go_region_with (fail)
          go_wp2
          go_roundw
          case rel =>
            have hb := acc_set hZ.out (i + k) s _ rfl (by have := hI.out.len; omega)
            exact ⟨k + 1, _, _, by go_num, rfl, by omega, HST.out, hb, hV.out.far (p := ⟨b, i + k, none⟩) (show w.heap.size ≠ b by omega) _, (hW.out.setCell (p := ⟨b, i + k, none⟩) (Nat.le_refl b) _).drew⟩
          case measure => simp [intOf]; omega
    · have hz := hI.out.words HW.out (by simp; omega) (.inr (by omega))
      rw [← HY.out] at hz
      have HZW := Lib.hid hz
      have HFC := Lib.hid (HF.out zs wr hZ.out hz)
      clear hz hzl
      go_wp2_with fail
      refine HFC.out.mono ?_
      rintro e w2 ⟨rfl, hW2⟩
      go_wp2
      go_end0
      exact ⟨rfl, ⟨HYC.out, zs, HZW.out, hZ.out.below' hW2⟩, hW.out.trans (hW2.mono (Nat.le_of_lt hZ.out.lt))⟩
end Go.Proofs.YtcfejobdgiiihaaGreatDoor
