/- Walks and plain laws of this seat's functions, part 23: D14 D15. -/
import Derived.Deep.RegionLaw
import Derived.Test.YtcfejobdgiiihaaGreatDoorJ17
import Derived.Test.YtcfejobdgiiihaaGreatDoorJ21
import Derived.Test.YtcfejobdgiiihaaGreatDoorJ22
set_option linter.unusedVariables false
set_option linter.unusedSimpArgs false
namespace Go.Proofs.YtcfejobdgiiihaaGreatDoor
open Go.RowKit
attribute [local go_sem ↓] Go.wp_at_zero Go.wp_at_succ

/-! ### the law MarginLent: lemmas of its walk -/
theorem OnlyIn.keeps {S : List Nat} {w w' : World} {base : Nat} {E : List Nat} (h : OnlyIn S w w') (hS : ∀ g, g ∈ S → base ≤ g ∧ ∃ cells t, w.heap[g]? = some (.cells cells t (0, 0)) ∧ t ∉ E) : Keeps base E w w' :=
  ⟨h.size, fun g hg hk => h.block g hg (fun hm => by
    obtain ⟨h1, cells, t, h2, h3⟩ := hS g hm
    rcases hk with hk | ⟨c, q, hq, hh⟩
    · omega
    · have := h2.symm.trans hh
      simp at this
      exact h3 (this.2 ▸ hq))⟩
theorem and15 (n : Int) : ∃ k : Nat, bits BinOp.and IntKind.i64 n 15 = k ∧ k ≤ 15 := by
  refine ⟨(n % 16).toNat, ?_, by omega⟩
  have h : bits BinOp.and IntKind.i64 n 15 = n % 16 := by
    have h15 : (BitVec.ofInt 64 15).toNat = 2 ^ 4 - 1 := by decide
    have key : (BitVec.ofInt 64 n &&& BitVec.ofInt 64 15).toNat = (n % ((2 ^ 64 : Nat) : Int)).toNat % 2 ^ 4 := by
      rw [BitVec.toNat_and, BitVec.toNat_ofInt, h15, Nat.and_two_pow_sub_one_eq_mod]
    show IntKind.i64.wrap ((BitVec.ofInt 64 n &&& BitVec.ofInt 64 15).toNat : Nat) = n % 16
    rw [key, IntKind.wrap_i64]
    omega
  omega
/-- what was handed in and the reference's copies of it -/
structure L4 (w W : World) (bX bQ : Nat) (zc pc xc qc : List Value) (z : Zn) (p : Pr) : Prop where
  bel : Below w.heap.size w W
  Z : Blk W w.heap.size 42 zc
  P : Blk W (w.heap.size + 1) 25 pc
  X : Blk W bX 44 xc
  Q : Blk W bQ 35 qc
  x : rzRd.R W w.heap.size z xc
  q : rpRd.R W w.heap.size p qc
theorem L4.below {w W W' : World} {bX bQ : Nat} {zc pc xc qc : List Value} {z : Zn} {p : Pr} (h : L4 w W bX bQ zc pc xc qc z p) (hW : Below W.heap.size W W') : L4 w W' bX bQ zc pc xc qc z p :=
  ⟨below_next h.bel hW, h.Z.below' hW, h.P.below' hW, h.X.below' hW, h.Q.below' hW, rzRd.below h.x hW, rpRd.below h.q hW⟩
/-- a list of one's own, read -/
theorem OwnL.frow {w : World} {b base : Nat} {e : OL} (h : OwnL w b e) : f64.Row 47 w base (some ⟨e.g, 0, none⟩) e.l := by
  obtain ⟨A', c', hv, _, hr'⟩ := (own_f64 (base := base) h.own h.bd).row
  simp only [OL.val, Value.slice.injEq] at hv
  obtain ⟨rfl, _, _⟩ := hv
  exact hr'
/-- the copy of the claims that is kept for the end -/
structure LWant (W4 w6 W : World) (bW : Nat) (T : Int) (ls : List (List Nat)) (BW : Option Addr) (cW : Nat) : Prop where
  bel : Below w6.heap.size w6 W
  B : Blk W bW 35 [.slice none 0 0, .slice none 0 0, .int .i64 T, .slice BW ls.length cW, .int .i64 0, .int .i64 0, .int .i64 0]
  R : (bsl 50 u64).Row 33 W W4.heap.size BW ls
theorem lwant_new {W4 w6 w9 w10 : World} {T : Int} {ls : List (List Nat)} {BW : Option Addr} {cW : Nat} (H9 : Below w6.heap.size w6 w9) (H10 : Below w9.heap.size w9 w10) (hR : (bsl 50 u64).Row 33 w10 W4.heap.size BW ls) :
    LWant W4 w6 (w10.alloc (.cells #[.slice none 0 0, .slice none 0 0, .int .i64 T, .slice BW ls.length cW, .int .i64 0, .int .i64 0, .int .i64 0] 35)) w10.heap.size T ls BW cW :=
  ⟨below_new (below_next H9 H10) _, Blk.new _ _ _, hR.below (below_new (Below.refl _ _) _)⟩
theorem lwant_set {W4 w6 w9 w10 : World} {T : Int} {ls : List (List Nat)} {BW : Option Addr} {cW b : Nat} (hb : Blk w10 b 35 [.slice none 0 0, .slice none 0 0, .int .i64 0, .slice none 0 0, .int .i64 0, .int .i64 0, .int .i64 0]) (h6 : w6.heap.size ≤ b) (h4 : W4.heap.size ≤ b) (H9 : Below w6.heap.size w6 w9) (H10 : Below w9.heap.size w9 w10) (hR : (bsl 50 u64).Row 33 w10 W4.heap.size BW ls) :
    LWant W4 w6 (((((((w10.setCell ⟨b, 0, none⟩ (.slice none 0 0)).setCell ⟨b, 1, none⟩ (.slice none 0 0)).setCell ⟨b, 2, none⟩ (.int .i64 T)).setCell ⟨b, 3, none⟩ (.slice BW ls.length cW)).setCell ⟨b, 4, none⟩ (.int .i64 0)).setCell ⟨b, 5, none⟩ (.int .i64 0)).setCell ⟨b, 6, none⟩ (.int .i64 0)) b T ls BW cW := by
  obtain ⟨h1, h2, h3⟩ := set7 (base := W4.heap.size) (B := w6.heap.size) (E := [50, 33]) (w0 := w6) (.slice none 0 0) (.slice none 0 0) (.int .i64 T) (.slice BW ls.length cW) (.int .i64 0) (.int .i64 0) (.int .i64 0) hb h4 (by decide) h6 (below_next H9 H10)
  exact ⟨h3, h1, bsl_keep hR rfl h2 (by simp) (by simp)⟩
theorem LWant.below {W4 w6 W W' : World} {bW : Nat} {T : Int} {ls : List (List Nat)} {BW : Option Addr} {cW : Nat} (h : LWant W4 w6 W bW T ls BW cW) (hW : Below W.heap.size W W') : LWant W4 w6 W' bW T ls BW cW :=
  ⟨below_next h.bel hW, h.B.below' hW, h.R.below hW⟩
/-- a higher base -/
theorem row_raise {α : Type} {d : Rd α} {t : Nat} {w : World} {b b' : Nat} {A : Option Addr} {xs : List α} (hd : ∀ x cs, d.R w b x cs → d.R w b' x cs) (hb : b ≤ b') (h : d.Row t w b A xs) : d.Row t w b' A xs := by
  intro i x hi
  obtain ⟨a, cs, ha, hok, hlt, hr, hc⟩ := h i x hi
  exact ⟨a, cs, ha, hok.imp (fun h => Nat.lt_of_lt_of_le h hb) id, hlt, hd _ _ hr, hc⟩
theorem zRd_raise {w : World} {b b' : Nat} {z : Zn} {cs : List Value} (hb : b ≤ b') (h : zRd.R w b z cs) : zRd.R w b' z cs := by
  obtain ⟨AC, AI, AG, AR, cC, cI, cG, cR, rfl, hr, hl⟩ := h
  refine ⟨AC, AI, AG, AR, cC, cI, cG, cR, rfl, ⟨row_raise (b := b) (fun _ _ h => h) hb hr.C, row_raise (b := b) (fun _ _ h => h) hb hr.I, row_raise (b := b) (fun x cs h => ?_) hb hr.G, row_raise (b := b) (fun _ _ h => h) hb hr.R⟩, hl⟩
  obtain ⟨⟨A, c, h1, h2, h3⟩, h4⟩ := h
  exact ⟨⟨A, c, h1, h2, row_raise (b := b) (fun _ _ h => h) hb h3⟩, h4⟩
theorem signsS_len (z : Zn) (a : List Nat) (k : Nat) (hk : k ≤ 256) : (signsS z a k).length = k := by
  unfold signsS
  rw [if_neg (by omega), Int.toNat_natCast]
  split
  · exact sgS_len _ _ _ _
  · simp
theorem sgS_bd (z : Zn) (a : List Nat) (k : Nat) : ∀ c, ∀ d ∈ sgS z a k c, InInt d
  | 0, d, hd => by
    simp only [sgS] at hd
    have := List.eq_of_mem_replicate hd
    subst this; decide
  | c + 1, d, hd => by
    rw [sgS] at hd
    split at hd
    · rcases List.mem_or_eq_of_mem_set hd with h | h
      · exact sgS_bd z a k c d h
      · have := sign_bd (dotS a (z.G.getD c []) z.N.toNat)
        subst h
        exact ⟨by omega, by omega⟩
    · exact sgS_bd z a k c d hd
theorem signsS_bd (z : Zn) (a : List Nat) (k : Int) : ∀ d ∈ signsS z a k, InInt d := by
  intro d hd
  unfold signsS at hd
  split at hd
  · simp at hd
  · split at hd
    · exact sgS_bd z a _ _ d hd
    · have := List.eq_of_mem_replicate hd
      subst this; decide
/-- the lists of signs so far -/
structure LLoop (W4 wm wr : World) (ks : List LS) (v : Value) (kk i : Nat) : Prop where
  bel : Below wm.heap.size wm wr
  own : hdRd.Own 40 wr wm.heap.size W4.heap.size v ks
  len : ks.length = 2 * i
  lm : LM 3 wr ks nE
  di : Dist ks
  gs : ∀ (j : Nat) (e : LS), ks[j]? = some e → wm.heap.size ≤ e.g ∧ e.g < wr.heap.size ∧ e.n = kk ∧ e.cap = kk
theorem UIL : Tryz.prog.underlying 83 = some (.slice 40) := by kernel_rfl
theorem IIL : (Tryz.prog.info? 40).map (fun i => (i.zero, i.size, i.bytes)) = some (some (.slice none 0 0), 1, 24) := by kernel_rfl
theorem UFL : Tryz.prog.underlying 23 = some (.slice 22) := by kernel_rfl
theorem IFL : (Tryz.prog.info? 22).map (fun i => (i.zero, i.size, i.bytes)) = some (some (.slice none 0 0), 1, 24) := by kernel_rfl
theorem two_cells (W : World) (b : Nat) (hb : W.heap.size = b) (t g1 g2 kk : Nat) : ∀ (j : Nat) (p : LS), ([⟨g1, kk, kk⟩, ⟨g2, kk, kk⟩] : List LS)[j]? = some p → (W.alloc (.cells #[.slice (some ⟨g1, 0, none⟩) kk kk, .slice (some ⟨g2, 0, none⟩) kk kk] t)).cell? ((⟨b, 0, none⟩ : Addr).add j) = some p.val := by
  subst hb
  intro j p hp
  have hB := Blk.new W #[.slice (some ⟨g1, 0, none⟩) kk kk, .slice (some ⟨g2, 0, none⟩) kk kk] t
  have ha : (⟨W.heap.size, 0, none⟩ : Addr).add j = ⟨W.heap.size, j, none⟩ := by unfold Addr.add; split <;> simp_all
  rw [ha, hB.cell]
  rcases j with _ | _ | j
  · simp at hp; subst hp; rfl
  · simp at hp; subst hp; rfl
  · simp at hp
theorem LLoop.next {W4 wm wr wA wB wC wD : World} {ks : List LS} {v v1 : Value} {kk i g1 g2 : Nat} {cs1 cs2 : List Value} (h : LLoop W4 wm wr ks v kk i)
    (h1 : wr.heap.size ≤ g1) (b1 : Blk wA g1 3 cs1) (l1 : cs1.length = kk) (HA : Below wr.heap.size wr wA) (h2 : wA.heap.size ≤ g2) (b2 : Blk wB g2 3 cs2) (l2 : cs2.length = kk) (HB : Below wA.heap.size wA wB) (HC : Below wB.heap.size wB wC)
    (hO : hdRd.Own 40 wD wm.heap.size W4.heap.size v1 (ks ++ [⟨g1, kk, kk⟩, ⟨g2, kk, kk⟩])) (hg : wC.grownBy wD v.ownBlock) : LLoop W4 wm wD (ks ++ [⟨g1, kk, kk⟩, ⟨g2, kk, kk⟩]) v1 kk (i + 1) := by
  have hAC := below_next HB HC
  have hrC := below_next HA hAC
  have hoC := h.own.below hrC
  have keep : ∀ (b : Nat) (cs : List Value), Blk wC b 3 cs → Blk wD b 3 cs := fun b cs hb => hb.grown hg (hb.ne_ownd hoC (by decide))
  have k1 := keep _ _ (b1.below' hAC)
  have k2 := keep _ _ (b2.below' HC)
  have two : ∀ (j : Nat) (e : LS), ([⟨g1, kk, kk⟩, ⟨g2, kk, kk⟩] : List LS)[j]? = some e → (e = ⟨g1, kk, kk⟩ ∧ j = 0) ∨ (e = ⟨g2, kk, kk⟩ ∧ j = 1) := by
    intro j e he
    rcases j with _ | _ | j
    · simp at he; exact .inl ⟨he.symm, rfl⟩
    · simp at he; exact .inr ⟨he.symm, rfl⟩
    · simp at he
  have hb1 := b1.lt
  refine ⟨Rd.Own.below_of hoC (below_next h.bel hrC) hg, hO, by rw [List.length_append, h.len]; simp; omega, ?_, ?_, ?_⟩
  · intro j e he
    rcases at_append he with ⟨j', hj⟩ | ⟨j', hj⟩
    · obtain ⟨cs, hb, hc, _⟩ := h.lm j' e hj
      exact ⟨cs, keep _ _ (hb.below' hrC), hc, trivial⟩
    · rcases two _ _ hj with ⟨rfl, _⟩ | ⟨rfl, _⟩
      · exact ⟨cs1, k1, l1, trivial⟩
      · exact ⟨cs2, k2, l2, trivial⟩
  · refine Dist.append h.di (fun a b x y hx hy hg => ?_) (fun a b x y hx hy hg => ?_)
    · rcases two _ _ hx with ⟨rfl, rfl⟩ | ⟨rfl, rfl⟩ <;> rcases two _ _ hy with ⟨rfl, rfl⟩ | ⟨rfl, rfl⟩ <;> simp only at hg <;> omega
    · have h3 := (h.gs _ _ hx).2.1
      have := HA.size
      rcases two _ _ hy with ⟨rfl, _⟩ | ⟨rfl, _⟩ <;> simp only at hg <;> omega
  · intro j e he
    have hm := h.bel.size
    have hsA := HA.size
    rcases at_append he with ⟨j', hj⟩ | ⟨j', hj⟩
    · obtain ⟨a1, a2, a3, a4⟩ := h.gs _ _ hj
      exact ⟨a1, by have := hrC.size; have := hg.size; omega, a3, a4⟩
    · rcases two _ _ hj with ⟨rfl, _⟩ | ⟨rfl, _⟩
      · exact ⟨by show _ ≤ g1; omega, k1.lt, rfl, rfl⟩
      · exact ⟨by show _ ≤ g2; omega, k2.lt, rfl, rfl⟩
section
variable {P : Program} {ops : Array Oper} {o : Oper} {a : Act} {Q : Exit → Act → World → Prop} {K : Act → World → Prop} {EE : Prop}
/-- 'append(out, xs...)' of headers, as a step of a region: out is one's own, the row that is appended lies anywhere, or is empty -/
theorem step_appends {W : World} (b0 base : Nat) (hgd : o.guard = none) (s x : Operand) (t e : TypeId) (z : Value) (bytes : Nat)
    (ho : o.op = .call { callee := .builtin .append, args := #[s, x], argTypes := #[t, t] })
    (ht : P.underlying t = some (.slice e)) (hinfo : (P.info? e).map (fun i => (i.zero, i.size, i.bytes)) = some (some z, 1, bytes)) (hz : z.cells.size = 1)
    (v : Value) (xs ps L : List LS) (N : Nat) (A : Option Addr) (m c : Nat) (hm : ps.length = m) (hs : a.eval s = v) (hx : a.eval x = .slice A m c)
    (hrow : hdRd.Row e W base A ps)
    (HO : hdRd.Own e W b0 base v xs) (hbase : b0 ≤ W.heap.size) (hl : (xs.length + m) * bytes ≤ 140737488355328) (hl2 : xs.length + m ≤ 140737488355328) (hL : xs ++ ps = L) (hN : L.length = N)
    (h : ∀ (A1 : Option Addr) (c1 : Nat) (w1 : World), hdRd.Own e w1 b0 base (.slice A1 N c1) L → W.grownBy w1 v.ownBlock → K (a.put o.dst (.slice A1 N c1)) w1) :
    if Region.wanted o (yielded ops a.tmps) = true then Oper.wp P o a W K Q else EE := by
  subst hm
  replace h : ∀ v1 w1, hdRd.Own e w1 b0 base v1 (xs ++ ps) → W.grownBy w1 v.ownBlock → K (a.put o.dst v1) w1 := by
    intro v1 w1 h1 h2
    rw [hL] at h1
    obtain ⟨A1, c1, rfl, _, _⟩ := h1.row
    rw [hN] at h1 ⊢
    exact h A1 c1 w1 h1 h2
  rw [if_pos (by simp [Region.wanted, hgd])]
  obtain ⟨i0, hi, hzz⟩ := Option.map_eq_some_iff.1 hinfo
  simp only [Prod.mk.injEq] at hzz
  obtain ⟨hz0, hz1, hz2⟩ := hzz
  cases A with
  | none =>
    obtain rfl : ps = [] := by
      cases ps with
      | nil => rfl
      | cons p0 ps0 => obtain ⟨ad, _, h0, _⟩ := hrow 0 p0 rfl; cases h0
    obtain ⟨A', c', rfl, hc', _⟩ := HO.row
    have h1 := h _ W (by rw [List.append_nil]; exact HO) ⟨rfl, rfl, rfl, Nat.le_refl _, fun _ _ _ => rfl⟩
    have hrun : (Builtin.append_ #[t, t] o.type #[.slice A' xs.length c', .slice none 0 c]).run P W = .ok (.slice A' xs.length c') W := by
      cases A' <;> simp [Builtin.append_, run_underlying ht, sizeOf, typeInfo, hi, Builtin.lenOf, Builtin.firstCells, hc', storeCells]
    unfold Oper.wp
    simp [execOp, ho, resolve, invoke, builtin, hs, hx, hrun, Result.andThen]
    exact h1
  | some ad =>
    obtain ⟨css, hcl, hown, hr⟩ := HO
    refine wp_append_own W s x t ho b0 e i0 z 1 bytes ht hi hz0 hz1 hz2 hz (by decide) v xs.length css.flatten hs hown ad ps.length c (ps.map LS.val) hx (by simp)
      ?_ ?_ (by simp only [maxLen]; omega) hl hbase ?_
    · intro j u hj
      rw [List.getElem?_map] at hj
      obtain ⟨p, hp, rfl⟩ := Option.map_eq_some_iff.1 hj
      obtain ⟨a', ha', hc⟩ := hdAt hrow hp
      cases ha'
      exact hc
    · intro u hu
      obtain ⟨p, _, rfl⟩ := List.mem_map.1 hu
      rfl
    · intro v1 w1 hown1 hg _
      refine h v1 w1 ⟨css ++ ps.map (fun p => [p.val]), by simp [hcl], ?_, ?_⟩ hg
      · rw [List.flatten_append, flatten_vals, List.length_append]
        exact hown1
      · intro i y c h1 h2
        rcases Nat.lt_or_ge i xs.length with hlt | hge
        · rw [List.getElem?_append_left hlt] at h1
          rw [List.getElem?_append_left (by omega)] at h2
          exact hr i y c h1 h2
        · rw [List.getElem?_append_right hge] at h1
          rw [List.getElem?_append_right (by omega), hcl, List.getElem?_map, h1] at h2
          simp at h2
          subst h2
          exact ⟨rfl, trivial⟩
end
/-- a call of a Go function as one step of a region that draws: guarded, and wanted -/
theorem step_callw {P : Program} {ops : Array Oper} {o : Oper} {a : Act} {w : World} {K : Act → World → Prop} {Q : Exit → Act → World → Prop} {EE : Prop} (hw : Region.wanted o (yielded ops a.tmps) = true) (f : FuncId) (args : Array Value) (hrun : (execOp a.eval o).run P w = .ok (.enter f args) w) (R : Value → World → Prop)
    (hc : Calls P f args w fun e w' => ∃ v, e = .returned v ∧ R v w') (h : ∀ v w', R v w' → K (a.put o.dst v) w') : if Region.wanted o (yielded ops a.tmps) = true then Oper.wp P o a w K Q else EE := by
  rw [if_pos hw]
  unfold Oper.wp
  rw [hrun, Oper.upon_enter]
  refine hc.mono fun e w'' hh => ?_
  obtain ⟨v, rfl, hr⟩ := hh
  exact h v w'' hr
/-- an empty list of headers in a block of one's own -/
theorem own_empty (W : World) (b0 base t : Nat) (hb : b0 ≤ W.heap.size) : hdRd.Own t (W.alloc (.cells #[] t)) b0 base (.slice (some ⟨W.heap.size, 0, none⟩) 0 0) [] := by
  refine ⟨[], rfl, ⟨by simp, .inr ⟨W.heap.size, 0, #[], rfl, hb, heap_alloc_new W _, Nat.le_refl _, by simp [maxLen], by simp, by simp⟩⟩, fun i x c h => by simp at h⟩
/-- the state behind the marks -/
structure LEnd (W4 W : World) (bW : Nat) (T : Int) (ls : List (List Nat)) (BW : Option Addr) (cW : Nat) : Prop where
  bel : Below W4.heap.size W4 W
  B : Blk W bW 35 [.slice none 0 0, .slice none 0 0, .int .i64 T, .slice BW ls.length cW, .int .i64 0, .int .i64 0, .int .i64 0]
  R : (bsl 50 u64).Row 33 W W4.heap.size BW ls
theorem LEnd.below {W4 W W' : World} {bW : Nat} {T : Int} {ls : List (List Nat)} {BW : Option Addr} {cW : Nat} (h : LEnd W4 W bW T ls BW cW) (hW : Below W.heap.size W W') : LEnd W4 W' bW T ls BW cW :=
  ⟨below_next h.bel hW, h.B.below' hW, h.R.below hW⟩
theorem lent_marked {W4 w5 w6 wm W : World} {EL ks : List LS} {A2 vA : Option Addr} {N c2 n vc bW kk j : Nat} {T : Int} {ls : List (List Nat)} {BW : Option Addr} {cW : Nat}
    (hDi : Dist EL) (hLM : LM 47 w6 EL nE) (hBd : ∀ (i : Nat) (e : LS), EL[i]? = some e → (W4.heap.size ≤ e.g ∨ w5.heap.size ≤ e.g) ∧ e.g < w6.heap.size ∧ e.n ≤ e.cap ∧ e.n ≤ 1000000 ∧ e.cap ≤ 9223372036854775807)
    (h45 : W4.heap.size ≤ w5.heap.size) (h4m : W4.heap.size ≤ wm.heap.size) (h6 : Below w6.heap.size w6 W) (hE : LEnd W4 W bW T ls BW cW) (hk : LLoop W4 wm W ks (.slice vA n vc) kk j) (hkk : kk ≤ 15) (hn : ks.length = n) (hN : EL.length = N) (hN2 : N ≤ 1000) (hn2 : n ≤ 1000)
    (hA : hdRd.Row 22 W W4.heap.size A2 EL) (hB : hdRd.Row 40 W W4.heap.size vA ks) :
    Calls Tryz.prog 36 #[.slice A2 N c2, .slice vA n vc] W fun e w' => ∃ v, e = .returned v ∧ v = .bool true ∧ LEnd W4 w' bW T ls BW cW := by
  have hLM' : LM 47 W EL nE := hLM.keep (fun i e he => h6.block _ (hBd i e he).2.1)
  have hge : ∀ (i : Nat) (e : LS), EL[i]? = some e → W4.heap.size ≤ e.g := fun i e he => by rcases (hBd i e he).1 with h | h <;> omega
  have hty : ∀ g, g ∈ EL.map (·.g) ++ ks.map (·.g) → W4.heap.size ≤ g ∧ ∃ cells t, W.heap[g]? = some (.cells cells t (0, 0)) ∧ (t = 47 ∨ t = 3) := by
    intro g hg
    rcases List.mem_append.1 hg with h | h
    · obtain ⟨e, he, rfl⟩ := List.mem_map.1 h
      obtain ⟨i, hi, rfl⟩ := List.getElem_of_mem he
      have hi' : EL[i]? = some EL[i] := List.getElem?_eq_getElem hi
      obtain ⟨cs, hb, _⟩ := hLM' i _ hi'
      exact ⟨hge i _ hi', _, _, hb, .inl rfl⟩
    · obtain ⟨e, he, rfl⟩ := List.mem_map.1 h
      obtain ⟨i, hi, rfl⟩ := List.getElem_of_mem he
      have hi' : ks[i]? = some ks[i] := List.getElem?_eq_getElem hi
      obtain ⟨cs, hb, _⟩ := hk.lm i _ hi'
      have := (hk.gs i _ hi').1
      exact ⟨by omega, _, _, hb, .inr rfl⟩
  have hx : MFix (EL.map (·.g) ++ ks.map (·.g)) W W4.heap.size EL ks := by
    refine ⟨fun g hg => (hty g hg).2, hDi, hk.di, fun i e he => ?_, fun i e he => ?_⟩
    · obtain ⟨_, _, h1, h2, h3⟩ := hBd i e he
      exact ⟨List.mem_append.2 (.inl (List.mem_map.2 ⟨e, List.mem_of_getElem? he, rfl⟩)), hge i e he, h1, h2, h3⟩
    · obtain ⟨h1, h2, h3, h4⟩ := hk.gs i e he
      exact ⟨List.mem_append.2 (.inr (List.mem_map.2 ⟨e, List.mem_of_getElem? he, rfl⟩)), by omega, by omega, by omega, by omega⟩
  refine (marked_calls A2 vA EL ks N n c2 vc W4.heap.size _ W hN hn hA hB ⟨OnlyIn.refl _ _, hLM', hk.lm⟩ hx (fun g hg => (hty g hg).1) hE.bel.size hN2 hn2).mono ?_
  rintro e w' ⟨rfl, hO⟩
  refine ⟨_, rfl, rfl, hO.after hE.bel (fun g hg => (hty g hg).1) hE.bel.size, ?_, ?_⟩
  · refine (hO.block bW hE.B.lt fun hm => ?_).trans hE.B
    obtain ⟨_, cells, t, h1, h2⟩ := hty _ hm
    have := (show W.heap[bW]? = _ from hE.B).symm.trans h1
    simp at this
    rcases h2 with h2 | h2 <;> (have h3 := this.2.trans h2; revert h3; decide)
  · refine bsl_keep (E := [50, 33]) hE.R rfl (hO.keeps fun g hg => ?_) (by simp) (by simp)
    obtain ⟨h1, cells, t, h2, h3⟩ := hty g hg
    refine ⟨h1, cells, t, h2, ?_⟩
    rcases h3 with rfl | rfl <;> decide
theorem LLoop.below {W4 wm wr W : World} {ks : List LS} {v : Value} {kk i : Nat} (h : LLoop W4 wm wr ks v kk i) (hW : Below wr.heap.size wr W) : LLoop W4 wm W ks v kk i :=
  ⟨below_next h.bel hW, h.own.below hW, h.len, h.lm.keep (fun i e he => hW.block _ (h.gs i e he).2.1), h.di, fun j e he => by
    obtain ⟨h1, h2, h3, h4⟩ := h.gs j e he
    exact ⟨h1, Nat.lt_of_lt_of_le h2 hW.size, h3, h4⟩⟩
theorem ol_hrow {t : Nat} {w : World} {b0 base base' : Nat} {A : Option Addr} {n c : Nat} {es : List OL} (h : olRd.Own t w b0 base (.slice A n c) es) : hdRd.Row t w base' A (es.map OL.ls) := by
  have h2 : hdRd.Own t w b0 base' (.slice A n c) (es.map OL.ls) := by
    obtain ⟨css, h1, h2, h3⟩ := h
    refine ⟨css, by rw [h1, List.length_map], by rw [List.length_map]; exact h2, fun i x c hx hc => ?_⟩
    obtain ⟨e, he, rfl⟩ := ols_at hx
    exact ⟨(h3 i e c he hc).1, trivial⟩
  obtain ⟨A', c', hv, _, hr⟩ := h2.row
  cases hv
  exact hr
theorem own_hrow {t : Nat} {w : World} {b0 base : Nat} {A : Option Addr} {n c : Nat} {L : List LS} (h : hdRd.Own t w b0 base (.slice A n c) L) : hdRd.Row t w base A L := by
  obtain ⟨A', c', hv, _, hr⟩ := h.row
  cases hv
  exact hr
set_option maxHeartbeats 1000000 in
set_option maxRecDepth 100000 in
theorem samezono_calls (z : Zn) (cs1 cs2 : List Value) (w : World) (b1 b2 : Nat) (h1 : rzRd.R w b2 z cs1) (h2 : zRd.R w b1 z cs2) :
    Calls Tryz.prog 38 #[.agg cs1.toArray, .agg cs2.toArray] w fun e w' => ∃ v, e = .returned v ∧ v = .bool true ∧ Below w.heap.size w w' := by
  have HC := Lib.hid (fun W (hW : Below w.heap.size w W) => same75_calls z cs2 cs1 W b1 b2 (zRd.below h2 hW) (rzRd.below h1 hW))
  obtain ⟨AC, AI, AG, AR, cC, cI, cG, cR, rfl, hr, hl⟩ := h2
  obtain ⟨XC, XI, XG, XR, xC, xI, xG, xR, rfl, hr', hl'⟩ := h1
  clear hr hl hr' hl'
  have hW := Lib.hid (below_new (below_new (Below.refl w.heap.size w) (.cells #[.int .i64 z.N, .slice XC z.C.length xC, .slice XI z.Ids.length xI, .slice XG z.G.length xG, .slice XR z.R.length xR, .bool z.bad] 44)) (.cells #[.int .i64 z.N, .slice AC z.C.length cC, .slice AI z.Ids.length cI, .slice AG z.G.length cG, .slice AR z.R.length cR, .bool z.bad] 42))
  go_enter Tryz.func38, Tryz.ntmps38
  go_wp2_with fail
  refine (HC.out _ hW.out).mono ?_
  rintro e w2 ⟨rfl, hW2⟩
  have H2 := Lib.hid (below_next hW.out hW2)
  clear hW2
  go_wp2
  go_ret
  exact ⟨_, rfl, rfl, H2.out⟩
theorem ofprop_v (p : Pr) (cs : List Value) (w : World) (b1 base : Nat) (h : prRd.R w b1 p cs) (hbase : base ≤ w.heap.size) :
    Calls Tryz.prog 11 #[.agg cs.toArray] w fun e w' => ∃ v, e = .returned v ∧ ∃ (RC RG RL : Option Addr) (rC rG rL : Nat), v = .agg #[.slice RC p.C.length rC, .slice RG p.G.length rG, .int .i64 p.T, .slice RL p.L.length rL, .int .i64 p.K, .int .i64 p.D, .int .i64 p.S] ∧
      rpRd.R w' base p [.slice RC p.C.length rC, .slice RG p.G.length rG, .int .i64 p.T, .slice RL p.L.length rL, .int .i64 p.K, .int .i64 p.D, .int .i64 p.S] ∧ Below w.heap.size w w' := by
  refine (ofprop_calls p cs w b1 base h hbase).mono ?_
  rintro e w' ⟨cs', rfl, ⟨RC, RG, RL, rC, rG, rL, rfl, h1, h2⟩, hW⟩
  exact ⟨_, rfl, RC, RG, RL, rC, rG, rL, rfl, ⟨RC, RG, RL, rC, rG, rL, rfl, h1, h2⟩, hW⟩
theorem sameprop_v (p : Pr) (cs1 cs2 : List Value) (w : World) (b1 b2 : Nat) (h1 : rpRd.R w b1 p cs1) (h2 : rpRd.R w b2 p cs2) :
    Calls Tryz.prog 37 #[.agg cs1.toArray, .agg cs2.toArray] w fun e w' => ∃ v, e = .returned v ∧ v = .bool true ∧ Below w.heap.size w w' :=
  (sameprop_calls p cs1 cs2 w b1 b2 h1 h2).mono (by rintro e w' ⟨rfl, h⟩; exact ⟨_, rfl, rfl, h⟩)
end Go.Proofs.YtcfejobdgiiihaaGreatDoor

namespace Go.Proofs.YtcfejobdgiiihaaGreatDoor
open Go.RowKit
attribute [local go_sem ↓] Go.wp_at_zero Go.wp_at_succ

set_option maxHeartbeats 8000000 in
set_option maxRecDepth 100000 in
theorem lent_main (z : Zn) (p : Pr) (cs cs' : List Value) (m k : Int) (w : World) (base : Nat) (hz : zRd.R w base z cs) (hp : prRd.R w base p cs') (hL : p.L.length ≤ 70) (hI : z.Ids.length ≤ 100) (hbase : base ≤ w.heap.size) :
    Calls Tryz.prog 7 #[.agg cs.toArray, .agg cs'.toArray, .int .i64 m, .int .i64 k] w fun e w' => e = .returned (.bool true) ∧ Below w.heap.size w w' := by
  have HN : Hid (∀ ls, ls = (if errS p m = 0 then claimsL p m else []) → ls.length ≤ 400) := by
    rintro ls rfl
    split
    · rename_i h0
      have hm : m ≤ 256 := by
        unfold errS at h0
        split at h0
        · cases h0
        · rename_i hb
          simp only [tbadB, Bool.or_eq_true, decide_eq_true_eq, not_or] at hb
          omega
      unfold claimsL
      rw [List.length_append]
      have h2 : (if 0 ≤ p.T then rowsS m.toNat p.T.toNat m.toNat else []).length ≤ m.toNat := by
        split
        · exact rowsS_len _ _ _
        · exact Nat.zero_le _
      omega
    · simp
  obtain ⟨ls, hls⟩ : ∃ ls, ls = (if errS p m = 0 then claimsL p m else []) := ⟨_, rfl⟩
  have hlen : ls.length ≤ 400 := HN.out ls hls
  have HLS := Lib.hid hls
  obtain ⟨er, her⟩ : ∃ er, errS p m = er := ⟨_, rfl⟩
  have HER := Lib.hid her
  clear HN hls her
  have HZ := Lib.hid (fun W (hW : Below w.heap.size w W) => zRd.below hz hW)
  have HP := Lib.hid (fun W (hW : Below w.heap.size w W) => prRd.below hp hW)
  obtain ⟨AC, AI, AG, AR, cC, cI, cG, cR, rfl, hr, hl⟩ := hz
  obtain ⟨BC, BG, BL, dC, dG, dL, rfl, hr', hl'⟩ := hp
  have HOF := Lib.hid (fun W (hW : Below w.heap.size w W) => of10_calls z _ W base w.heap.size (HZ.out W hW) hW.size)
  have HOP := Lib.hid (fun W (hW : Below w.heap.size w W) => ofprop_calls p _ W base w.heap.size (HP.out W hW) hW.size)
  have HCL := Lib.hid (fun W (hW : Below w.heap.size w W) => mclaims_calls p _ m W base (HP.out W hW) (by omega))
  have HAW := Lib.hid (fun W => awake_calls W)
  have hil : z.Ids.length ≤ 17592186044416 := Nat.le_trans hl.i.2 (by decide)
  have hW := Lib.hid (below_new (below_new (Below.refl w.heap.size w) (.cells #[.int .i64 z.N, .slice AC z.C.length cC, .slice AI z.Ids.length cI, .slice AG z.G.length cG, .slice AR z.R.length cR, .bool z.bad] 42)) (.cells #[.slice BC p.C.length dC, .slice BG p.G.length dG, .int .i64 p.T, .slice BL p.L.length dL, .int .i64 p.K, .int .i64 p.D, .int .i64 p.S] 25))
  have hBZ := Lib.hid ((Blk.new w #[.int .i64 z.N, .slice AC z.C.length cC, .slice AI z.Ids.length cI, .slice AG z.G.length cG, .slice AR z.R.length cR, .bool z.bad] 42).alloc (.cells #[.slice BC p.C.length dC, .slice BG p.G.length dG, .int .i64 p.T, .slice BL p.L.length dL, .int .i64 p.K, .int .i64 p.D, .int .i64 p.S] 25))
  have hBP := Lib.hid (blk_new' (w.alloc (.cells #[.int .i64 z.N, .slice AC z.C.length cC, .slice AI z.Ids.length cI, .slice AG z.G.length cG, .slice AR z.R.length cR, .bool z.bad] 42)) (w.heap.size + 1) (by simp) #[.slice BC p.C.length dC, .slice BG p.G.length dG, .int .i64 p.T, .slice BL p.L.length dL, .int .i64 p.K, .int .i64 p.D, .int .i64 p.S] 25)
  have d1 : ¬ (70 : Int) < (p.L.length : Int) := by omega
  have d2 : ¬ (100 : Int) < (z.Ids.length : Int) := by omega
  clear hr hl hr' hl' hL hI
  go_enter Tryz.func7, Tryz.ntmps7
  go_wp2_with fail
  refine (HOF.out _ hW.out).mono ?_
  rintro e1 w1 ⟨csx, rfl, hx1, hW1⟩
  obtain ⟨XC, XI, XG, XR, xC, xI, xG, xR, rfl, hxr, hxl⟩ := hx1
  have HX1 := Lib.hid (show rzRd.R w1 w.heap.size z _ from ⟨XC, XI, XG, XR, xC, xI, xG, xR, rfl, hxr, hxl⟩)
  have H1 := Lib.hid (And.intro (below_next hW.out hW1) (And.intro (hBZ.out.below' hW1) (hBP.out.below' hW1)))
  obtain ⟨y0, y1, y2, y3, y4, y5, y6⟩ := seven (H1.out.2.2.alloc (.cells #[.int .i64 z.N, .slice XC z.C.length xC, .slice XI z.Ids.length xI, .slice XG z.G.length xG, .slice XR z.R.length xR, .bool z.bad] 44))
  clear hxr hxl hW1 hW hBZ hBP HOF
  go_wp2_with fail
  refine (HOP.out _ (below_new H1.out.1 _)).mono ?_
  rintro e2 w2 ⟨csq, rfl, hx2, hW2⟩
  obtain ⟨QC, QG, QL, qC, qG, qL, rfl, hqr, hql⟩ := hx2
  have hA1 := (Below.refl w1.heap.size w1).alloc (Nat.le_refl _) (.cells #[.int .i64 z.N, .slice XC z.C.length xC, .slice XI z.Ids.length xI, .slice XG z.G.length xG, .slice XR z.R.length xR, .bool z.bad] 44)
  have hA2 := (Below.refl w2.heap.size w2).alloc (Nat.le_refl _) (.cells #[.slice QC p.C.length qC, .slice QG p.G.length qG, .int .i64 p.T, .slice QL p.L.length qL, .int .i64 p.K, .int .i64 p.D, .int .i64 p.S] 35)
  have hA3 := below_next hA1 hW2
  have hA4 := below_next hA3 hA2
  have H4 : Hid (L4 w (w2.alloc (.cells #[.slice QC p.C.length qC, .slice QG p.G.length qG, .int .i64 p.T, .slice QL p.L.length qL, .int .i64 p.K, .int .i64 p.D, .int .i64 p.S] 35)) w1.heap.size w2.heap.size [.int .i64 z.N, .slice AC z.C.length cC, .slice AI z.Ids.length cI, .slice AG z.G.length cG, .slice AR z.R.length cR, .bool z.bad] [.slice BC p.C.length dC, .slice BG p.G.length dG, .int .i64 p.T, .slice BL p.L.length dL, .int .i64 p.K, .int .i64 p.D, .int .i64 p.S] [.int .i64 z.N, .slice XC z.C.length xC, .slice XI z.Ids.length xI, .slice XG z.G.length xG, .slice XR z.R.length xR, .bool z.bad] [.slice QC p.C.length qC, .slice QG p.G.length qG, .int .i64 p.T, .slice QL p.L.length qL, .int .i64 p.K, .int .i64 p.D, .int .i64 p.S] z p) :=
    ⟨below_next H1.out.1 hA4, H1.out.2.1.below' hA4, H1.out.2.2.below' hA4, ((Blk.new w1 _ _).below' hW2).alloc _, Blk.new w2 _ _, rzRd.below HX1.out hA4, rpRd.below (show rpRd.R w2 w.heap.size p _ from ⟨QC, QG, QL, qC, qG, qL, rfl, hqr, hql⟩) hA2⟩
  clear y0 y1 y2 y3 y4 y5 y6 hA1 hA2 hA3 hA4 hqr hql hW2 HX1 H1
  go_upto_region 5 with fail
  obtain ⟨bX, hbX⟩ : ∃ b, w1.heap.size = b := ⟨_, rfl⟩
  obtain ⟨bQ, hbQ⟩ : ∃ b, w2.heap.size = b := ⟨_, rfl⟩
  obtain ⟨W4, hW4⟩ : ∃ W, w2.alloc (.cells #[.slice QC p.C.length qC, .slice QG p.G.length qG, .int .i64 p.T, .slice QL p.L.length qL, .int .i64 p.K, .int .i64 p.D, .int .i64 p.S] 35) = W := ⟨_, rfl⟩
  rw [hW4] at H4 ⊢
  rw [hbX, hbQ] at H4
  try rw [hbX]
  try rw [hbQ]
  obtain ⟨kk, hkk, hk15⟩ := and15 k
  have HCL2 := Lib.hid (fun W (hW : Below W4.heap.size W4 W) => HCL.out W (below_next H4.out.bel hW))
  obtain ⟨y0, y1, y2, y3, y4, y5, y6⟩ := seven H4.out.P
  clear hbX hbQ hW4 HCL
  go_wp2_with fail
  refine (HCL2.out _ (Below.refl _ _)).mono ?_
  rintro e3 w5 ⟨va, es, rfl, hO, hNd, hE, hW5⟩
  rw [HER.out]
  have hE' := hE.trans HLS.out.symm
  obtain ⟨Aa, ca, rfl, hca, hra⟩ := ol_row hO hE'
  have HA := Lib.hid (And.intro hO (And.intro hNd (And.intro hE' hra)))
  have H5 := Lib.hid hW5
  obtain ⟨x0, x1, x2, x3, x4, x5, x6⟩ := seven (H4.out.P.below' hW5)
  clear hO hNd hE hE' hra hW5 y0 y1 y2 y3 y4 y5 y6
  go_wp2_with fail
  refine (HCL2.out _ H5.out).mono ?_
  rintro e4 w6 ⟨vb, fs, rfl, hO, hNd, hE, hW6⟩
  rw [HER.out]
  have hE' := hE.trans HLS.out.symm
  obtain ⟨Ab, cb, rfl, hcb, hrb⟩ := ol_row hO hE'
  have HB := Lib.hid (And.intro hO (And.intro hNd (And.intro hE' hrb)))
  have H56 := Lib.hid hW6
  have H6 := Lib.hid (below_next H5.out hW6)
  have HRA := Lib.hid (fun W (hW : Below w6.heap.size w6 W) => lists_calls Aa ls ls.length ca 22 47 _ W.heap.size W rfl ((HA.out.2.2.2.below H56.out).below hW) (by omega) (Nat.le_refl _))
  have HRB := Lib.hid (fun W (hW : Below w6.heap.size w6 W) => lists_calls Ab ls ls.length cb 22 47 _ W.heap.size W rfl (HB.out.2.2.2.below hW) (by omega) (Nat.le_refl _))
  have hee : (((er : Nat) : Int) != (er : Int)) = false := by simp
  clear hO hNd hE hE' hrb hW6 x0 x1 x2 x3 x4 x5 x6
  go_wp2_with fail
  refine (HRA.out _ (Below.refl _ _)).mono ?_
  rintro e5 w7 ⟨B7, c7, rfl, hc7, hr7, hW7⟩
  have H7 := Lib.hid hW7
  have HR7 := Lib.hid hr7
  clear hc7 hr7 hW7
  go_wp2_with fail
  refine (HRB.out _ H7.out).mono ?_
  rintro e6 w8 ⟨B8, c8, rfl, hc8, hr8, hW8⟩
  have H8 := Lib.hid (below_next H7.out hW8)
  have HSL := Lib.hid (samelists_calls B7 B8 ls ls ls.length ls.length c7 c8 33 33 50 50 _ _ w8 rfl rfl (Rd.Row.below HR7.out hW8) hr8 (by omega) (by omega))
  rw [show decide (ls = ls) = true from decide_eq_true rfl] at HSL
  clear hc8 hr8 hW8
  go_wp2_with fail
  refine HSL.out.mono ?_
  rintro e w9 ⟨rfl, q, rfl⟩
  have H9 : Hid (Below w6.heap.size w6 (w8.drewN q)) := below_drewN H8.out q
  clear HSL HR7 H7 HRB H8
  obtain ⟨w9, hw9⟩ : ∃ W, w8.drewN q = W := ⟨_, rfl⟩
  rw [hw9] at H9 ⊢
  clear hw9
  go_upto_region 10 with fail
  go_cut [15] (fun s wx => ∃ (bW : Nat) (BW : Option Addr) (cW : Nat), s = .pointer (some ⟨bW, 0, none⟩) ∧ Hid (LWant W4 w6 wx bW p.T ls BW cW))
  case first =>
    have HQ2 := Lib.hid (fun W (hW : Below w9.heap.size w9 W) => (show W.cell? ⟨bQ, 2, none⟩ = some (.int .i64 p.T) from ((H4.out.below (below_next H6.out H9.out)).Q.below' hW).cell 2))
    have HRC := Lib.hid (fun W (hW : Below w9.heap.size w9 W) => lists_calls Aa ls ls.length ca 22 47 _ W4.heap.size W rfl ((HA.out.2.2.2.below H56.out).below (below_next H9.out hW)) (by omega) (Nat.le_trans H6.out.size (Nat.le_trans H9.out.size hW.size)))
    have cq := HQ2.out w9 (Below.refl _ _)
    have cq1 : (w9.alloc (.cells #[.slice none 0 0, .slice none 0 0, .int .i64 0, .slice none 0 0, .int .i64 0, .int .i64 0, .int .i64 0] 35)).cell? ⟨bQ, 2, none⟩ = some (.int .i64 p.T) := HQ2.out _ (below_new (Below.refl _ _) _)
    go_region_with (first | (go_at_call 13; refine (HRC.out _ (by (repeat (first  | exact Below.refl _ _ | (with_reducible apply below_drewN) | (with_reducible apply Below.drew) | (with_reducible apply below_new))))).mono ?_; rintro e w10 ⟨BW, cW, rfl, hcW, hrW, hW10⟩; have H10 : Hid (Below w9.heap.size w9 w10) := below_next (by (repeat (first  | exact Below.refl _ _ | (with_reducible apply below_drewN) | (with_reducible apply Below.drew) | (with_reducible apply below_new)))) hW10; have HRW := Lib.hid hrW; have cq10 := HQ2.out _ H10.out; (first | (have HZW := Lib.hid (Blk.below' (blk_new' w9.drew w9.heap.size (by rfl) #[.slice none 0 0, .slice none 0 0, .int .i64 0, .slice none 0 0, .int .i64 0, .int .i64 0, .int .i64 0] 35) hW10); obtain ⟨z0, z1, z2, z3, z4, z5, z6⟩ := seven HZW.out; have f0 := HZW.out.frozen 0; have f1 := HZW.out.frozen 1; have f2 := HZW.out.frozen 2; have f3 := HZW.out.frozen 3; have f4 := HZW.out.frozen 4; have f5 := HZW.out.frozen 5; have f6 := HZW.out.frozen 6) | (have cq11 : (w10.alloc (.cells #[.slice none 0 0, .slice none 0 0, .int .i64 0, .slice none 0 0, .int .i64 0, .int .i64 0, .int .i64 0] 35)).cell? ⟨bQ, 2, none⟩ = some (.int .i64 p.T) := HQ2.out _ (below_new H10.out _))); clear hrW hW10 hcW))
    all_goals (
      go_wp2_with fail
      go_meet
      first
        | (with_reducible exact ⟨w9.heap.size, BW, cW, rfl, Lib.hid (lwant_set HZW.out H9.out.size (Nat.le_trans H6.out.size H9.out.size) H9.out H10.out HRW.out)⟩)
        | (with_reducible exact ⟨w10.heap.size, BW, cW, rfl, Lib.hid (lwant_new H9.out H10.out HRW.out)⟩))
  case rest =>
    obtain ⟨bW, BW, cW, rfl, hM⟩ := hcut
    obtain ⟨wm, rfl⟩ : ∃ wo : World, wo = wc := ⟨_, rfl⟩
    have HM := Lib.hid hM.out
    have HZ4 := Lib.hid (fun W (hW : Below W4.heap.size W4 W) => zRd_raise (Nat.le_trans hbase H4.out.bel.size) (HZ.out W (below_next H4.out.bel hW)))
    have HW4 := Lib.hid (fun W (hW : Below wm.heap.size wm W) => below_next (below_next H6.out HM.out.bel) hW)
    have HROW := Lib.hid (fun W (hW : Below wm.heap.size wm W) => (HA.out.2.2.2.below H56.out).below (below_next HM.out.bel hW))
    have HSG := Lib.hid (fun W (hW : Below W4.heap.size W4 W) A (a : List Nat) c (ha : f64.Row 47 W W4.heap.size A a) (hal : a.length ≤ 17592186044416) => msigns_calls z _ A a a.length c kk W W4.heap.size (HZ4.out W hW) rfl ha hal (by omega))
    have hkne : (((kk : Nat) : Int) != (kk : Int)) = false := by simp
    clear HRA hM
    go_wp2
    go_loopw [16, 17, 18, 19] (fun v i _ _ wr => ∃ (j : Nat) (ks : List LS), j ≤ ls.length ∧ j ≤ 10 ∧ i = .int .i64 j ∧ Hid (LLoop W4 wm wr ks v kk j)) (fun _ i _ _ _ => ls.length - (intOf i).toNat)
    case atStart => exact ⟨0, [], by omega, by omega, rfl, ⟨Below.refl _ _, Rd.Own.nil _ _ _ _ _, rfl, fun j e he => by simp at he, fun a b x y hx => by simp at hx, fun j e he => by simp at he⟩⟩
    case round =>
      obtain ⟨j, ks, hjl, hj10, rfl, hS⟩ := hrel
      obtain ⟨vA, vc, rfl, hvc, _⟩ := hS.out.own.row
      by_cases hgo : j < ls.length ∧ j < 10
      · obtain ⟨hlt, h10⟩ := hgo
        · have hi1 : (j : Int) < (ls.length : Int) := by omega
          have hi2 : (j : Int) < 10 := by omega
          have hi3 : (0 : Int) ≤ (j : Int) := by omega
          obtain ⟨b, B, l, lc, rfl, hq, hge, hlc, hlC, hrow⟩ := bsl_at (HROW.out wr hS.out.bel) hlt
          have HSL := Lib.hid (signsS_len z l kk (by omega))
          have HSB := Lib.hid (fun W (hW : Below wr.heap.size wr W) => HSG.out W (HW4.out W (below_next hS.out.bel hW)) B l lc (hrow.below hW) hlC)
          have HZC := Lib.hid (fun W (hW : Below wr.heap.size wr W) => six ((H4.out.below (HW4.out W (below_next hS.out.bel hW))).Z))
          obtain ⟨z0, z1, z2, z3, z4, z5⟩ := HZC.out wr (Below.refl _ _)
          have HQ := Lib.hid hq
          clear hge hlc hrow
          go_wp2
          go_region_with (go_at_call 20; refine (HSB.out _ (by (repeat (first  | exact Below.refl _ _ | (with_reducible apply below_drewN) | (with_reducible apply Below.drew) | (with_reducible apply below_new))))).mono ?_; rintro e wA ⟨g1, rfl, hg1, hb1, hWA⟩; have HWA : Hid (Below wr.heap.size wr wA) := below_next (by (repeat (first  | exact Below.refl _ _ | (with_reducible apply below_drewN) | (with_reducible apply Below.drew) | (with_reducible apply below_new)))) hWA; have HB1 := Lib.hid (And.intro hb1 (show wr.heap.size ≤ g1 from hg1)); clear hWA hb1 hg1)
          all_goals (
            clear z0 z1 z2 z3 z4 z5 hq
            obtain ⟨z0, z1, z2, z3, z4, z5⟩ := HZC.out wA HWA.out
            have hq := cell_kept HWA.out HQ.out
            go_wp2
            have HSB2 := Lib.hid (fun W (hW : Below wA.heap.size wA W) => HSB.out W (below_next HWA.out hW))
            go_region_with (go_at_call 20; refine (HSB2.out _ (by (repeat (first  | exact Below.refl _ _ | (with_reducible apply below_drewN) | (with_reducible apply Below.drew) | (with_reducible apply below_new))))).mono ?_; rintro e wB ⟨g2, rfl, hg2, hb2, hWB⟩; have HWB : Hid (Below wA.heap.size wA wB) := below_next (by (repeat (first  | exact Below.refl _ _ | (with_reducible apply below_drewN) | (with_reducible apply Below.drew) | (with_reducible apply below_new)))) hWB; have HB2 := Lib.hid (And.intro hb2 (show wA.heap.size ≤ g2 from hg2)); clear hWB hb2 hg2)
            all_goals (
              clear z0 z1 z2 z3 z4 z5 hq
              have HSI := Lib.hid (sameints_calls (some ⟨g1, 0, none⟩) (some ⟨g2, 0, none⟩) (signsS z l kk) (signsS z l kk) kk kk kk kk 3 3 W4.heap.size W4.heap.size wB HSL.out HSL.out (i64all (HB1.out.1.below' HWB.out) (signsS_bd z l kk)) (i64all HB2.out.1 (signsS_bd z l kk)) (by omega) (by omega))
              rw [show decide (signsS z l kk = signsS z l kk) = true from decide_eq_true rfl] at HSI
              go_wp2_with fail
              refine HSI.out.mono ?_
              rintro e wC ⟨rfl, q, rfl⟩
              have HWC : Hid (Below wB.heap.size wB (wB.drewN q)) := below_drewN (Below.refl _ _) q
              have HCW : Hid (Below wB.heap.size wB ((wB.drewN q).alloc (.cells #[.slice (some ⟨g1, 0, none⟩) kk kk, .slice (some ⟨g2, 0, none⟩) kk kk] 40))) := below_new HWC.out _
              have HO2 := Lib.hid (hS.out.own.below (below_next HWA.out (below_next HWB.out HCW.out)))
              have HTC := Lib.hid (two_cells (wB.drewN q) wB.heap.size rfl 40 g1 g2 kk)
              have hbw : wm.heap.size ≤ ((wB.drewN q).alloc (.cells #[.slice (some ⟨g1, 0, none⟩) kk kk, .slice (some ⟨g2, 0, none⟩) kk kk] 40)).heap.size := Nat.le_trans hS.out.bel.size (below_next HWA.out (below_next HWB.out HCW.out)).size
              have hkl : (ks.length + 2) * 24 ≤ 140737488355328 := by rw [hS.out.len]; omega
              have hkl2 : ks.length + 2 ≤ 140737488355328 := by rw [hS.out.len]; omega
              clear HWC HSI
              go_wp2_with (at_builtin; refine own_appends wm.heap.size W4.heap.size rfl (.tmp 101) (.tmp 104) 83 40 (.slice none 0 0) 24 (by rfl) UIL IIL rfl (.slice vA ks.length vc) ks [⟨g1, kk, kk⟩, ⟨g2, kk, kk⟩] ks.length rfl ⟨wB.heap.size, 0, none⟩ 2 2 rfl (by rfl) (by rfl) HTC.out HO2.out hbw hkl hkl2 ?_; intro v1 wD hO1 hg1; have HN : Hid (LLoop W4 wm wD (ks ++ [⟨g1, kk, kk⟩, ⟨g2, kk, kk⟩]) v1 kk (j + 1)) := hS.out.next HB1.out.2 HB1.out.1 (by rw [iInts, List.length_map]; exact HSL.out) HWA.out HB2.out.2 HB2.out.1 (by rw [iInts, List.length_map]; exact HSL.out) HWB.out HCW.out hO1 hg1; clear hO1 hg1 HO2 HCW)
              go_roundw
              case rel => exact ⟨j + 1, _, by omega, by omega, by go_num, HN.out⟩
              case measure => simp [intOf]; omega))
      · have hex : (¬ (j : Int) < (ls.length : Int)) ∨ ((j : Int) < (ls.length : Int) ∧ ¬ (j : Int) < 10) := by omega
        rcases hex with hex | ⟨hex1, hex⟩
        all_goals go_upto_region 20 with fail
        all_goals (
          clear hgo hex HSG HZ4 hkne
          obtain ⟨hDi, hLM, hBd⟩ := two_lists (b0' := 0) HA.out.1 HA.out.2.1 HB.out.1 HB.out.2.1 H56.out
          have HAl : Hid ((es.map OL.ls).length = ls.length) := by rw [Hid, List.length_map, ← HA.out.2.2.1, List.length_map]
          have HBl : Hid ((fs.map OL.ls).length = ls.length) := by rw [Hid, List.length_map, ← HB.out.2.2.1, List.length_map]
          obtain ⟨EA, hEA⟩ : ∃ L, es.map OL.ls = L := ⟨_, rfl⟩
          obtain ⟨EB, hEB⟩ : ∃ L, fs.map OL.ls = L := ⟨_, rfl⟩
          have HRa := Lib.hid (fun W (hW : Below w6.heap.size w6 W) => (ol_hrow (base' := W4.heap.size) HA.out.1).below (below_next H56.out hW))
          have HRb := Lib.hid (fun W (hW : Below w6.heap.size w6 W) => (ol_hrow (base' := W4.heap.size) HB.out.1).below hW)
          rw [hEA] at HAl HRa hDi hLM hBd
          rw [hEB] at HBl HRb hDi hLM hBd
          obtain ⟨EL, hEL⟩ : ∃ L, EA ++ EB = L := ⟨_, rfl⟩
          rw [hEL] at hDi hLM hBd
          obtain ⟨N, hN⟩ : ∃ N, ls.length + ls.length = N := ⟨_, rfl⟩
          have hN2 : N ≤ 1000 := by omega
          have HEL := Lib.hid hEL
          have HNN : Hid (EL.length = N) := by rw [Hid, ← hEL, List.length_append, HAl.out, HBl.out, hN]
          have HLL := Lib.hid (And.intro hDi (And.intro hLM hBd))
          have HKN : Hid (ks.length ≤ 1000) := by rw [Hid, hS.out.len]; omega
          have hl1 : (([] : List LS).length + ls.length) * 24 ≤ 140737488355328 := by simp; omega
          have hl1' : ([] : List LS).length + ls.length ≤ 140737488355328 := by simp; omega
          have hl2 : (EA.length + ls.length) * 24 ≤ 140737488355328 := by rw [HAl.out]; omega
          have hl2' : EA.length + ls.length ≤ 140737488355328 := by rw [HAl.out]; omega
          have HL1 := Lib.hid (And.intro hl1 (And.intro hl1' (And.intro hl2 hl2')))
          have HRW1 : Hid (hdRd.Row 22 (wr.alloc (.cells #[] 22)).drew W4.heap.size Aa EA) := HRa.out _ (below_next (below_next HM.out.bel hS.out.bel) (below_new (Below.refl _ _) _).drew)
          have HOE : Hid (hdRd.Own 22 (wr.alloc (.cells #[] 22)).drew wr.heap.size W4.heap.size (.slice (some ⟨wr.heap.size, 0, none⟩) 0 0) []) := own_empty wr wr.heap.size W4.heap.size 22 (Nat.le_refl _)
          have hbe : wr.heap.size ≤ (wr.alloc (.cells #[] 22)).drew.heap.size := (below_new (Below.refl wr.heap.size wr) (.cells #[] 22)).size
          have HOF2 := Lib.hid (fun W (hW : Below W4.heap.size W4 W) => ofprop_v p _ W base w.heap.size (HP.out W (below_next H4.out.bel hW)) (below_next H4.out.bel hW).size)
          have HPC := Lib.hid (fun W (hW : Below W4.heap.size W4 W) => seven (H4.out.below hW).P)
          have HQC := Lib.hid (fun W (hW : Below W4.heap.size W4 W) => seven (H4.out.below hW).Q)
          have HXC := Lib.hid (fun W (hW : Below W4.heap.size W4 W) => six (H4.out.below hW).X)
          have HZC := Lib.hid (fun W (hW : Below W4.heap.size W4 W) => six (H4.out.below hW).Z)
          have HSP := Lib.hid (fun W (hW : Below W4.heap.size W4 W) cs2 (h2 : rpRd.R W w.heap.size p cs2) => sameprop_v p [.slice QC p.C.length qC, .slice QG p.G.length qG, .int .i64 p.T, .slice QL p.L.length qL, .int .i64 p.K, .int .i64 p.D, .int .i64 p.S] cs2 W w.heap.size w.heap.size (H4.out.below hW).q h2)
          have HSZ := Lib.hid (fun W (hW : Below W4.heap.size W4 W) => samezono_calls z [.int .i64 z.N, .slice XC z.C.length xC, .slice XI z.Ids.length xI, .slice XG z.G.length xG, .slice XR z.R.length xR, .bool z.bad] [.int .i64 z.N, .slice AC z.C.length cC, .slice AI z.Ids.length cI, .slice AG z.G.length cG, .slice AR z.R.length cR, .bool z.bad] W base w.heap.size (H4.out.below hW).x (HZ.out W (below_next H4.out.bel hW)))
          clear hEA hEB hEL hN hDi hLM hBd hl1 hl1' hl2 hl2' HA HB HOP
          go_cut [126] (fun s wx => s = .bool false ∧ Hid (LEnd W4 wx bW p.T ls BW cW))
          case first =>
            go_region_law (first
              | (have _t := HH; refine step_callw (by rfl) 38 #[.agg #[.int .i64 z.N, .slice XC z.C.length xC, .slice XI z.Ids.length xI, .slice XG z.G.length xG, .slice XR z.R.length xR, .bool z.bad], .agg #[.int .i64 z.N, .slice AC z.C.length cC, .slice AI z.Ids.length cI, .slice AG z.G.length cG, .slice AR z.R.length cR, .bool z.bad]] (by first | rfl | (go_simp; done) | (simp [execOp, go_sem]; done)) _ (HSZ.out _ HH.out.bel) ?_; rintro v wI ⟨rfl, hI⟩; have HI := Lib.hid (HH.out.below hI); clear hI)
              | (have _t := HG; refine step_callw (by rfl) 37 #[.agg #[.slice QC p.C.length qC, .slice QG p.G.length qG, .int .i64 p.T, .slice QL p.L.length qL, .int .i64 p.K, .int .i64 p.D, .int .i64 p.S], .agg #[.slice RC p.C.length rC, .slice RG p.G.length rG, .int .i64 p.T, .slice RL p.L.length rL, .int .i64 p.K, .int .i64 p.D, .int .i64 p.S]] (by first | rfl | (go_simp; done) | (simp [execOp, go_sem]; done)) _ (HSP.out wG HG.out.bel _ HRG.out) ?_; rintro v wH ⟨rfl, hH⟩; have HH := Lib.hid (HG.out.below hH); obtain ⟨x0, x1, x2, x3, x4, x5⟩ := HXC.out wH HH.out.bel; obtain ⟨z0, z1, z2, z3, z4, z5⟩ := HZC.out wH HH.out.bel; clear hH)
              | (have _t := HE; refine step_callw (by rfl) 11 #[.agg #[.slice BC p.C.length dC, .slice BG p.G.length dG, .int .i64 p.T, .slice BL p.L.length dL, .int .i64 p.K, .int .i64 p.D, .int .i64 p.S]] (by first | rfl | (go_simp; done) | (simp [execOp, go_sem]; done)) _ (HOF2.out wF HE.out.bel) ?_; rintro v wG ⟨RC, RG, RL, rC, rG, rL, rfl, hRG, hG⟩; have HG := Lib.hid (HE.out.below hG); have HRG := Lib.hid hRG; obtain ⟨p0, p1, p2, p3, p4, p5, p6⟩ := HQC.out wG HG.out.bel; clear hG hRG)
              | (have _t := HMK; refine step_callw (by rfl) 36 #[.slice A2 N c2, .slice vA ks.length vc] (by first | rfl | (go_simp; done) | (simp [execOp, go_sem]; done)) _ HMK.out ?_; rintro v wF ⟨rfl, hE⟩; have HE := Lib.hid hE; obtain ⟨y0, y1, y2, y3, y4, y5, y6⟩ := HPC.out wF hE.bel; obtain ⟨q0, q1, q2, q3, q4, q5, q6⟩ := HQC.out wF hE.bel; clear hE)
              | (have _t := HO1; refine step_appends wr.heap.size W4.heap.size (by rfl) (.tmp 108) (.tmp 109) 23 22 (.slice none 0 0) 24 (by rfl) UFL IFL rfl (.slice A1 ls.length c1) EA EB EL N Ab ls.length cb HBl.out (by rfl) (by rfl) HRW2.out HO1.out HX.out.size HL1.out.2.2.1 HL1.out.2.2.2 HEL.out HNN.out ?_; intro A2 c2 wY hO2 hg2; have HY := Lib.hid (Rd.Own.below_of HO1.out HX.out hg2); have HMK := Lib.hid (lent_marked (c2 := c2) HLL.out.1 HLL.out.2.1 HLL.out.2.2 H5.out.size (Nat.le_trans H6.out.size HM.out.bel.size) (below_next (below_next HM.out.bel hS.out.bel) HY.out) (LEnd.below ⟨below_next H6.out (below_next HM.out.bel hS.out.bel), (HM.out.below hS.out.bel).B, (HM.out.below hS.out.bel).R⟩ HY.out) (hS.out.below HY.out) hk15 rfl HNN.out hN2 HKN.out (own_hrow hO2) (own_hrow (hS.out.below HY.out).own)); clear hO2 hg2)
              | (refine step_appends wr.heap.size W4.heap.size (by rfl) (.tmp 106) (.tmp 107) 23 22 (.slice none 0 0) 24 (by rfl) UFL IFL rfl (.slice (some ⟨wr.heap.size, 0, none⟩) 0 0) [] EA EA ls.length Aa ls.length ca HAl.out (by rfl) (by rfl) HRW1.out HOE.out hbe HL1.out.1 HL1.out.2.1 (List.nil_append _) HAl.out ?_; intro A1 c1 wX hO1 hg1; have HX := Lib.hid (Rd.Own.below_of HOE.out (below_new (Below.refl _ _) _).drew hg1); have HRW2 := Lib.hid (HRb.out _ (below_next (below_next HM.out.bel hS.out.bel) HX.out)); have HO1 := Lib.hid hO1; clear hO1 hg1))
            all_goals (
              go_wp2_with fail
              go_meet
              exact ⟨rfl, HI.out⟩)
          case rest =>
            obtain ⟨rfl, hEn⟩ := hcut
            obtain ⟨we, rfl⟩ : ∃ wo : World, wo = wc := ⟨_, rfl⟩
            clear HRW1 HOE hbe HLL HRa HRb HOF2 HSP HSZ
            obtain ⟨y0, y1, y2, y3, y4, y5, y6⟩ := HPC.out we hEn.out.bel
            go_wp2_with fail
            refine (HCL2.out _ hEn.out.bel).mono ?_
            rintro e wf ⟨vg, gs, rfl, hO, hNd, hE, hWf⟩
            rw [HER.out]
            have hE' := hE.trans HLS.out.symm
            obtain ⟨Ag, cg, rfl, hcg, hrg⟩ := ol_row hO hE'
            have HEf := Lib.hid (hEn.out.below hWf)
            have HLg := Lib.hid (fun W (hW : Below wf.heap.size wf W) => lists_calls Ag ls ls.length cg 22 47 _ W4.heap.size W rfl (hrg.below hW) (by omega) (Nat.le_trans HEf.out.bel.size hW.size))
            have HB3 := Lib.hid (fun W (hW : Below wf.heap.size wf W) => (show W.cell? ⟨bW, 3, none⟩ = some (.slice BW ls.length cW) from (HEf.out.below hW).B.cell 3))
            have HSL := Lib.hid (fun W (hW : Below wf.heap.size wf W) B c (hr : blU.Row 33 W W4.heap.size B ls) => samelists_calls BW B ls ls ls.length ls.length cW c 33 33 50 50 _ _ W rfl rfl (HEf.out.below hW).R hr (by omega) (by omega))
            rw [show decide (ls = ls) = true from decide_eq_true rfl] at HSL
            have b3 := HB3.out wf (Below.refl _ _)
            have hee2 : (((er : Nat) : Int) == (er : Int)) = true := by simp
            clear hO hNd hE hE' hrg hWf hcg y0 y1 y2 y3 y4 y5 y6
            go_wp2_with fail
            go_region_with (first
              | (go_at_call 8; refine (HAW.out _).mono ?_; rintro e wa ⟨rfl, hwa⟩; have HWa : Hid (Below wf.heap.size wf wa) := below_next (by (repeat (first | exact HWl.out | exact Below.refl _ _ | (with_reducible apply below_drewN) | (with_reducible apply Below.drew) | (with_reducible apply below_new)))) hwa; clear hwa)
              | (go_at_call 12; refine (HSL.out _ (by (repeat (first | exact HWl.out | exact Below.refl _ _ | (with_reducible apply below_drewN) | (with_reducible apply Below.drew) | (with_reducible apply below_new)))) _ _ HRl.out).mono ?_; rintro e wq ⟨rfl, q, rfl⟩)
              | (go_at_call 13; refine (HLg.out _ (by (repeat (first | exact HWl.out | exact Below.refl _ _ | (with_reducible apply below_drewN) | (with_reducible apply Below.drew) | (with_reducible apply below_new))))).mono ?_; rintro e wl ⟨Bl, cl, rfl, hcl, hrl, hWl⟩; have HWl : Hid (Below wf.heap.size wf wl) := below_next (by (repeat (first | exact HWl.out | exact Below.refl _ _ | (with_reducible apply below_drewN) | (with_reducible apply Below.drew) | (with_reducible apply below_new)))) hWl; have HRl := Lib.hid hrl; have b3l := HB3.out wl HWl.out; clear hcl hrl hWl))
            all_goals (
              go_wp2
              go_ret
              exact ⟨rfl, below_next H4.out.bel (HEf.out.below HWa.out).bel⟩))
end Go.Proofs.YtcfejobdgiiihaaGreatDoor
