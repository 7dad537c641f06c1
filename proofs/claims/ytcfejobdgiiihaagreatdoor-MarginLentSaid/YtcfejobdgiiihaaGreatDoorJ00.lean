/- Walks and plain laws of this seat's functions, part 0: Base Dig Pre Dig2 Dig3 Dig4. -/
import Derived.WalkKit
import Derived.WalkSpells
import Derived.WalkLawsBesides
import Derived.Deep.OwnRows
import Derived.Deep.LoopGhost
import Derived.Deep.QuietTactic
import Derived.BigQuiet
import Derived.Lib.Hide
import Derived.Deep.RegionHeld3
import Derived.Deep.DeepCutAuto
import Derived.Deep.AppendLies
import Derived.Test.YtcfejobdgiiihaaGreatDoorRows
import Derived.Laws.BitsAllLaws
set_option linter.unusedVariables false
set_option linter.unusedSimpArgs false
namespace Go.Proofs.YtcfejobdgiiihaaGreatDoor
open Go.RowKit

/-! ### blocks known whole -/
def Blk (w : World) (b t : Nat) (cs : List Value) : Prop := w.heap[b]? = some (.cells cs.toArray t (0, 0))
theorem Blk.cell {w : World} {b t : Nat} {cs : List Value} (h : Blk w b t cs) (i : Nat) : w.cell? ⟨b, i, none⟩ = cs[i]? := by
  rw [cell_of_row w b i _ t (0, 0) h]; simp
theorem Blk.frozen {w : World} {b t : Nat} {cs : List Value} (h : Blk w b t cs) (i : Nat) : w.frozen? ⟨b, i, none⟩ = false := by
  simp [World.frozen?, show w.heap[b]? = _ from h]
theorem Blk.lt {w : World} {b t : Nat} {cs : List Value} (h : Blk w b t cs) : b < w.heap.size := (Array.getElem?_eq_some_iff.1 h).1
theorem Blk.below {w w' : World} {B b t : Nat} {cs : List Value} (h : Blk w b t cs) (hb : Below B w w') (hlt : b < B) : Blk w' b t cs :=
  (hb.block b hlt).trans h
theorem Blk.below' {w w' : World} {b t : Nat} {cs : List Value} (h : Blk w b t cs) (hb : Below w.heap.size w w') : Blk w' b t cs := h.below hb h.lt
theorem Blk.new (w : World) (cs : Array Value) (t : Nat) : Blk (w.alloc (.cells cs t)) w.heap.size t cs.toList := by
  unfold Blk; rw [heap_alloc_new]
theorem Blk.alloc {w : World} {b t : Nat} {cs : List Value} (h : Blk w b t cs) (o : Obj) : Blk (w.alloc o) b t cs :=
  h.below' ((Below.refl _ _).alloc (Nat.le_refl _) o)
theorem Blk.set {w : World} {b t : Nat} {cs : List Value} (h : Blk w b t cs) (i : Nat) (u : Value) : Blk (w.setCell ⟨b, i, none⟩ u) b t (cs.set i u) := by
  have h' : w.heap[b]? = some (.cells cs.toArray t (0, 0)) := h
  unfold Blk
  simp only [World.setCell, Array.getElem?_modify, if_pos, h']
  simp
theorem Blk.far {w : World} {b t : Nat} {cs : List Value} (h : Blk w b t cs) {p : Addr} (hp : b ≠ p.block) (u : Value) : Blk (w.setCell p u) b t cs :=
  (Below.heap_setCell w p u b hp).trans h
theorem Blk.ne {w : World} {b b' t t' : Nat} {cs cs' : List Value} (h : Blk w b t cs) (h' : Blk w b' t' cs') (ht : t ≠ t') : b ≠ b' := by
  rintro rfl
  have := (show w.heap[b]? = _ from h).symm.trans h'
  simp at this
  exact ht this.2
theorem Blk.grown {w w1 : World} {b t : Nat} {cs : List Value} {row : Option Nat} (h : Blk w b t cs) (hg : w.grownBy w1 row) (hne : some b ≠ row) : Blk w1 b t cs :=
  (hg.block b h.lt hne).trans h

theorem cell_succ {w : World} {a : Addr} {m : Nat} {v : Option Value} (h : w.cell? (a.add m) = v) (hm : 0 < m) : w.cell? ⟨a.block, a.off + m, none⟩ = v := by
  unfold Addr.add at h; rwa [if_neg (by omega)] at h

/-! ### small steps of 'Below' -/
theorem below_new {w W : World} (h : Below w.heap.size w W) (o : Obj) : Below w.heap.size w (W.alloc o) := h.alloc h.size o
theorem below_next {w W W' : World} (h : Below w.heap.size w W) (k : Below W.heap.size W W') : Below w.heap.size w W' := h.trans (k.mono h.size)

theorem below_drewN {B : Nat} {w W : World} (h : Below B w W) (n : Nat) : Below B w (W.drewN n) := ⟨h.os, h.tape, h.output, h.size, h.block⟩
theorem drewN_drewN (w : World) (a b : Nat) : (w.drewN a).drewN b = w.drewN (a + b) := by simp [World.drewN, Nat.add_assoc]

theorem bcell {W w1 : World} (hb : Below W.heap.size W w1) : (∀ b o, b < W.heap.size → w1.cell? ⟨b, o, none⟩ = W.cell? ⟨b, o, none⟩) ∧ (∀ b o, b < W.heap.size → w1.frozen? ⟨b, o, none⟩ = W.frozen? ⟨b, o, none⟩) :=
  ⟨fun b o h => hb.cell (p := ⟨b, o, none⟩) h, fun b o h => hb.frozen (p := ⟨b, o, none⟩) h⟩

theorem cell_kept {W w1 : World} (hb : Below W.heap.size W w1) {a : Addr} {v : Value} (h : W.cell? a = some v) : w1.cell? a = some v :=
  (hb.cell (World.block_lt_of_cell? W a h)).trans h

/-! ### what stays: the blocks below a base, and those of certain types -/
def Keeps (base : Nat) (E : List Nat) (w w' : World) : Prop :=
  w.heap.size ≤ w'.heap.size ∧ ∀ g, g < w.heap.size → (g < base ∨ ∃ cells q, q ∈ E ∧ w.heap[g]? = some (.cells cells q (0, 0))) → w'.heap[g]? = w.heap[g]?
theorem Keeps.of_below {w w' : World} (base : Nat) (E : List Nat) (h : Below w.heap.size w w') : Keeps base E w w' := ⟨h.size, fun g hg _ => h.block g hg⟩
theorem Keeps.sub {base : Nat} {E E' : List Nat} {w w' : World} (h : Keeps base E w w') (hs : ∀ q, q ∈ E' → q ∈ E) : Keeps base E' w w' :=
  ⟨h.1, fun g hg hk => h.2 g hg (hk.imp id fun ⟨c, q, hq, hh⟩ => ⟨c, q, hs q hq, hh⟩)⟩
theorem Keeps.of_grown {w w' : World} {base : Nat} {E : List Nat} {row : Option Nat} (h : w.grownBy w' row)
    (hr : ∀ k, row = some k → base ≤ k ∧ ∀ cells q, q ∈ E → w.heap[k]? ≠ some (.cells cells q (0, 0))) : Keeps base E w w' :=
  ⟨h.size, fun g hg hk => h.block g hg (fun e => by
    obtain ⟨h1, h2⟩ := hr g e.symm
    rcases hk with hk | ⟨c, q, hq, hh⟩
    · omega
    · exact h2 c q hq hh)⟩
theorem Keeps.of_set {w : World} {base : Nat} {E : List Nat} {p : Addr} (u : Value) (h1 : base ≤ p.block) (h2 : ∀ cells q, q ∈ E → w.heap[p.block]? ≠ some (.cells cells q (0, 0))) : Keeps base E w (w.setCell p u) :=
  ⟨by simp [World.setCell], fun g _ hk => Below.heap_setCell w p u g (fun e => by
    subst e
    rcases hk with hk | ⟨c, q, hq, hh⟩
    · omega
    · exact h2 c q hq hh)⟩
theorem Keeps.set_blk {w : World} {base : Nat} {E : List Nat} {b t : Nat} {cs : List Value} (hb : Blk w b t cs) (h1 : base ≤ b) (h2 : t ∉ E) (i : Nat) (u : Value) : Keeps base E w (w.setCell ⟨b, i, none⟩ u) :=
  Keeps.of_set u h1 (fun cells q hq hh => by
    have := (show w.heap[b]? = _ from hb).symm.trans hh
    simp at this
    exact h2 (this.2 ▸ hq))

/-- a block of another type -/
def NT (w : World) (q b : Nat) : Prop := ∃ t cs, t ≠ q ∧ Blk w b t cs
theorem NT.set {w : World} {q b : Nat} (h : NT w q b) (b' i : Nat) (u : Value) : NT (w.setCell ⟨b', i, none⟩ u) q b := by
  obtain ⟨t, cs, ht, hb⟩ := h
  by_cases e : b = b'
  · subst e; exact ⟨t, _, ht, hb.set i u⟩
  · exact ⟨t, cs, ht, hb.far e u⟩
theorem NT.below {w w' : World} {q b : Nat} (h : NT w q b) (hb : Below w.heap.size w w') : NT w' q b := by
  obtain ⟨t, cs, ht, h⟩ := h; exact ⟨t, cs, ht, h.below' hb⟩
theorem NT.new (w : World) (cs : Array Value) (t q : Nat) (h : t ≠ q) : NT (w.alloc (.cells cs t)) q w.heap.size := ⟨t, _, h, Blk.new _ _ _⟩
theorem NT.alloc {w : World} {q b : Nat} (h : NT w q b) (o : Obj) : NT (w.alloc o) q b := by
  obtain ⟨t, cs, ht, h⟩ := h; exact ⟨t, cs, ht, h.alloc o⟩
theorem NT.drewN {w : World} {q b : Nat} (h : NT w q b) (n : Nat) : NT (w.drewN n) q b := h
theorem NT.drew {w : World} {q b : Nat} (h : NT w q b) : NT w.drew q b := h
theorem Keeps.set_nt {w : World} {base q b : Nat} (h : NT w q b) (h1 : base ≤ b) (i : Nat) (u : Value) : Keeps base [q] w (w.setCell ⟨b, i, none⟩ u) := by
  obtain ⟨t, cs, ht, hb⟩ := h
  exact Keeps.set_blk hb h1 (by simpa using ht) i u

/-! ### a reading: how a datum lies in memory -/
structure Rd (α : Type) where
  sz : Nat
  E : List Nat
  R : World → Nat → α → List Value → Prop
  len : ∀ {w base x cs}, R w base x cs → cs.length = sz
  one : ∀ {w base x cs}, R w base x cs → ∀ u ∈ cs, u.oneCell' = true
  keep : ∀ {w w' base x cs}, R w base x cs → Keeps base E w w' → R w' base x cs
theorem Rd.below {α : Type} (d : Rd α) {w w' : World} {base : Nat} {x : α} {cs : List Value} (h : d.R w base x cs) (hb : Below w.heap.size w w') : d.R w' base x cs := d.keep h (Keeps.of_below _ _ hb)
def Okb (w : World) (base t g : Nat) : Prop := g < base ∨ ∃ cells, w.heap[g]? = some (.cells cells t (0, 0))
/-- a row of elements, from the address A on -/
def Rd.Row {α : Type} (d : Rd α) (t : Nat) (w : World) (base : Nat) (A : Option Addr) (xs : List α) : Prop :=
  ∀ i x, xs[i]? = some x → ∃ a cs, A = some a ∧ Okb w base t a.block ∧ a.block < w.heap.size ∧ d.R w base x cs ∧ ∀ j u, cs[j]? = some u → w.cell? (a.add (i * d.sz + j)) = some u
theorem Addr.add_block (a : Addr) (n : Nat) : (a.add n).block = a.block := by unfold Addr.add; split <;> rfl
theorem Rd.Row.keep {α : Type} {d : Rd α} {t : Nat} {w w' : World} {base : Nat} {A : Option Addr} {xs : List α} {E : List Nat} (h : d.Row t w base A xs)
    (hk : Keeps base E w w') (ht : t ∈ E) (hE : ∀ q, q ∈ d.E → q ∈ E) : d.Row t w' base A xs := by
  intro i x hi
  obtain ⟨a, cs, ha, hok, hlt, hr, hc⟩ := h i x hi
  have hs : w'.heap[a.block]? = w.heap[a.block]? := hk.2 _ hlt (hok.imp id fun ⟨c, hh⟩ => ⟨c, t, ht, hh⟩)
  refine ⟨a, cs, ha, hok.imp id (fun ⟨c, hh⟩ => ⟨c, hs.trans hh⟩), Nat.lt_of_lt_of_le hlt hk.1, d.keep hr (hk.sub hE), fun j u hj => ?_⟩
  exact (World.cell?_of_block (by rw [Addr.add_block]; exact hs)).trans (hc j u hj)
theorem Rd.Row.below {α : Type} {d : Rd α} {t : Nat} {w w' : World} {base : Nat} {A : Option Addr} {xs : List α} (h : d.Row t w base A xs) (hb : Below w.heap.size w w') : d.Row t w' base A xs :=
  h.keep (E := t :: d.E) (Keeps.of_below _ _ hb) (by simp) (fun q hq => by simp [hq])
theorem Rd.Row.nil {α : Type} (d : Rd α) (t : Nat) (w : World) (base : Nat) (A : Option Addr) : d.Row t w base A [] := fun i x h => by simp at h

def Rd.scalar {α : Type} (enc : α → Value) (P : α → Prop) (h1 : ∀ x, (enc x).oneCell' = true) : Rd α where
  sz := 1
  E := []
  R _ _ x cs := cs = [enc x] ∧ P x
  len h := by rw [h.1]; rfl
  one h u hu := by rw [h.1] at hu; simp at hu; subst hu; exact h1 _
  keep h _ := h
def Rd.slice {α : Type} (t : Nat) (d : Rd α) : Rd (List α) where
  sz := 1
  E := t :: d.E
  R w base xs cs := ∃ A c, cs = [.slice A xs.length c] ∧ xs.length ≤ c ∧ d.Row t w base A xs
  len h := by obtain ⟨A, c, rfl, _⟩ := h; rfl
  one h u hu := by obtain ⟨A, c, rfl, _⟩ := h; simp at hu; subst hu; rfl
  keep h hk := by obtain ⟨A, c, rfl, h1, h2⟩ := h; exact ⟨A, c, rfl, h1, h2.keep hk (by simp) (fun q hq => by simp [hq])⟩
def Rd.pair {α β : Type} (a : Rd α) (b : Rd β) : Rd (α × β) where
  sz := a.sz + b.sz
  E := a.E ++ b.E
  R w base x cs := ∃ c1 c2, cs = c1 ++ c2 ∧ a.R w base x.1 c1 ∧ b.R w base x.2 c2
  len h := by obtain ⟨c1, c2, rfl, h1, h2⟩ := h; rw [List.length_append, a.len h1, b.len h2]
  one h u hu := by
    obtain ⟨c1, c2, rfl, h1, h2⟩ := h
    rcases List.mem_append.1 hu with hu | hu
    · exact a.one h1 u hu
    · exact b.one h2 u hu
  keep h hk := by
    obtain ⟨c1, c2, rfl, h1, h2⟩ := h
    exact ⟨c1, c2, rfl, a.keep h1 (hk.sub (by simp +contextual)), b.keep h2 (hk.sub (by simp +contextual))⟩
def Rd.iso {α β : Type} (d : Rd α) (f : β → α) (P : β → Prop) : Rd β where
  sz := d.sz
  E := d.E
  R w base x cs := d.R w base (f x) cs ∧ P x
  len h := d.len h.1
  one h := d.one h.1
  keep h hk := ⟨d.keep h.1 hk, h.2⟩

/-- an element of a row of one-cell values -/
theorem Rd.Row.get {α : Type} {enc : α → Value} {P : α → Prop} {h1 : ∀ x, (enc x).oneCell' = true} {t : Nat} {w : World} {base : Nat} {A : Option Addr} {xs : List α}
    (h : (Rd.scalar enc P h1).Row t w base A xs) {i : Nat} (hi : i < xs.length) :
    ∃ (a : Addr) (x : α), A = some a ∧ w.cell? (a.add i) = some (enc x) ∧ P x ∧ Hid (xs[i]? = some x) := by
  obtain ⟨a, cs, ha, _, _, ⟨hr, hp⟩, hc⟩ := h i xs[i] (by simp [hi])
  subst hr
  have := hc 0 _ rfl
  simp only [Rd.scalar, Nat.mul_one, Nat.add_zero] at this
  exact ⟨a, xs[i], ha, this, hp, by simp [Hid, hi]⟩
/-- a row of one-cell values that lies in a block known whole -/
theorem Blk.row {α : Type} {enc : α → Value} {P : α → Prop} {h1 : ∀ x, (enc x).oneCell' = true} {t b : Nat} {w : World} {base : Nat} {cs : List Value} {xs : List α}
    (h : Blk w b t cs) (hn : cs.take xs.length = xs.map enc) (hP : ∀ x ∈ xs, P x) : (Rd.scalar enc P h1).Row t w base (some ⟨b, 0, none⟩) xs := by
  intro i x hi
  have hl : i < xs.length := (List.getElem?_eq_some_iff.1 hi).1
  refine ⟨_, [enc x], rfl, .inr ⟨_, h⟩, h.lt, ⟨rfl, hP x (List.mem_of_getElem? hi)⟩, fun j u hj => ?_⟩
  have hj0 : j = 0 := by
    rcases j with _ | j
    · rfl
    · simp at hj
  subst hj0
  simp at hj
  subst hj
  have e : cs[i]? = some (enc x) := by
    have := congrArg (·[i]?) hn
    simp only [List.getElem?_take, hl, if_true, List.getElem?_map, hi, Option.map_some] at this
    exact this
  have ha : (⟨b, 0, none⟩ : Addr).add (i * 1 + 0) = ⟨b, i, none⟩ := by unfold Addr.add; split <;> simp_all
  simp only [Rd.scalar]
  rw [ha, h.cell, e]

/-! ### a row of the call's own, still growing -/
def Rd.Own {α : Type} (d : Rd α) (t : Nat) (w : World) (b0 base : Nat) (v : Value) (xs : List α) : Prop :=
  ∃ css : List (List Value), css.length = xs.length ∧ w.ownsRow b0 t d.sz v xs.length css.flatten ∧ ∀ (i : Nat) (x : α) (c : List Value), xs[i]? = some x → css[i]? = some c → d.R w base x c
theorem flatten_at {α : Type} (sz : Nat) : ∀ (css : List (List α)) (i j : Nat) (c : List α) (u : α), (∀ c ∈ css, c.length = sz) → css[i]? = some c → c[j]? = some u → css.flatten[i * sz + j]? = some u
  | [], i, j, c, u, _, hi, _ => by simp at hi
  | c0 :: css, 0, j, c, u, hl, hi, hj => by
    simp at hi; subst hi
    have hjl := (List.getElem?_eq_some_iff.1 hj).1
    rw [List.flatten_cons, Nat.zero_mul, Nat.zero_add, List.getElem?_append_left hjl]; exact hj
  | c0 :: css, i + 1, j, c, u, hl, hi, hj => by
    have h0 := hl c0 (by simp)
    rw [List.flatten_cons, Nat.succ_mul, List.getElem?_append_right (by omega), show i * sz + sz + j - c0.length = i * sz + j from by omega]
    exact flatten_at sz css i j c u (fun c hc => hl c (by simp [hc])) (by simpa using hi) hj
theorem Rd.Own.nil {α : Type} (d : Rd α) (t : Nat) (w : World) (b0 base : Nat) : d.Own t w b0 base (.slice none 0 0) [] :=
  ⟨[], rfl, World.ownsRow_nil _ _ _ _, fun i x c h => by simp at h⟩
theorem Rd.Own.lens {α : Type} {d : Rd α} {w : World} {base : Nat} {css : List (List Value)} {xs : List α} (hl : css.length = xs.length)
    (h : ∀ (i : Nat) (x : α) (c : List Value), xs[i]? = some x → css[i]? = some c → d.R w base x c) : ∀ c ∈ css, c.length = d.sz := by
  intro c hc
  obtain ⟨i, hi, rfl⟩ := List.getElem_of_mem hc
  exact d.len (h i (xs[i]'(by omega)) _ (by simp) (by simp))
theorem Rd.Own.row {α : Type} {d : Rd α} {t : Nat} {w : World} {b0 base : Nat} {v : Value} {xs : List α} (h : d.Own t w b0 base v xs) :
    ∃ A c, v = .slice A xs.length c ∧ xs.length ≤ c ∧ d.Row t w base A xs := by
  obtain ⟨css, hl, ho, hr⟩ := h
  have hls := Rd.Own.lens hl hr
  rcases ho.2 with ⟨rfl, h0⟩ | ⟨g, cap, cur, rfl, hg, hh, h1, h2, h3, h4⟩
  · have : xs = [] := List.length_eq_zero_iff.1 h0
    subst this
    exact ⟨none, 0, rfl, Nat.le_refl _, Rd.Row.nil _ _ _ _ _⟩
  · refine ⟨_, cap, rfl, h1, fun i x hi => ?_⟩
    have hil := (List.getElem?_eq_some_iff.1 hi).1
    have hic : css[i]? = some (css[i]'(by omega)) := by simp
    refine ⟨_, _, rfl, .inr ⟨cur, hh⟩, (Array.getElem?_eq_some_iff.1 hh).1, hr i x _ hi hic, fun j u hj => ?_⟩
    have hf := flatten_at d.sz css i j _ u hls hic hj
    rw [← h4, List.getElem?_take] at hf
    split at hf
    · have ha : (⟨g, 0, none⟩ : Addr).add (i * d.sz + j) = ⟨g, i * d.sz + j, none⟩ := by unfold Addr.add; split <;> simp_all
      rw [ha, cell_of_row w g _ cur t (0, 0) hh, ← Array.getElem?_toList]
      exact hf
    · simp at hf
theorem Rd.Own.below {α : Type} {d : Rd α} {t : Nat} {w w' : World} {b0 base : Nat} {v : Value} {xs : List α} (h : d.Own t w b0 base v xs) (hb : Below w.heap.size w w') : d.Own t w' b0 base v xs := by
  obtain ⟨css, hl, ho, hr⟩ := h
  refine ⟨css, hl, ⟨ho.1, ?_⟩, fun i x c h1 h2 => d.below (hr i x c h1 h2) hb⟩
  rcases ho.2 with hn | ⟨g, cap, cur, rfl, hg, hh, r⟩
  · exact .inl hn
  · exact .inr ⟨g, cap, cur, rfl, hg, (hb.block g (Array.getElem?_eq_some_iff.1 hh).1).trans hh, r⟩
/-- the own block: from b0 on, of type t -/
theorem Rd.Own.blk {α : Type} {d : Rd α} {t : Nat} {w : World} {b0 base : Nat} {v : Value} {xs : List α} (h : d.Own t w b0 base v xs) :
    ∀ k, v.ownBlock = some k → b0 ≤ k ∧ k < w.heap.size ∧ ∃ cells, w.heap[k]? = some (.cells cells t (0, 0)) := by
  obtain ⟨css, hl, ho, hr⟩ := h
  intro k hk
  rcases ho.2 with ⟨rfl, h0⟩ | ⟨g, cap, cur, rfl, hg, hh, _⟩
  · simp [Value.ownBlock] at hk
  · simp [Value.ownBlock] at hk
    subst hk
    exact ⟨hg, (Array.getElem?_eq_some_iff.1 hh).1, cur, hh⟩
/-- appending to it keeps whatever is below the base or of other types -/
theorem Rd.Own.keeps {α : Type} {d : Rd α} {t : Nat} {w w' : World} {b0 base : Nat} {v : Value} {xs : List α} {E : List Nat} (h : d.Own t w b0 base v xs) (hg : w.grownBy w' v.ownBlock) (hb : base ≤ b0) (ht : t ∉ E) : Keeps base E w w' :=
  Keeps.of_grown hg (fun k hk => by
    obtain ⟨h1, _, cells, h2⟩ := h.blk k hk
    refine ⟨by omega, fun c q hq hh => ?_⟩
    have := h2.symm.trans hh
    simp at this
    exact ht (this.2 ▸ hq))
theorem Rd.Own.below_of {α : Type} {d : Rd α} {t : Nat} {w0 w w' : World} {base : Nat} {v : Value} {xs : List α} (h : d.Own t w w0.heap.size base v xs) (hb : Below w0.heap.size w0 w) (hg : w.grownBy w' v.ownBlock) : Below w0.heap.size w0 w' :=
  hb.grown hg hb.size (fun k hk => (h.blk k hk).1)

section
variable {P : Program} {ops : Array Oper} {rest : List Oper} {o : Oper} {a : Act} {Q : Exit → Act → World → Prop}
/-- 'out = append(out, x)': x was just laid in a block of its own -/
theorem own_append {α : Type} (d : Rd α) {W : World} (b0 base : Nat) (hgd : o.guard = none) (s x : Operand) (t e : TypeId) (z : Value) (bytes : Nat)
    (ho : o.op = .call { callee := .builtin .append, args := #[s, x], argTypes := #[t, t] })
    (ht : P.underlying t = some (.slice e)) (hinfo : (P.info? e).map (fun i => (i.zero, i.size, i.bytes)) = some (some z, d.sz, bytes)) (hz : z.cells.size = d.sz) (hs0 : 0 < d.sz) (hb0 : 0 < bytes)
    (v : Value) (xs : List α) (p : α) (cs : List Value) (hs : a.eval s = v) (hx : a.eval x = .slice (some ⟨W.heap.size, 0, none⟩) 1 1) (hp : d.R W base p cs) (he : e ∉ d.E)
    (HO : d.Own e W b0 base v xs) (hbb : base ≤ b0) (hbase : b0 ≤ W.heap.size) (hl : (xs.length + 1) * bytes ≤ 140737488355328)
    (h : ∀ v1 w1, d.Own e w1 b0 base v1 (xs ++ [p]) → W.grownBy w1 v.ownBlock → wpList P ops Q rest (a.put o.dst v1) w1) :
    wpList P ops Q (o :: rest) a (W.alloc (.cells cs.toArray e)) := by
  obtain ⟨i0, hi, hzz⟩ := Option.map_eq_some_iff.1 hinfo
  simp only [Prod.mk.injEq] at hzz
  obtain ⟨hz0, hz1, hz2⟩ := hzz
  have hlen : xs.length + 1 ≤ 140737488355328 := Nat.le_trans (Nat.le_mul_of_pos_right _ hb0) hl
  have HO0 := HO
  obtain ⟨css, hcl, hown, hr⟩ := HO
  refine wpList_append_own (W.alloc (.cells cs.toArray e)) hgd s x t ho b0 e i0 z d.sz bytes ht hi hz0 hz1 hz2 hz hs0 v xs.length css.flatten hs (hown.alloc _) ⟨W.heap.size, 0, none⟩ 1 1 cs hx (by rw [d.len hp]; simp)
    (by simpa using World.news_of_block (cs := cs.toArray) (t := e) (fr := (0, 0)) (heap_alloc_new W (.cells cs.toArray e))) (d.one hp) (by simp only [maxLen]; omega) hl (by simp; omega) ?_
  intro v1 w1 hown1 hg _
  have hg2 : W.grownBy w1 v.ownBlock := World.grownBy.trans (World.grownBy_alloc W _ _) hg
  have hk : Keeps base d.E W w1 := HO0.keeps hg2 hbb he
  refine h v1 w1 ⟨css ++ [cs], by simp [hcl], ?_, ?_⟩ hg2
  · simpa using hown1
  · intro i y c h1 h2
    rcases Nat.lt_or_ge i xs.length with hlt | hge
    · rw [List.getElem?_append_left hlt] at h1
      rw [List.getElem?_append_left (by omega)] at h2
      exact d.keep (hr i y c h1 h2) hk
    · rw [List.getElem?_append_right hge] at h1
      rw [List.getElem?_append_right (by omega)] at h2
      have : i - xs.length = 0 := by
        have := (List.getElem?_eq_some_iff.1 h1).1
        simp at this; omega
      rw [this] at h1
      rw [hcl, this] at h2
      simp at h1 h2
      subst h1; subst h2
      exact d.keep hp hk
end
end Go.Proofs.YtcfejobdgiiihaaGreatDoor

namespace Go.Proofs.YtcfejobdgiiihaaGreatDoor

/-! ### whole numbers as digits, the lowest first -/
def val (B : Nat) : List Nat → Nat
  | [] => 0
  | d :: r => d + B * val B r
theorem val_append (B : Nat) : ∀ xs ys : List Nat, val B (xs ++ ys) = val B xs + B ^ xs.length * val B ys
  | [], ys => by simp [val]
  | x :: xs, ys => by
    simp only [List.cons_append, val, List.length_cons, Nat.pow_succ, val_append B xs ys, Nat.mul_add]
    rw [Nat.mul_comm (B ^ xs.length) B, Nat.mul_assoc]; omega
theorem val_lt {B : Nat} (hB : 0 < B) : ∀ xs : List Nat, (∀ d ∈ xs, d < B) → val B xs < B ^ xs.length
  | [], _ => by simp [val]
  | x :: xs, h => by
    have h0 := h x (by simp)
    have ih := val_lt hB xs (fun d hd => h d (by simp [hd]))
    simp only [val, List.length_cons, Nat.pow_succ]
    have : B * (val B xs + 1) ≤ B * B ^ xs.length := Nat.mul_le_mul_left _ ih
    rw [Nat.mul_add, Nat.mul_one] at this
    rw [Nat.mul_comm (B ^ xs.length) B]; omega
theorem val_snoc (B : Nat) (xs : List Nat) (d : Nat) : val B (xs ++ [d]) = val B xs + B ^ xs.length * d := by simp [val_append, val]
theorem take_snoc' {xs : List Nat} {i : Nat} (h : i < xs.length) : xs.take (i + 1) = xs.take i ++ [xs.getD i 0] := by
  rw [List.take_succ_eq_append_getElem h]; simp [h]
theorem val_take (B : Nat) {xs : List Nat} {i : Nat} (h : i < xs.length) : val B (xs.take (i + 1)) = val B (xs.take i) + B ^ i * xs.getD i 0 := by
  rw [take_snoc' h, val_snoc, List.length_take, Nat.min_eq_left (by omega)]
theorem set_take {xs : List Nat} {k : Nat} (d : Nat) : (xs.set k d).take k = xs.take k := by
  rw [List.take_set, List.set_eq_of_length_le]; simp; omega
theorem set_take_succ {xs : List Nat} {k d : Nat} (h : k < xs.length) : (xs.set k d).take (k + 1) = xs.take k ++ [d] := by
  rw [take_snoc' (by simpa using h), set_take]; simp [h]
theorem val_set (B : Nat) {xs : List Nat} {k d : Nat} (h : k < xs.length) : val B ((xs.set k d).take (k + 1)) = val B (xs.take k) + B ^ k * d := by
  rw [set_take_succ h, val_snoc, List.length_take, Nat.min_eq_left (by omega)]
theorem digit_step (P B s : Nat) : P * (s % B) + P * B * (s / B) = P * s := by
  rw [Nat.mul_assoc, ← Nat.mul_add, Nat.mod_add_div]
theorem mem_set {xs : List Nat} {k d B : Nat} (h : ∀ x ∈ xs, x < B) (hd : d < B) : ∀ x ∈ xs.set k d, x < B := by
  intro x hx
  rcases List.mem_or_eq_of_mem_set hx with h1 | h1
  · exact h x h1
  · omega
theorem getD_mem_lt {xs : List Nat} {B i : Nat} (h : ∀ x ∈ xs, x < B) (hi : i < xs.length) : xs.getD i 0 < B := by
  rw [List.getD_eq_getElem?_getD]; simp [hi]; exact h _ (by simp)
theorem getD_ge {xs : List Nat} {k : Nat} (h : xs.length ≤ k) : xs.getD k 0 = 0 := by
  rw [List.getD_eq_getElem?_getD, List.getElem?_eq_none h]; rfl
theorem val_replicate (B n : Nat) : val B (List.replicate n 0) = 0 := by
  induction n with
  | zero => rfl
  | succ n ih => simp [List.replicate_succ, val, ih]

/-! no noughts at the upper end -/
def Trimmed (xs : List Nat) : Prop := xs = [] ∨ 0 < xs.getD (xs.length - 1) 0
def trimLen : List Nat → Nat → Nat
  | _, 0 => 0
  | xs, n + 1 => if xs.getD n 0 = 0 then trimLen xs n else n + 1
theorem trimLen_zero {xs : List Nat} {n : Nat} (h : xs.getD n 0 = 0) : trimLen xs (n + 1) = trimLen xs n := by rw [trimLen, if_pos h]
theorem trimLen_pos {xs : List Nat} {n : Nat} (h : xs.getD n 0 ≠ 0) : trimLen xs (n + 1) = n + 1 := by rw [trimLen, if_neg h]
theorem trimLen_le (xs : List Nat) : ∀ n, trimLen xs n ≤ n
  | 0 => Nat.le_refl _
  | n + 1 => by have := trimLen_le xs n; simp only [trimLen]; split <;> omega
theorem trimLen_val (B : Nat) (xs : List Nat) : ∀ n, n ≤ xs.length → val B (xs.take (trimLen xs n)) = val B (xs.take n)
  | 0, _ => rfl
  | n + 1, h => by
    simp only [trimLen]; split
    · rename_i h0
      rw [trimLen_val B xs n (by omega), val_take B (by omega), h0]; simp
    · rfl
theorem trimLen_trimmed (xs : List Nat) : ∀ n, n ≤ xs.length → Trimmed (xs.take (trimLen xs n))
  | 0, _ => .inl rfl
  | n + 1, h => by
    simp only [trimLen]; split
    · exact trimLen_trimmed xs n (by omega)
    · rename_i h0
      refine .inr ?_
      rw [List.length_take, Nat.min_eq_left h]
      have e : (xs.take (n + 1)).getD (n + 1 - 1) 0 = xs.getD n 0 := by
        simp [List.getElem?_take]
      rw [e]; omega
theorem Trimmed.val_pos {B : Nat} (hB : 0 < B) {xs : List Nat} (h : Trimmed xs) (hne : xs ≠ []) : B ^ (xs.length - 1) ≤ val B xs := by
  rcases h with h | h
  · exact absurd h hne
  · have hl : 0 < xs.length := List.length_pos_iff.2 hne
    have := val_take B (xs := xs) (i := xs.length - 1) (by omega)
    rw [Nat.sub_add_cancel hl, List.take_length] at this
    rw [this]
    have h2 := Nat.mul_le_mul_left (B ^ (xs.length - 1)) h
    omega
theorem Trimmed.nil_iff {B : Nat} (hB : 0 < B) {xs : List Nat} (h : Trimmed xs) : xs.length = 0 ↔ val B xs = 0 := by
  constructor
  · intro h0; rw [List.length_eq_zero_iff.1 h0]; rfl
  · intro h0
    rcases Nat.eq_zero_or_pos xs.length with h1 | h1
    · exact h1
    · have := h.val_pos hB (List.length_pos_iff.1 h1)
      have := Nat.pow_pos (n := xs.length - 1) hB
      omega
/-- the lengths say the order -/
theorem val_lt_of_len {B : Nat} (hB : 0 < B) {xs ys : List Nat} (hx : ∀ d ∈ xs, d < B) (hy : Trimmed ys) (h : xs.length < ys.length) : val B xs < val B ys := by
  have h1 := val_lt hB xs hx
  have h2 := hy.val_pos hB (by intro e; rw [e] at h; simp at h)
  exact Nat.lt_of_lt_of_le h1 (Nat.le_trans (Nat.pow_le_pow_right hB (by omega)) h2)
/-- a bound on the length -/
theorem len_le_of_val {B : Nat} (hB : 1 < B) {xs : List Nat} (hx : Trimmed xs) {L : Nat} (h : val B xs < B ^ L) : xs.length ≤ L := by
  rcases Nat.eq_zero_or_pos xs.length with h1 | h1
  · omega
  · have := hx.val_pos (B := B) (by omega) (List.length_pos_iff.1 h1)
    have h3 := (Nat.pow_lt_pow_iff_right hB).1 (Nat.lt_of_le_of_lt this h)
    omega

/-! plus -/
def PlusInv (B : Nat) (xs ys : List Nat) (k c : Nat) (zs : List Nat) : Prop :=
  zs.length = xs.length + 1 ∧ (∀ d ∈ zs, d < B) ∧ val B (zs.take k) + B ^ k * c = val B (xs.take k) + val B (ys.take k)
theorem PlusInv.start (B : Nat) (hB : 0 < B) (xs ys : List Nat) : PlusInv B xs ys 0 0 (List.replicate (xs.length + 1) 0) :=
  ⟨by simp, fun d hd => by simp at hd; omega, by simp [val]⟩
theorem PlusInv.step {B : Nat} (hB : 0 < B) {xs ys zs : List Nat} {k c s : Nat} (h : PlusInv B xs ys k c zs) (hk : k < xs.length)
    (hs : s = c + xs.getD k 0 + ys.getD k 0) : PlusInv B xs ys (k + 1) (s / B) (zs.set k (s % B)) := by
  obtain ⟨h1, h2, h3⟩ := h
  refine ⟨by simpa using h1, mem_set h2 (Nat.mod_lt _ hB), ?_⟩
  have hy : val B (ys.take (k + 1)) = val B (ys.take k) + B ^ k * ys.getD k 0 := by
    rcases Nat.lt_or_ge k ys.length with h | h
    · exact val_take B h
    · rw [List.take_of_length_le (by omega), List.take_of_length_le h, getD_ge h]; simp
  rw [val_set B (by omega), val_take B hk, hy, Nat.pow_succ, Nat.add_assoc, digit_step, hs, Nat.mul_add, Nat.mul_add]
  omega
theorem PlusInv.done {B : Nat} (hB : 0 < B) {xs ys zs : List Nat} {c : Nat} (h : PlusInv B xs ys xs.length c zs) (hl : ys.length ≤ xs.length) (hc : c < B) :
    val B (zs.set xs.length c) = val B xs + val B ys ∧ (∀ d ∈ zs.set xs.length c, d < B) := by
  obtain ⟨h1, h2, h3⟩ := h
  refine ⟨?_, mem_set h2 hc⟩
  have := val_set B (xs := zs) (k := xs.length) (d := c) (by omega)
  rw [List.take_of_length_le (by simp; omega)] at this
  rw [this, h3, List.take_of_length_le (Nat.le_refl _), List.take_of_length_le hl]

/-! minus -/
def MinusInv (B : Nat) (xs ys : List Nat) (k c : Nat) (zs : List Nat) : Prop :=
  zs.length = xs.length ∧ (∀ d ∈ zs, d < B) ∧ c ≤ 1 ∧ val B (zs.take k) + val B (ys.take k) = val B (xs.take k) + B ^ k * c
theorem MinusInv.start (B : Nat) (hB : 0 < B) (xs ys : List Nat) : MinusInv B xs ys 0 0 (List.replicate xs.length 0) :=
  ⟨by simp, fun d hd => by simp at hd; omega, by omega, by simp [val]⟩
theorem MinusInv.step {B : Nat} (hB : 0 < B) {xs ys zs : List Nat} {k c s z c' : Nat} (h : MinusInv B xs ys k c zs) (hk : k < xs.length)
    (hs : s = c + ys.getD k 0) (hz : z < B) (hc : c' ≤ 1) (hzc : z + s = xs.getD k 0 + B * c') : MinusInv B xs ys (k + 1) c' (zs.set k z) := by
  obtain ⟨h1, h2, h0, h3⟩ := h
  refine ⟨by simpa using h1, mem_set h2 hz, hc, ?_⟩
  have hy : val B (ys.take (k + 1)) = val B (ys.take k) + B ^ k * ys.getD k 0 := by
    rcases Nat.lt_or_ge k ys.length with h | h
    · exact val_take B h
    · rw [List.take_of_length_le (by omega), List.take_of_length_le h, getD_ge h]; simp
  rw [val_set B (by omega), val_take B hk, hy, Nat.pow_succ, Nat.mul_assoc]
  have e := congrArg (B ^ k * ·) hzc
  simp only [hs, Nat.mul_add] at e
  omega
theorem MinusInv.done {B : Nat} (hB : 0 < B) {xs ys zs : List Nat} {c : Nat} (h : MinusInv B xs ys xs.length c zs) (hl : ys.length ≤ xs.length) (hle : val B ys ≤ val B xs) :
    val B zs = val B xs - val B ys := by
  obtain ⟨h1, h2, h0, h3⟩ := h
  rw [List.take_of_length_le (by omega), List.take_of_length_le hl, List.take_of_length_le (Nat.le_refl _)] at h3
  have hz := val_lt hB zs h2
  rw [h1] at hz
  rcases Nat.lt_or_ge c 1 with hc | hc
  · have : c = 0 := by omega
    subst this; omega
  · have : c = 1 := by omega
    subst this; omega

/-! times: a row added at a place -/
theorem split_at {xs : List Nat} {k : Nat} (h : k < xs.length) : ∃ p x q, xs = p ++ x :: q ∧ p.length = k := by
  refine ⟨xs.take k, xs[k], xs.drop (k + 1), ?_, by simp; omega⟩
  rw [← List.drop_eq_getElem_cons h, List.take_append_drop]
theorem val_set_any (B : Nat) {xs : List Nat} {k : Nat} (d : Nat) (h : k < xs.length) : val B (xs.set k d) + B ^ k * xs.getD k 0 = val B xs + B ^ k * d := by
  obtain ⟨p, x, q, rfl, rfl⟩ := split_at h
  have e1 : (p ++ x :: q).set p.length d = p ++ d :: q := by simp
  have e2 : (p ++ x :: q).getD p.length 0 = x := by simp
  rw [e1, e2]
  simp only [val_append, val, Nat.mul_add]
  omega
end Go.Proofs.YtcfejobdgiiihaaGreatDoor

namespace Go.Proofs.YtcfejobdgiiihaaGreatDoor
open Go.RowKit

/-! what the bodiless functions tell -/
@[go_sem] theorem run_f64bits (a : Nat) (w : World) : (callFunc 54 #[.float .f64 a]).run Tryz.prog w = .ok (.value (.int .u64 a)) w := by kernel_rfl
@[go_sem] theorem run_f64from (a : Int) (w : World) : (callFunc 87 #[.int .u64 a]).run Tryz.prog w = .ok (.value (.float .f64 a.toNat)) w := by kernel_rfl

abbrev B32 : Nat := 4294967296
def u32 : Rd Nat := Rd.scalar (fun x => .int .u32 (x : Nat)) (· < 4294967296) (fun _ => rfl)
def u64 : Rd Nat := Rd.scalar (fun x => .int .u64 (x : Nat)) (· < 18446744073709551616) (fun _ => rfl)
def i32s (zs : List Nat) : List Value := zs.map fun d => .int .u32 (d : Nat)
def i64s (zs : List Nat) : List Value := zs.map fun d => .int .u64 (d : Nat)
theorem Blk.at32 {w : World} {b t : Nat} {zs : List Nat} (h : Blk w b t (i32s zs)) {i : Nat} (hi : i < zs.length) (hz : ∀ d ∈ zs, d < 4294967296) :
    ∃ z, w.cell? ⟨b, i, none⟩ = some (.int .u32 (z : Nat)) ∧ w.frozen? ⟨b, i, none⟩ = false ∧ z < 4294967296 ∧ Hid (zs.getD i 0 = z) := by
  refine ⟨zs.getD i 0, ?_, h.frozen i, getD_mem_lt hz hi, rfl⟩
  rw [h.cell]; simp [i32s, hi]
theorem Blk.set32 {w : World} {b t : Nat} {zs : List Nat} (h : Blk w b t (i32s zs)) (i x : Nat) (v : Int) (hv : v = x) :
    Blk (w.setCell ⟨b, i, none⟩ (.int .u32 v)) b t (i32s (zs.set i x)) := by
  subst hv
  have := h.set i (.int .u32 (x : Nat))
  simpa [i32s, List.map_set] using this
theorem made32 (n : Nat) : (madeCells #[Value.int .u32 0] n).toList = i32s (List.replicate n 0) := by
  simp [i32s, madeCells, Nat.mod_one, List.map_const']
theorem u32row {t b : Nat} {w : World} {base : Nat} {zs : List Nat} (h : Blk w b t (i32s zs)) (hz : ∀ d ∈ zs, d < 4294967296) (n : Nat) : u32.Row t w base (some ⟨b, 0, none⟩) (zs.take n) :=
  h.row (by simp [i32s, List.map_take]) (fun x hx => hz x (List.mem_of_mem_take hx))
theorem u32all {t b : Nat} {w : World} {base : Nat} {zs : List Nat} (h : Blk w b t (i32s zs)) (hz : ∀ d ∈ zs, d < 4294967296) : u32.Row t w base (some ⟨b, 0, none⟩) zs := by
  have := u32row (base := base) h hz zs.length
  rwa [List.take_length] at this
theorem u32at {t : Nat} {w : World} {base : Nat} {A : Option Addr} {xs : List Nat} (h : u32.Row t w base A xs) {i : Nat} (hi : i < xs.length) :
    ∃ (a : Addr) (x : Nat), A = some a ∧ w.cell? (a.add i) = some (.int .u32 x) ∧ x < 4294967296 ∧ Hid (xs.getD i 0 = x) := by
  obtain ⟨a, x, h1, h2, h3, h4⟩ := Rd.Row.get h hi
  exact ⟨a, x, h1, h2, h3, by have := h4.out; simp [Hid, this]⟩
theorem u32bd {t : Nat} {w : World} {base : Nat} {A : Option Addr} {xs : List Nat} (h : u32.Row t w base A xs) : ∀ d ∈ xs, d < B32 := by
  intro d hd
  obtain ⟨i, hi, rfl⟩ := List.getElem_of_mem hd
  obtain ⟨_, cs, _, _, _, hr, _⟩ := h i _ (List.getElem?_eq_getElem hi)
  exact hr.2
theorem make32 {n : Nat} (W : World) (h : n ≤ 4398046511104) : (Instr.makeSlice 70 (.int .i64 (n : Int)) (.int .i64 (n : Int))).run Tryz.prog W = .ok (.slice (some ⟨W.heap.size, 0, none⟩) n n) (W.alloc (.cells (madeCells #[.int .u32 0] n) 113)) :=
  run_make_row' (P := Tryz.prog) 70 113 (.int .u32 0) 4 (by kernel_rfl) (by kernel_rfl) rfl .i64 .i64 n (by omega) (by omega) W
theorem ret_slice {A : Option Addr} {n m c : Nat} (h : n = m) : Ending.returned (.slice A n c) = .returned (.slice A m c) := by rw [h]
theorem ret_int' {k : IntKind} {a b : Int} (h : a = b) : Ending.returned (.int k a) = .returned (.int k b) := by rw [h]
/-- a whole number as a trimmed row of words -/
def mRd : Rd Nat where
  sz := 1
  E := [113]
  R w base m cs := ∃ (xs : List Nat) (A : Option Addr) (c : Nat), cs = [.slice A xs.length c] ∧ xs.length ≤ c ∧ u32.Row 113 w base A xs ∧ Trimmed xs ∧ val B32 xs = m
  len h := by obtain ⟨_, _, _, rfl, _⟩ := h; rfl
  one h u hu := by obtain ⟨_, _, _, rfl, _⟩ := h; simp at hu; subst hu; rfl
  keep h hk := by obtain ⟨xs, A, c, rfl, h1, h2, h3⟩ := h; exact ⟨xs, A, c, rfl, h1, h2.keep hk (by simp) (fun q hq => by simp [u32, Rd.scalar] at hq), h3⟩
theorem mRd_len {m L : Nat} {xs : List Nat} (ht : Trimmed xs) (hv : val B32 xs = m) (h : m < B32 ^ L) : xs.length ≤ L := len_le_of_val (by decide) ht (hv ▸ h)
/-- what 'trim' makes of a row of one's own -/
theorem mRd_trim {w : World} {base b m : Nat} {zs : List Nat} {n c : Nat} (h : Blk w b 113 (i32s zs)) (hz : ∀ d ∈ zs, d < B32) (hn : zs.length = n) (hc : n ≤ c) (hm : val B32 zs = m) :
    mRd.R w base m [.slice (some ⟨b, 0, none⟩) (trimLen zs n) c] := by
  subst hn
  refine ⟨zs.take (trimLen zs zs.length), _, c, ?_, ?_, u32row h hz _, trimLen_trimmed _ _ (Nat.le_refl _), ?_⟩
  · rw [List.length_take, Nat.min_eq_left (trimLen_le _ _)]
  · rw [List.length_take]; have := trimLen_le zs zs.length; omega
  · rw [trimLen_val _ _ _ (Nat.le_refl _), List.take_length]; exact hm
end Go.Proofs.YtcfejobdgiiihaaGreatDoor

namespace Go.Proofs.YtcfejobdgiiihaaGreatDoor

/-! ### left: a * 2^n -/
def LeftInv (B : Nat) (xs : List Nat) (q r k : Nat) (zs : List Nat) : Prop :=
  zs.length = xs.length + q + 1 ∧ (∀ d ∈ zs, d < B) ∧ val B (zs.take (k + q + 1)) = val B (xs.take k) * 2 ^ r * B ^ q ∧ (∀ j, k + q < j → zs.getD j 0 = 0) ∧ zs.getD (k + q) 0 < 2 ^ r
theorem getD_replicate (n j : Nat) : (List.replicate n 0).getD j 0 = 0 := by
  rw [List.getD_eq_getElem?_getD, List.getElem?_replicate]; split <;> rfl
theorem LeftInv.start (B : Nat) (hB : 0 < B) (xs : List Nat) (q r : Nat) : LeftInv B xs q r 0 (List.replicate (xs.length + q + 1) 0) :=
  ⟨by simp, fun d hd => by simp at hd; omega, by rw [List.take_replicate, val_replicate]; simp [val], fun j _ => getD_replicate _ _, by rw [getD_replicate]; exact Nat.pow_pos (by decide)⟩
theorem getD_set_ne {zs : List Nat} {i j d : Nat} (h : i ≠ j) : (zs.set i d).getD j 0 = zs.getD j 0 := by
  simp [List.getElem?_set_ne h]
theorem getD_set_eq {zs : List Nat} {i d : Nat} (h : i < zs.length) : (zs.set i d).getD i 0 = d := by
  simp [h]
theorem LeftInv.step {B : Nat} {xs zs : List Nat} {q r k x z s z' y' : Nat} (hB : 0 < B) (h : LeftInv B xs q r k zs) (hk : k < xs.length) (hx : xs.getD k 0 = x) (hz : zs.getD (k + q) 0 = z)
    (hs : s = x * 2 ^ r) (hz' : z' = z + s % B) (hzb : z' < B) (hy : y' = s / B) (hyb : y' < B) (hyr : y' < 2 ^ r) : LeftInv B xs q r (k + 1) ((zs.set (k + q) z').set (k + q + 1) y') := by
  obtain ⟨h1, h2, h3, h4, h5⟩ := h
  refine ⟨by simpa using h1, mem_set (mem_set h2 hzb) hyb, ?_, ?_, ?_⟩
  · have e1 : k + 1 + q + 1 = (k + q + 1) + 1 := by omega
    rw [e1, val_set B (by simp; omega), val_set B (by omega), val_take B hk, hx, hy, hz']
    have e2 := val_take B (xs := zs) (i := k + q) (by omega)
    rw [hz, h3] at e2
    have e3 := digit_step (B ^ (k + q)) B s
    rw [← Nat.pow_succ, Nat.succ_eq_add_one] at e3
    have e4 : B ^ (k + q) * s = B ^ k * x * 2 ^ r * B ^ q := by
      rw [hs, Nat.pow_add]; simp only [Nat.mul_assoc, Nat.mul_comm, Nat.mul_left_comm]
    simp only [Nat.add_mul, Nat.mul_add]
    omega
  · intro j hj
    rw [getD_set_ne (by omega), getD_set_ne (by omega)]
    exact h4 j (by omega)
  · rw [show k + 1 + q = k + q + 1 from by omega, getD_set_eq (by simp; omega)]
    exact hyr
theorem LeftInv.done {B : Nat} {xs zs : List Nat} {q r : Nat} (h : LeftInv B xs q r xs.length zs) : val B zs = val B xs * 2 ^ r * B ^ q := by
  obtain ⟨h1, h2, h3, h4, h5⟩ := h
  rw [List.take_of_length_le (by omega), List.take_of_length_le (Nat.le_refl _)] at h3
  exact h3
theorem left_num (n v : Nat) : v * 2 ^ (n % 32) * 4294967296 ^ (n / 32) = v * 2 ^ n := by
  rw [show (4294967296 : Nat) = 2 ^ 32 from rfl, ← Nat.pow_mul, Nat.mul_assoc, ← Nat.pow_add, Nat.mod_add_div]
theorem shl_bounds {x r : Nat} (hx : x < 4294967296) (hr : r < 32) : x * 2 ^ r < 18446744073709551616 ∧ x * 2 ^ r / 4294967296 < 2 ^ r ∧ (2:Nat) ^ r ≤ 2147483648 := by
  have h1 : (2 : Nat) ^ r ≤ 2 ^ 31 := Nat.pow_le_pow_right (by decide) (by omega)
  have h2 : x * 2 ^ r ≤ 4294967295 * 2 ^ r := Nat.mul_le_mul_right _ (by omega)
  have h3 : 0 < (2 : Nat) ^ r := Nat.pow_pos (by decide)
  refine ⟨?_, ?_, by omega⟩
  · omega
  · rw [Nat.div_lt_iff_lt_mul (by decide)]; omega
theorem or_add_low {z y r : Nat} (hz : z < 2 ^ r) (hy : y % 2 ^ r = 0) : z ||| y = z + y := by
  obtain ⟨t, ht⟩ := Nat.dvd_of_mod_eq_zero hy
  rw [ht, Nat.or_comm, ← Nat.two_pow_add_eq_or_of_lt hz, Nat.add_comm]
theorem shl_low {x r : Nat} (hr : r < 32) : (x * 2 ^ r % 4294967296) % 2 ^ r = 0 := by
  have : (4294967296 : Nat) = 2 ^ r * 2 ^ (32 - r) := by rw [← Nat.pow_add, show r + (32 - r) = 32 from by omega]
  rw [this, Nat.mod_mul_right_mod]
  simp
theorem low_lt {x z r : Nat} (hr : r < 32) (hz : z < 2 ^ r) : z + x * 2 ^ r % 4294967296 < 4294967296 := by
  have e : (4294967296 : Nat) = 2 ^ r * 2 ^ (32 - r) := by rw [← Nat.pow_add, show r + (32 - r) = 32 from by omega]
  have h1 := shl_low (x := x) hr
  obtain ⟨t, ht⟩ := Nat.dvd_of_mod_eq_zero h1
  have h2 : x * 2 ^ r % 4294967296 < 4294967296 := Nat.mod_lt _ (by decide)
  rw [ht] at h2 ⊢
  rw [e] at h2 ⊢
  have h3 := Nat.lt_of_mul_lt_mul_left h2
  have h4 := Nat.mul_le_mul_left (2 ^ r) h3
  rw [Nat.mul_succ] at h4
  omega

/-! ### times -/
def TimesOut (B : Nat) (xs ys : List Nat) (i : Nat) (zs : List Nat) : Prop :=
  zs.length = xs.length + ys.length ∧ (∀ d ∈ zs, d < B) ∧ val B zs = val B (xs.take i) * val B ys ∧ ∀ j, i + ys.length ≤ j → zs.getD j 0 = 0
def TimesIn (B : Nat) (xs ys : List Nat) (i k c x : Nat) (zs : List Nat) : Prop :=
  zs.length = xs.length + ys.length ∧ (∀ d ∈ zs, d < B) ∧ c < B ∧ val B zs + B ^ (i + k) * c = val B (xs.take i) * val B ys + B ^ i * x * val B (ys.take k) ∧ ∀ j, i + ys.length ≤ j → zs.getD j 0 = 0
theorem TimesOut.start (B : Nat) (hB : 0 < B) (xs ys : List Nat) : TimesOut B xs ys 0 (List.replicate (xs.length + ys.length) 0) :=
  ⟨by simp, fun d hd => by simp at hd; omega, by rw [val_replicate]; simp [val], fun j _ => getD_replicate _ _⟩
theorem TimesOut.inn {B : Nat} (hB : 0 < B) {xs ys zs : List Nat} {i x : Nat} (h : TimesOut B xs ys i zs) : TimesIn B xs ys i 0 0 x zs :=
  ⟨h.1, h.2.1, hB, by simp [h.2.2.1, val], h.2.2.2⟩
theorem TimesIn.step {B : Nat} (hB : 0 < B) {xs ys zs : List Nat} {i k c x y o s : Nat} (h : TimesIn B xs ys i k c x zs) (hi : i < xs.length) (hk : k < ys.length) (hy : ys.getD k 0 = y) (ho : zs.getD (i + k) 0 = o)
    (hs : s = c + x * y + o) (hc : s / B < B) : TimesIn B xs ys i (k + 1) (s / B) x (zs.set (i + k) (s % B)) := by
  obtain ⟨h1, h2, h3, h4, h5⟩ := h
  refine ⟨by simpa using h1, mem_set h2 (Nat.mod_lt _ hB), hc, ?_, ?_⟩
  · have e1 := val_set_any B (xs := zs) (k := i + k) (s % B) (by omega)
    rw [ho] at e1
    have e2 := digit_step (B ^ (i + k)) B s
    rw [← Nat.pow_succ, Nat.succ_eq_add_one] at e2
    rw [← Nat.add_assoc]
    rw [val_take B hk, hy, Nat.mul_add]
    have e3 : B ^ (i + k) * s = B ^ (i + k) * c + B ^ i * x * (B ^ k * y) + B ^ (i + k) * o := by
      rw [hs]; simp only [Nat.mul_add, Nat.pow_add]; simp only [Nat.mul_assoc, Nat.mul_comm, Nat.mul_left_comm]
    omega
  · intro j hj
    rw [getD_set_ne (by omega)]
    exact h5 j hj
theorem TimesIn.out {B : Nat} {xs ys zs : List Nat} {i c x : Nat} (h : TimesIn B xs ys i ys.length c x zs) (hi : i < xs.length) (hx : xs.getD i 0 = x) : TimesOut B xs ys (i + 1) (zs.set (i + ys.length) c) := by
  obtain ⟨h1, h2, h3, h4, h5⟩ := h
  refine ⟨by simpa using h1, mem_set h2 h3, ?_, ?_⟩
  · have e1 := val_set_any B (xs := zs) (k := i + ys.length) c (by omega)
    rw [h5 _ (Nat.le_refl _)] at e1
    rw [val_take B hi, hx, Nat.add_mul]
    rw [List.take_of_length_le (Nat.le_refl _)] at h4
    omega
  · intro j hj
    rw [getD_set_ne (by omega)]
    exact h5 j (by omega)
theorem times_bd {x y : Nat} (hx : x < 4294967296) (hy : y < 4294967296) : x * y ≤ 18446744065119617025 :=
  Nat.mul_le_mul (show x ≤ 4294967295 by omega) (show y ≤ 4294967295 by omega)

/-! ### how many bits -/
def bl (m : Nat) : Nat := if m = 0 then 0 else m.log2 + 1
theorem bl_zero : bl 0 = 0 := rfl
theorem bl_lt (m : Nat) : m < 2 ^ bl m := by
  unfold bl; split
  · rename_i h; subst h; decide
  · exact Nat.lt_log2_self
theorem bl_le {m : Nat} (h : m ≠ 0) : 2 ^ (bl m - 1) ≤ m := by
  unfold bl; rw [if_neg h, Nat.add_sub_cancel]; exact Nat.log2_self_le h
theorem bl_pos {m : Nat} (h : m ≠ 0) : 0 < bl m := by unfold bl; rw [if_neg h]; omega
theorem bl_eq {m L : Nat} (h1 : m < 2 ^ (L + 1)) (h2 : 2 ^ L ≤ m) : bl m = L + 1 := by
  have hm : m ≠ 0 := by have := Nat.pow_pos (n := L) (show 0 < 2 by decide); omega
  have a := (Nat.pow_lt_pow_iff_right (show 1 < 2 by decide)).1 (Nat.lt_of_le_of_lt (bl_le hm) h1)
  have b := (Nat.pow_lt_pow_iff_right (show 1 < 2 by decide)).1 (Nat.lt_of_le_of_lt h2 (bl_lt m))
  have := bl_pos hm
  omega
theorem bl_le_of_lt {m L : Nat} (h : m < 2 ^ L) : bl m ≤ L := by
  rcases Nat.eq_zero_or_pos m with h0 | h0
  · subst h0; rw [bl_zero]; omega
  · have := (Nat.pow_lt_pow_iff_right (show 1 < 2 by decide)).1 (Nat.lt_of_le_of_lt (bl_le (by omega : m ≠ 0)) h)
    omega
theorem bl_mul_pow {m : Nat} (h : m ≠ 0) (k : Nat) : bl (m * 2 ^ k) = bl m + k := by
  have h1 := bl_lt m
  have h2 := bl_le h
  have h3 := bl_pos h
  have := bl_eq (m := m * 2 ^ k) (L := bl m - 1 + k)
    (by rw [show bl m - 1 + k + 1 = bl m + k from by omega, Nat.pow_add]; exact Nat.mul_lt_mul_of_pos_right h1 (Nat.pow_pos (by decide)))
    (by rw [Nat.pow_add]; exact Nat.mul_le_mul_right _ h2)
  omega
theorem bl_low {lo m : Nat} (h : m ≠ 0) {k : Nat} (hl : lo < 2 ^ k) : bl (lo + 2 ^ k * m) = k + bl m := by
  have h1 := bl_lt m
  have h2 := bl_le h
  have h3 := bl_pos h
  have := bl_eq (m := lo + 2 ^ k * m) (L := bl m - 1 + k)
    (by
      rw [show bl m - 1 + k + 1 = k + bl m from by omega, Nat.pow_add]
      have := Nat.mul_le_mul_left (2 ^ k) h1
      rw [Nat.mul_succ] at this; omega)
    (by
      rw [Nat.add_comm (bl m - 1), Nat.pow_add]
      have := Nat.mul_le_mul_left (2 ^ k) h2; omega)
  omega
theorem bl_half {x : Nat} (h : x ≠ 0) : bl (x / 2) + 1 = bl x := by
  rcases Nat.eq_zero_or_pos (x / 2) with h0 | h0
  · have : x = 1 := by omega
    subst this; decide
  · have := bl_low (lo := x % 2) (m := x / 2) (by omega) (k := 1) (by omega)
    rw [show x % 2 + 2 ^ 1 * (x / 2) = x from by omega] at this
    omega
end Go.Proofs.YtcfejobdgiiihaaGreatDoor

namespace Go.Proofs.YtcfejobdgiiihaaGreatDoor

/-! ### right: a / 2^n -/
theorem right_num (P Q h g W : Nat) (hP : 0 < P) (hh : h < P * Q) : (h + P * Q * (g + P * Q * W)) / P = ((h + P * Q * g) / P) % (P * Q) + P * Q * ((g + P * Q * W) / P) := by
  have hg := Nat.mod_add_div g P
  have hv := Nat.mod_lt g hP
  generalize g / P = u at *
  generalize g % P = v at *
  have e1 : (g + P * Q * W) / P = u + Q * W := by
    rw [← hg, show v + P * u + P * Q * W = v + P * (u + Q * W) from by simp only [Nat.mul_add, Nat.mul_assoc]; omega, Nat.add_mul_div_left _ _ hP, Nat.div_eq_of_lt hv]; omega
  have e2 : (h + P * Q * g) / P = (h + P * Q * v) / P + P * Q * u := by
    rw [← hg, show h + P * Q * (v + P * u) = h + P * Q * v + P * (P * Q * u) from by
      simp only [Nat.mul_add]; rw [show P * Q * (P * u) = P * (P * Q * u) from by simp only [Nat.mul_assoc, Nat.mul_comm, Nat.mul_left_comm]]; omega, Nat.add_mul_div_left _ _ hP]
  have e3 : (h + P * Q * v) / P < P * Q := by
    rw [Nat.div_lt_iff_lt_mul hP]
    have := Nat.mul_le_mul_left (P * Q) hv
    rw [Nat.mul_succ] at this
    rw [Nat.mul_comm (P * Q) P]
    rw [Nat.mul_comm (P * Q) P] at this
    omega
  have e4 : (h + P * Q * (g + P * Q * W)) / P = (h + P * Q * v) / P + P * Q * (u + Q * W) := by
    rw [← hg, show h + P * Q * (v + P * u + P * Q * W) = h + P * Q * v + P * (P * Q * (u + Q * W)) from by
      simp only [Nat.mul_add]
      rw [show P * Q * (P * u) = P * (P * Q * u) from by simp only [Nat.mul_assoc, Nat.mul_comm, Nat.mul_left_comm], show P * Q * (P * Q * W) = P * (P * Q * (Q * W)) from by simp only [Nat.mul_assoc, Nat.mul_comm, Nat.mul_left_comm]]; omega, Nat.add_mul_div_left _ _ hP]
  rw [e4, e2, e1, Nat.add_mul_mod_self_left, Nat.mod_eq_of_lt e3]
theorem drop_val (B : Nat) {hs : List Nat} {k : Nat} (h : k < hs.length) : val B (hs.drop k) = hs.getD k 0 + B * val B (hs.drop (k + 1)) := by
  rw [List.drop_eq_getElem_cons h]; simp [val, h]
theorem drop_val' (B : Nat) (hs : List Nat) (k : Nat) : val B (hs.drop k) = hs.getD k 0 + B * val B (hs.drop (k + 1)) := by
  rcases Nat.lt_or_ge k hs.length with h | h
  · exact drop_val B h
  · rw [List.drop_of_length_le h, List.drop_of_length_le (by omega), getD_ge h]; simp [val]
def RightInv (B : Nat) (hs : List Nat) (r k : Nat) (zs : List Nat) : Prop :=
  zs.length = hs.length ∧ (∀ d ∈ zs, d < B) ∧ val B (zs.take k) + B ^ k * (val B (hs.drop k) / 2 ^ r) = val B hs / 2 ^ r
theorem RightInv.start (B : Nat) (hB : 0 < B) (hs : List Nat) (r : Nat) : RightInv B hs r 0 (List.replicate hs.length 0) :=
  ⟨by simp, fun d hd => by simp at hd; omega, by simp [val]⟩
theorem RightInv.step {hs zs : List Nat} {r k h g : Nat} (hr : r < 32) (hI : RightInv 4294967296 hs r k zs) (hk : k < hs.length) (hh : hs.getD k 0 = h) (hb : h < 4294967296) (hg : hs.getD (k + 1) 0 = g) :
    RightInv 4294967296 hs r (k + 1) (zs.set k ((h + 4294967296 * g) / 2 ^ r % 4294967296)) := by
  obtain ⟨h1, h2, h3⟩ := hI
  refine ⟨by simpa using h1, mem_set h2 (Nat.mod_lt _ (by decide)), ?_⟩
  have e : (4294967296 : Nat) = 2 ^ r * 2 ^ (32 - r) := by rw [← Nat.pow_add, show r + (32 - r) = 32 from by omega]
  have e1 := drop_val 4294967296 (hs := hs) (k := k) hk
  have e2 := drop_val' 4294967296 hs (k + 1)
  rw [hh] at e1; rw [hg] at e2
  have e3 := right_num (2 ^ r) (2 ^ (32 - r)) h g (val 4294967296 (hs.drop (k + 1 + 1))) (Nat.pow_pos (by decide)) (by rw [← e]; exact hb)
  rw [← e, ← e2, ← e1] at e3
  rw [val_set _ (by omega), Nat.pow_succ, Nat.mul_assoc, Nat.add_assoc, ← Nat.mul_add, ← e3]
  exact h3
theorem RightInv.done {B : Nat} {hs zs : List Nat} {r : Nat} (h : RightInv B hs r hs.length zs) : val B zs = val B hs / 2 ^ r := by
  obtain ⟨h1, h2, h3⟩ := h
  rw [List.drop_of_length_le (Nat.le_refl _), List.take_of_length_le (by omega)] at h3
  simpa [val] using h3
theorem val_split (B : Nat) (xs : List Nat) (q : Nat) (h : q ≤ xs.length) : val B xs = val B (xs.take q) + B ^ q * val B (xs.drop q) := by
  have := val_append B (xs.take q) (xs.drop q)
  rw [List.take_append_drop, List.length_take, Nat.min_eq_left h] at this
  exact this
theorem pow_32 (n : Nat) : (4294967296 : Nat) ^ (n / 32) * 2 ^ (n % 32) = 2 ^ n := by
  rw [show (4294967296 : Nat) = 2 ^ 32 from rfl, ← Nat.pow_mul, ← Nat.pow_add, Nat.div_add_mod]
/-- floor and rest -/
theorem right_floor {xs : List Nat} {n : Nat} (h : n / 32 ≤ xs.length) (hb : ∀ d ∈ xs, d < 4294967296) :
    val 4294967296 xs / 2 ^ n = val 4294967296 (xs.drop (n / 32)) / 2 ^ (n % 32) := by
  have h1 := val_split 4294967296 xs (n / 32) h
  have h2 := val_lt (B := 4294967296) (by decide) (xs.take (n / 32)) (fun d hd => hb d (List.mem_of_mem_take hd))
  rw [List.length_take, Nat.min_eq_left h] at h2
  have hp : 0 < (4294967296 : Nat) ^ (n / 32) := Nat.pow_pos (by decide)
  rw [h1, ← pow_32, ← Nat.div_div_eq_div_mul, Nat.add_mul_div_left _ _ hp, Nat.div_eq_of_lt h2, Nat.zero_add]
theorem right_rest {xs : List Nat} {n : Nat} (h : n / 32 < xs.length) (hb : ∀ d ∈ xs, d < 4294967296) :
    (val 4294967296 xs % 2 ^ n = 0) ↔ (val 4294967296 (xs.take (n / 32)) = 0 ∧ xs.getD (n / 32) 0 % 2 ^ (n % 32) = 0) := by
  have h1 := val_split 4294967296 xs (n / 32) (by omega)
  have h2 := val_lt (B := 4294967296) (by decide) (xs.take (n / 32)) (fun d hd => hb d (List.mem_of_mem_take hd))
  rw [List.length_take, Nat.min_eq_left (by omega)] at h2
  have hp : 0 < (4294967296 : Nat) ^ (n / 32) := Nat.pow_pos (by decide)
  have h3 : val 4294967296 (xs.drop (n / 32)) % 2 ^ (n % 32) = xs.getD (n / 32) 0 % 2 ^ (n % 32) := by
    rw [drop_val _ h]
    have e : (4294967296 : Nat) = 2 ^ (n % 32) * 2 ^ (32 - n % 32) := by rw [← Nat.pow_add, show n % 32 + (32 - n % 32) = 32 from by omega]
    conv => lhs; rw [e]
    rw [Nat.mul_assoc, Nat.add_mul_mod_self_left]
  have h4 : val 4294967296 xs % 2 ^ n = val 4294967296 (xs.take (n / 32)) + 4294967296 ^ (n / 32) * (xs.getD (n / 32) 0 % 2 ^ (n % 32)) := by
    rw [← pow_32, Nat.mod_mul, ← h3, h1, Nat.add_mul_mod_self_left, Nat.mod_eq_of_lt h2, Nat.add_mul_div_left _ _ hp, Nat.div_eq_of_lt h2, Nat.zero_add]
  rw [h4]
  constructor
  · intro h0
    have : 4294967296 ^ (n / 32) * (xs.getD (n / 32) 0 % 2 ^ (n % 32)) = 0 := by omega
    rcases Nat.mul_eq_zero.1 this with h5 | h5
    · omega
    · exact ⟨by omega, h5⟩
  · rintro ⟨h5, h6⟩; rw [h5, h6]; simp
/-- all of it is rest -/
theorem right_all {xs : List Nat} {n : Nat} (h : xs.length ≤ n / 32) (hb : ∀ d ∈ xs, d < 4294967296) : val 4294967296 xs < 2 ^ n := by
  have h1 := val_lt (B := 4294967296) (by decide) xs hb
  refine Nat.lt_of_lt_of_le h1 ?_
  rw [← pow_32]
  exact Nat.le_trans (Nat.pow_le_pow_right (by decide) h) (Nat.le_mul_of_pos_right _ (Nat.pow_pos (by decide)))
theorem val_zero_step {B : Nat} (hB : 0 < B) {xs : List Nat} {k : Nat} (h : k < xs.length) : (val B (xs.take (k + 1)) = 0) ↔ (val B (xs.take k) = 0 ∧ xs.getD k 0 = 0) := by
  rw [val_take B h]
  have := Nat.pow_pos (n := k) hB
  constructor
  · intro h0
    have h1 : B ^ k * xs.getD k 0 = 0 := by omega
    rcases Nat.mul_eq_zero.1 h1 with h5 | h5
    · omega
    · exact ⟨by omega, h5⟩
  · rintro ⟨h1, h2⟩; rw [h1, h2]; simp
/-- the length -/
theorem bl_val {xs : List Nat} {k x : Nat} (hl : xs.length = k + 1) (hb : ∀ d ∈ xs, d < 4294967296) (hx : xs.getD k 0 = x) (h0 : x ≠ 0) : bl (val 4294967296 xs) = 32 * k + bl x := by
  have h1 := val_take 4294967296 (xs := xs) (i := k) (by omega)
  rw [List.take_of_length_le (by omega), hx] at h1
  have h2 := val_lt (B := 4294967296) (by decide) (xs.take k) (fun d hd => hb d (List.mem_of_mem_take hd))
  rw [List.length_take, Nat.min_eq_left (by omega), show (4294967296 : Nat) = 2 ^ 32 from rfl, ← Nat.pow_mul] at h2
  rw [h1, show (4294967296 : Nat) ^ k = 2 ^ (32 * k) from by rw [show (4294967296 : Nat) = 2 ^ 32 from rfl, ← Nat.pow_mul]]
  exact bl_low h0 h2
end Go.Proofs.YtcfejobdgiiihaaGreatDoor

namespace Go.Proofs.YtcfejobdgiiihaaGreatDoor

/-! ### the same for words of any width: B = 2^r * Q -/
theorem RightInv.stepG {B Q r : Nat} (hB : B = 2 ^ r * Q) {hs zs : List Nat} {k h g : Nat} (hI : RightInv B hs r k zs) (hk : k < hs.length) (hh : hs.getD k 0 = h) (hb : h < B) (hg : hs.getD (k + 1) 0 = g) (hp : 0 < B) :
    RightInv B hs r (k + 1) (zs.set k ((h + B * g) / 2 ^ r % B)) := by
  obtain ⟨h1, h2, h3⟩ := hI
  refine ⟨by simpa using h1, mem_set h2 (Nat.mod_lt _ hp), ?_⟩
  have e1 := drop_val B (hs := hs) (k := k) hk
  have e2 := drop_val' B hs (k + 1)
  rw [hh] at e1; rw [hg] at e2
  have e3 := right_num (2 ^ r) Q h g (val B (hs.drop (k + 1 + 1))) (Nat.pow_pos (by decide)) (by rw [← hB]; exact hb)
  rw [← hB, ← e2, ← e1] at e3
  rw [val_set _ (by omega), Nat.pow_succ, Nat.mul_assoc, Nat.add_assoc, ← Nat.mul_add, ← e3]
  exact h3
/-- what one word of a shift to the right is -/
theorem shr_word {P Q h g : Nat} (hP : 0 < P) (hQ : 0 < Q) (hh : h < P * Q) : (h + P * Q * g) / P % (P * Q) = h / P + g * Q % (P * Q) := by
  have e1 : (h + P * Q * g) / P = h / P + g * Q := by
    rw [Nat.mul_assoc, Nat.add_mul_div_left _ _ hP, Nat.mul_comm Q g]
  have e2 : h / P < Q := by rw [Nat.div_lt_iff_lt_mul hP, Nat.mul_comm]; exact hh
  rw [e1]
  have e3 : g * Q % (P * Q) = g % P * Q := by rw [Nat.mul_mod_mul_right]
  have e4 : g % P < P := Nat.mod_lt _ hP
  have e5 : h / P + g % P * Q < P * Q := by
    have := Nat.mul_le_mul_right Q e4
    rw [Nat.succ_mul] at this; omega
  have e6 : g * Q = g % P * Q + P * Q * (g / P) := by
    have := Nat.mod_add_div g P
    conv => lhs; rw [← this]
    rw [Nat.add_mul]; congr 1; simp only [Nat.mul_assoc, Nat.mul_comm, Nat.mul_left_comm]
  rw [e6, ← Nat.add_assoc, Nat.add_mul_mod_self_left, Nat.mod_eq_of_lt e5, Nat.add_mul_mod_self_left, Nat.mod_eq_of_lt (Nat.mul_lt_mul_of_pos_right e4 hQ)]
/-- a shift to the left, word by word -/
def lshD (B s : Nat) (xs : List Nat) : Nat → Nat
  | 0 => xs.getD 0 0 * 2 ^ s % B
  | j + 1 => xs.getD (j + 1) 0 * 2 ^ s % B + xs.getD j 0 * 2 ^ s / B
theorem lsh_val {B s : Nat} {xs zs : List Nat} : ∀ k, k ≤ xs.length → k ≤ zs.length → (∀ j, j < k → zs.getD j 0 = lshD B s xs j) → val B (zs.take k) + (if k = 0 then 0 else B ^ k * (xs.getD (k - 1) 0 * 2 ^ s / B)) = val B (xs.take k) * 2 ^ s
  | 0, _, _, _ => by simp [val]
  | k + 1, h1, h2, h => by
    have ih := lsh_val (B := B) (s := s) k (by omega) (by omega) (fun j hj => h j (by omega))
    rw [val_take B (by omega : k < zs.length), val_take B (by omega : k < xs.length), h k (by omega), if_neg (by omega), Nat.add_mul, ← ih, Nat.add_sub_cancel]
    have e := digit_step (B ^ k) B (xs.getD k 0 * 2 ^ s)
    rw [← Nat.pow_succ, Nat.succ_eq_add_one] at e
    have e2 : B ^ k * xs.getD k 0 * 2 ^ s = B ^ k * (xs.getD k 0 * 2 ^ s) := by rw [Nat.mul_assoc]
    cases k with
    | zero => simp only [lshD, if_true, Nat.pow_zero, Nat.one_mul] at *; omega
    | succ k =>
      rw [if_neg (by omega), Nat.add_sub_cancel]
      simp only [lshD, Nat.mul_add]
      omega
theorem val_cons_drop (B : Nat) (zs : List Nat) (q : Nat) (h : q ≤ zs.length) (h0 : ∀ j, j < q → zs.getD j 0 = 0) : val B zs = B ^ q * val B (zs.drop q) := by
  rw [val_split B zs q h]
  have : ∀ q, q ≤ zs.length → (∀ j, j < q → zs.getD j 0 = 0) → val B (zs.take q) = 0 := by
    intro q
    induction q with
    | zero => intro _ _; simp [val]
    | succ q ih => intro h1 h2; rw [val_take B h1, ih (by omega) (fun j hj => h2 j (by omega)), h2 q (by omega)]; simp
  rw [this q h h0]; simp
theorem pow_64 (n : Nat) : (18446744073709551616 : Nat) ^ (n / 64) * 2 ^ (n % 64) = 2 ^ n := by
  rw [show (18446744073709551616 : Nat) = 2 ^ 64 from rfl, ← Nat.pow_mul, ← Nat.pow_add, Nat.div_add_mod]
theorem right_floor64 {xs : List Nat} {n : Nat} (h : n / 64 ≤ xs.length) (hb : ∀ d ∈ xs, d < 18446744073709551616) :
    val 18446744073709551616 xs / 2 ^ n = val 18446744073709551616 (xs.drop (n / 64)) / 2 ^ (n % 64) := by
  have h1 := val_split 18446744073709551616 xs (n / 64) h
  have h2 := val_lt (B := 18446744073709551616) (by decide) (xs.take (n / 64)) (fun d hd => hb d (List.mem_of_mem_take hd))
  rw [List.length_take, Nat.min_eq_left h] at h2
  have hp : 0 < (18446744073709551616 : Nat) ^ (n / 64) := Nat.pow_pos (by decide)
  rw [h1, ← pow_64, ← Nat.div_div_eq_div_mul, Nat.add_mul_div_left _ _ hp, Nat.div_eq_of_lt h2, Nat.zero_add]
theorem right_all64 {xs : List Nat} {n : Nat} (h : xs.length ≤ n / 64) (hb : ∀ d ∈ xs, d < 18446744073709551616) : val 18446744073709551616 xs < 2 ^ n := by
  have h1 := val_lt (B := 18446744073709551616) (by decide) xs hb
  refine Nat.lt_of_lt_of_le h1 ?_
  rw [← pow_64]
  exact Nat.le_trans (Nat.pow_le_pow_right (by decide) h) (Nat.le_mul_of_pos_right _ (Nat.pow_pos (by decide)))
theorem val_take_drop (B : Nat) (xs : List Nat) (k n : Nat) (h : xs.length ≤ k + n) : (xs.drop k).take n = xs.drop k := List.take_of_length_le (by simp; omega)
end Go.Proofs.YtcfejobdgiiihaaGreatDoor
