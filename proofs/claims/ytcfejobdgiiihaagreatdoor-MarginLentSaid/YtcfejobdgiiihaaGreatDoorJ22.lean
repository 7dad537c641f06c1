/- Walks and plain laws of this seat's functions, part 22: D9a D9b D9 D10 D11 D12 D13. -/
import Derived.Test.YtcfejobdgiiihaaGreatDoorJ19
import Derived.Test.YtcfejobdgiiihaaGreatDoorJ21
set_option linter.unusedVariables false
set_option linter.unusedSimpArgs false
namespace Go.Proofs.YtcfejobdgiiihaaGreatDoor
open Go.RowKit
attribute [local go_sem ↓] Go.wp_at_zero Go.wp_at_succ

/-! ### marked: the marks are laid -/
structure MSt (S : List Nat) (w wr : World) (es is : List LS) (F G : Nat → LS → List Value → Prop) : Prop where
  O : OnlyIn S w wr
  E : LM 47 wr es F
  I : LM 3 wr is G
structure MFix (S : List Nat) (w : World) (base : Nat) (es is : List LS) : Prop where
  ty : ∀ g, g ∈ S → ∃ cells t, w.heap[g]? = some (.cells cells t (0, 0)) ∧ (t = 47 ∨ t = 3)
  de : Dist es
  di : Dist is
  se : ∀ (i : Nat) (e : LS), es[i]? = some e → e.g ∈ S ∧ base ≤ e.g ∧ e.n ≤ e.cap ∧ e.n ≤ 1000000 ∧ e.cap ≤ 9223372036854775807
  si : ∀ (i : Nat) (e : LS), is[i]? = some e → e.g ∈ S ∧ base ≤ e.g ∧ e.n ≤ e.cap ∧ e.n ≤ 1000000 ∧ e.cap ≤ 9223372036854775807
/-- headers stay where only lists of numbers are written -/
theorem hd_only {S : List Nat} {w wr : World} {t base : Nat} {A : Option Addr} {es ls : List LS} {is : List LS} (hx : MFix S w base es is) (h : hdRd.Row t w base A ls) (ht : t ≠ 47 ∧ t ≠ 3) (hO : OnlyIn S w wr) (hbase : ∀ g, g ∈ S → base ≤ g) : hdRd.Row t wr base A ls := by
  intro i x hi
  obtain ⟨a, cs, ha, hok, hlt, hr, hc⟩ := h i x hi
  have hn : a.block ∉ S := by
    intro hm
    obtain ⟨cells, t', hh, ht'⟩ := hx.ty _ hm
    rcases hok with hok | ⟨c2, hh2⟩
    · have := hbase _ hm; omega
    · have := hh2.symm.trans hh
      simp at this
      rcases ht' with h | h
      · exact ht.1 (this.2.trans h)
      · exact ht.2 (this.2.trans h)
  have hs := hO.block a.block hlt hn
  refine ⟨a, cs, ha, hok.imp id (fun ⟨c, hh⟩ => ⟨c, hs.trans hh⟩), Nat.lt_of_lt_of_le hlt hO.size, hr, fun j u hj => ?_⟩
  exact (World.cell?_of_block (by rw [Addr.add_block]; exact hs)).trans (hc j u hj)
section
variable {S : List Nat} {w wr : World} {base : Nat} {es is : List LS} {F F' G G' : Nat → LS → List Value → Prop}
theorem MSt.mono (h : MSt S w wr es is F G) (hf : ∀ (i : Nat) (e : LS) cs, es[i]? = some e → F i e cs → F' i e cs) (hg : ∀ (i : Nat) (e : LS) cs, is[i]? = some e → G i e cs → G' i e cs) : MSt S w wr es is F' G' := ⟨h.O, h.E.mono hf, h.I.mono hg⟩
theorem MSt.drew (h : MSt S w wr es is F G) : MSt S w wr.drew es is F G := ⟨h.O.drew, h.E, h.I⟩
theorem MSt.setE (h : MSt S w wr es is F G) (hx : MFix S w base es is) {k : Nat} {e : LS} (hk : es[k]? = some e) (j : Nat) (v : Value)
    (h1 : ∀ i e' cs, i ≠ k → F i e' cs → F' i e' cs) (h2 : ∀ cs, cs.length = e.cap → F k e cs → F' k e (cs.set j v)) : MSt S w (wr.setCell ⟨e.g, j, none⟩ v) es is F' G := by
  obtain ⟨cs, hb, _, _⟩ := h.E k e hk
  obtain ⟨s1, s2, _⟩ := hx.se k e hk
  refine ⟨h.O.set (p := ⟨e.g, j, none⟩) (.inl s1) v, h.E.set hx.de hk j v h1 h2, h.I.keep fun i e' he => ?_⟩
  obtain ⟨cs', hb', _, _⟩ := h.I i e' he
  exact Below.heap_setCell wr ⟨e.g, j, none⟩ v _ (hb'.ne hb (by decide))
theorem MSt.setI (h : MSt S w wr es is F G) (hx : MFix S w base es is) {k : Nat} {e : LS} (hk : is[k]? = some e) (j : Nat) (v : Value)
    (h1 : ∀ i e' cs, i ≠ k → G i e' cs → G' i e' cs) (h2 : ∀ cs, cs.length = e.cap → G k e cs → G' k e (cs.set j v)) : MSt S w (wr.setCell ⟨e.g, j, none⟩ v) es is F G' := by
  obtain ⟨cs, hb, _, _⟩ := h.I k e hk
  obtain ⟨s1, s2, _⟩ := hx.si k e hk
  refine ⟨h.O.set (p := ⟨e.g, j, none⟩) (.inl s1) v, h.E.keep fun i e' he => ?_, h.I.set hx.di hk j v h1 h2⟩
  obtain ⟨cs', hb', _, _⟩ := h.E i e' he
  exact Below.heap_setCell wr ⟨e.g, j, none⟩ v _ (hb'.ne hb (by decide))
end
abbrev mE (i : Nat) (e : LS) (cs : List Value) : Prop := cs.take e.n = f64s (mkS i e.n)
abbrev mI (i : Nat) (e : LS) (cs : List Value) : Prop := cs.take e.n = iInts (mkI i e.n)
abbrev nE (_ : Nat) (_ : LS) (_ : List Value) : Prop := True
abbrev lgE (i : Nat) (l : LS) (cs : List Value) : Prop := cs.take l.n = f64s (lgS i (l.n - 9))
abbrev lgK (i : Nat) (l : LS) (cs : List Value) : Prop := cs.take l.n = iInts (lgI i (l.n - 9))
/-- lists that are lengthened: each in its old block or in a new one -/
def Rel9 (w : World) (ls es : List LS) : Prop := ∀ (i : Nat) (l e : LS), ls[i]? = some l → es[i]? = some e → l.n = e.n + 9 ∧ (l.g = e.g ∨ w.heap.size ≤ l.g)
structure QSt (S : List Nat) (w wr : World) (base : Nat) (es is ls : List LS) (v9 : Value) (ks : List LS) (v10 : Value) : Prop where
  M : MSt S w wr es is mE mI
  o9 : hdRd.Own 22 wr w.heap.size base v9 ls
  o10 : hdRd.Own 40 wr w.heap.size base v10 ks
  L : LM 47 wr ls lgE
  K : LM 3 wr ks lgK
  rl : Rel9 w ls es
  rk : Rel9 w ks is
  dl : Dist ls
  dk : Dist ks
theorem OnlyIn.grownOpt {S : List Nat} {w w1 w2 : World} {row : Option Nat} (h : OnlyIn S w w1) (hg : w1.grownBy w2 row) (hp : ∀ k, row = some k → w.heap.size ≤ k) : OnlyIn S w w2 :=
  ⟨hg.os.trans h.os, hg.tape.trans h.tape, hg.output.trans h.output, Nat.le_trans h.size hg.size, fun b hl hn => (hg.block b (Nat.lt_of_lt_of_le hl h.size) (fun e => by have := hp b e.symm; omega)).trans (h.block b hl hn)⟩
theorem Dist.push {ls : List LS} {x : LS} (h : Dist ls) (hn : ∀ (i : Nat) (l : LS), ls[i]? = some l → l.g ≠ x.g) : Dist (ls ++ [x]) := by
  intro i j l l' hi hj hg
  rcases Nat.lt_or_ge i ls.length with h1 | h1
  · rw [List.getElem?_append_left h1] at hi
    rcases Nat.lt_or_ge j ls.length with h2 | h2
    · rw [List.getElem?_append_left h2] at hj; exact h i j l l' hi hj hg
    · rw [List.getElem?_append_right h2] at hj
      have h3 : j - ls.length = 0 := by have := (List.getElem?_eq_some_iff.1 hj).1; simp at this; omega
      rw [h3] at hj; simp at hj; subst hj
      exact absurd hg (hn i l hi)
  · rw [List.getElem?_append_right h1] at hi
    have h3 : i - ls.length = 0 := by have := (List.getElem?_eq_some_iff.1 hi).1; simp at this; omega
    rw [h3] at hi; simp at hi; subst hi
    rcases Nat.lt_or_ge j ls.length with h2 | h2
    · rw [List.getElem?_append_left h2] at hj; exact absurd hg.symm (hn j l' hj)
    · rw [List.getElem?_append_right h2] at hj
      have h4 : j - ls.length = 0 := by have := (List.getElem?_eq_some_iff.1 hj).1; simp at this; omega
      omega
theorem Rel9.push {w : World} {ls es : List LS} {x e : LS} (h : Rel9 w ls es) (he : es[ls.length]? = some e) (hx : x.n = e.n + 9 ∧ (x.g = e.g ∨ w.heap.size ≤ x.g)) : Rel9 w (ls ++ [x]) es := by
  intro i l e' hi he'
  rcases Nat.lt_or_ge i ls.length with h1 | h1
  · rw [List.getElem?_append_left h1] at hi; exact h i l e' hi he'
  · rw [List.getElem?_append_right h1] at hi
    have h3 : i - ls.length = 0 := by have := (List.getElem?_eq_some_iff.1 hi).1; simp at this; omega
    rw [h3] at hi; simp at hi; subst hi
    obtain rfl : i = ls.length := by omega
    obtain rfl : e' = e := Option.some.inj (he'.symm.trans he)
    exact hx
theorem LM.push {t : Nat} {w : World} {ls : List LS} {x : LS} {F : Nat → LS → List Value → Prop} (h : LM t w ls F) (hx : ∃ cs, Blk w x.g t cs ∧ cs.length = x.cap ∧ F ls.length x cs) : LM t w (ls ++ [x]) F := by
  intro i l hi
  rcases Nat.lt_or_ge i ls.length with h1 | h1
  · rw [List.getElem?_append_left h1] at hi; exact h i l hi
  · rw [List.getElem?_append_right h1] at hi
    have h3 : i - ls.length = 0 := by have := (List.getElem?_eq_some_iff.1 hi).1; simp at this; omega
    rw [h3] at hi; simp at hi; subst hi
    obtain rfl : i = ls.length := by omega
    exact hx
/-- a block that is written or new is none of another type -/
theorem other_ty {wr : World} {t g : Nat} (hc : (∃ cs, Blk wr g t cs) ∨ wr.heap.size ≤ g) : ∀ t' b cells, t' ≠ t → wr.heap[b]? = some (.cells cells t' (0, 0)) → b ≠ g := by
  rintro t' b cells ht hh rfl
  rcases hc with ⟨cs, hb⟩ | hc
  · have := (show wr.heap[b]? = _ from hb).symm.trans hh
    simp at this
    exact ht this.2.symm
  · have := (Array.getElem?_eq_some_iff.1 hh).1; omega
section
variable {S : List Nat} {w wr w2 : World} {base g' : Nat} {es is ls ks : List LS} {v9 v10 : Value} {cs' : List Value}
theorem QSt.growE (h : QSt S w wr base es is ls v9 ks v10) (hgr : wr.grownBy w2 (some g')) (hb : Blk w2 g' 47 cs') (hc : (∃ cs, Blk wr g' 47 cs) ∨ wr.heap.size ≤ g') (hS : g' ∈ S ∨ w.heap.size ≤ g') (hbg : base ≤ g')
    (hE : ∀ (i : Nat) (e : LS), es[i]? = some e → e.g = g' → cs'.length = e.cap ∧ mE i e cs') (hL : ∀ (i : Nat) (l : LS), ls[i]? = some l → l.g ≠ g') : QSt S w w2 base es is ls v9 ks v10 := by
  have ty := other_ty hc
  have kp : ∀ E : List Nat, 47 ∉ E → Keeps base E wr w2 := fun E hn => Keeps.of_grown hgr (fun k hk => by
    injection hk with hk; subst hk
    exact ⟨hbg, fun cells q hq hh => ty q _ cells (fun e => hn (e ▸ hq)) hh rfl⟩)
  have keep : ∀ (b t' : Nat) (cs : List Value), t' ≠ 47 → Blk wr b t' cs → w2.heap[b]? = wr.heap[b]? := fun b t' cs ht hb' => hgr.block b hb'.lt (fun e => by injection e with e; exact ty t' b _ ht hb' e)
  have own : ∀ (L : List LS) (X : Nat → LS → List Value → Prop), (∀ (i : Nat) (l : LS), L[i]? = some l → l.g ≠ g') → LM 47 wr L X → LM 47 w2 L X := fun L X hn hl => hl.keep (fun i l hi => by
    obtain ⟨cs, hb', _, _⟩ := hl i l hi
    exact hgr.block _ hb'.lt (fun e => by injection e with e; exact hn i l hi e))
  have oth : ∀ (L : List LS) (X : Nat → LS → List Value → Prop), LM 3 wr L X → LM 3 w2 L X := fun L X hl => hl.keep (fun i l hi => by
    obtain ⟨cs, hb', _, _⟩ := hl i l hi
    exact keep _ _ _ (by decide) hb')
  have upd : LM 47 w2 es mE := fun i e he => by
    obtain ⟨cs, hb', h1, h2⟩ := h.M.E i e he
    by_cases hg : e.g = g'
    · obtain ⟨h3, h4⟩ := hE i e he hg
      exact ⟨cs', hg ▸ hb, h3, h4⟩
    · exact ⟨cs, (hgr.block _ hb'.lt (fun e0 => by injection e0 with e0; exact hg e0)).trans hb', h1, h2⟩
  exact ⟨⟨h.M.O.grown hgr hS, upd, oth _ _ h.M.I⟩, h.o9.keep (kp [22] (by decide)) (by simp) (by intro q hq; cases hq), h.o10.keep (kp [40] (by decide)) (by simp) (by intro q hq; cases hq),
    own _ _ hL h.L, oth _ _ h.K, h.rl, h.rk, h.dl, h.dk⟩
end
section
variable {S : List Nat} {w wr w2 : World} {base g' : Nat} {es is ls ks : List LS} {v9 v10 : Value} {cs' : List Value}
theorem QSt.growI (h : QSt S w wr base es is ls v9 ks v10) (hgr : wr.grownBy w2 (some g')) (hb : Blk w2 g' 3 cs') (hc : (∃ cs, Blk wr g' 3 cs) ∨ wr.heap.size ≤ g') (hS : g' ∈ S ∨ w.heap.size ≤ g') (hbg : base ≤ g')
    (hE : ∀ (i : Nat) (e : LS), is[i]? = some e → e.g = g' → cs'.length = e.cap ∧ mI i e cs') (hL : ∀ (i : Nat) (l : LS), ks[i]? = some l → l.g ≠ g') : QSt S w w2 base es is ls v9 ks v10 := by
  have ty := other_ty hc
  have kp : ∀ E : List Nat, 3 ∉ E → Keeps base E wr w2 := fun E hn => Keeps.of_grown hgr (fun k hk => by
    injection hk with hk; subst hk
    exact ⟨hbg, fun cells q hq hh => ty q _ cells (fun e => hn (e ▸ hq)) hh rfl⟩)
  have keep : ∀ (b t' : Nat) (cs : List Value), t' ≠ 3 → Blk wr b t' cs → w2.heap[b]? = wr.heap[b]? := fun b t' cs ht hb' => hgr.block b hb'.lt (fun e => by injection e with e; exact ty t' b _ ht hb' e)
  have own : ∀ (L : List LS) (X : Nat → LS → List Value → Prop), (∀ (i : Nat) (l : LS), L[i]? = some l → l.g ≠ g') → LM 3 wr L X → LM 3 w2 L X := fun L X hn hl => hl.keep (fun i l hi => by
    obtain ⟨cs, hb', _, _⟩ := hl i l hi
    exact hgr.block _ hb'.lt (fun e => by injection e with e; exact hn i l hi e))
  have oth : ∀ (L : List LS) (X : Nat → LS → List Value → Prop), LM 47 wr L X → LM 47 w2 L X := fun L X hl => hl.keep (fun i l hi => by
    obtain ⟨cs, hb', _, _⟩ := hl i l hi
    exact keep _ _ _ (by decide) hb')
  have upd : LM 3 w2 is mI := fun i e he => by
    obtain ⟨cs, hb', h1, h2⟩ := h.M.I i e he
    by_cases hg : e.g = g'
    · obtain ⟨h3, h4⟩ := hE i e he hg
      exact ⟨cs', hg ▸ hb, h3, h4⟩
    · exact ⟨cs, (hgr.block _ hb'.lt (fun e0 => by injection e0 with e0; exact hg e0)).trans hb', h1, h2⟩
  exact ⟨⟨h.M.O.grown hgr hS, oth _ _ h.M.E, upd⟩, h.o9.keep (kp [22] (by decide)) (by simp) (by intro q hq; cases hq), h.o10.keep (kp [40] (by decide)) (by simp) (by intro q hq; cases hq),
    oth _ _ h.L, own _ _ hL h.K, h.rl, h.rk, h.dl, h.dk⟩
end
section
variable {S : List Nat} {w wr w2 : World} {base : Nat} {es is ls ks : List LS} {v9 v10 v1 : Value} {x e : LS}
theorem QSt.pushE (h : QSt S w wr base es is ls v9 ks v10) (hbase : base ≤ w.heap.size) (hO : hdRd.Own 22 w2 w.heap.size base v1 (ls ++ [x])) (hg : wr.grownBy w2 v9.ownBlock)
    (hx : ∃ cs, Blk wr x.g 47 cs ∧ cs.length = x.cap ∧ lgE ls.length x cs) (he : es[ls.length]? = some e) (hr : x.n = e.n + 9 ∧ (x.g = e.g ∨ w.heap.size ≤ x.g)) (hd : ∀ (i : Nat) (l : LS), ls[i]? = some l → l.g ≠ x.g) : QSt S w w2 base es is (ls ++ [x]) v1 ks v10 := by
  have kp : ∀ E : List Nat, 22 ∉ E → Keeps base E wr w2 := fun E hn => h.o9.keeps hg hbase hn
  have keep : ∀ (b t' : Nat) (cs : List Value), t' ≠ 22 → Blk wr b t' cs → w2.heap[b]? = wr.heap[b]? := fun b t' cs ht hb' => hg.block b hb'.lt (hb'.ne_ownd h.o9 ht)
  have oth : ∀ (t' : Nat) (L : List LS) (X : Nat → LS → List Value → Prop), t' ≠ 22 → LM t' wr L X → LM t' w2 L X := fun t' L X ht hl => hl.keep (fun i l hi => by
    obtain ⟨cs, hb', _, _⟩ := hl i l hi
    exact keep _ _ _ ht hb')
  have hx2 : ∃ cs, Blk w2 x.g 47 cs ∧ cs.length = x.cap ∧ lgE ls.length x cs := by
    obtain ⟨cs, hb', h1, h2⟩ := hx
    exact ⟨cs, (keep _ _ _ (by decide) hb').trans hb', h1, h2⟩
  exact ⟨⟨h.M.O.grownOpt hg (fun k hk => (h.o9.blk k hk).1), oth _ _ _ (by decide) h.M.E, oth _ _ _ (by decide) h.M.I⟩, hO, h.o10.keep (kp [40] (by decide)) (by simp) (by intro q hq; cases hq),
    (oth _ _ _ (by decide) h.L).push hx2, oth _ _ _ (by decide) h.K, h.rl.push he hr, h.rk, h.dl.push hd, h.dk⟩
end
section
variable {S : List Nat} {w wr w2 : World} {base : Nat} {es is ls ks : List LS} {v9 v10 v1 : Value} {x e : LS}
theorem QSt.pushI (h : QSt S w wr base es is ls v9 ks v10) (hbase : base ≤ w.heap.size) (hO : hdRd.Own 40 w2 w.heap.size base v1 (ks ++ [x])) (hg : wr.grownBy w2 v10.ownBlock)
    (hx : ∃ cs, Blk wr x.g 3 cs ∧ cs.length = x.cap ∧ lgK ks.length x cs) (he : is[ks.length]? = some e) (hr : x.n = e.n + 9 ∧ (x.g = e.g ∨ w.heap.size ≤ x.g)) (hd : ∀ (i : Nat) (l : LS), ks[i]? = some l → l.g ≠ x.g) : QSt S w w2 base es is ls v9 (ks ++ [x]) v1 := by
  have kp : ∀ E : List Nat, 40 ∉ E → Keeps base E wr w2 := fun E hn => h.o10.keeps hg hbase hn
  have keep : ∀ (b t' : Nat) (cs : List Value), t' ≠ 40 → Blk wr b t' cs → w2.heap[b]? = wr.heap[b]? := fun b t' cs ht hb' => hg.block b hb'.lt (hb'.ne_ownd h.o10 ht)
  have oth : ∀ (t' : Nat) (L : List LS) (X : Nat → LS → List Value → Prop), t' ≠ 40 → LM t' wr L X → LM t' w2 L X := fun t' L X ht hl => hl.keep (fun i l hi => by
    obtain ⟨cs, hb', _, _⟩ := hl i l hi
    exact keep _ _ _ ht hb')
  have hx2 : ∃ cs, Blk w2 x.g 3 cs ∧ cs.length = x.cap ∧ lgK ks.length x cs := by
    obtain ⟨cs, hb', h1, h2⟩ := hx
    exact ⟨cs, (keep _ _ _ (by decide) hb').trans hb', h1, h2⟩
  exact ⟨⟨h.M.O.grownOpt hg (fun k hk => (h.o10.blk k hk).1), oth _ _ _ (by decide) h.M.E, oth _ _ _ (by decide) h.M.I⟩, h.o9.keep (kp [22] (by decide)) (by simp) (by intro q hq; cases hq), hO,
    oth _ _ _ (by decide) h.L, (oth _ _ _ (by decide) h.K).push hx2, h.rl, h.rk.push he hr, h.dl, h.dk.push hd⟩
end
end Go.Proofs.YtcfejobdgiiihaaGreatDoor

namespace Go.Proofs.YtcfejobdgiiihaaGreatDoor
open Go.RowKit

theorem UI1x : Tryz.prog.underlying 40 = some (.slice 3) := by kernel_rfl
theorem II1x : (Tryz.prog.info? 3).map (fun i => (i.zero, i.size, i.bytes)) = some (some (.int .i64 0), 1, 8) := by kernel_rfl
theorem UI2x : Tryz.prog.underlying 83 = some (.slice 40) := by kernel_rfl
theorem II2x : (Tryz.prog.info? 40).map (fun i => (i.zero, i.size, i.bytes)) = some (some (.slice none 0 0), 1, 24) := by kernel_rfl
/-- the list that is being lengthened: in its old block or in a new one -/
structure HSt (w wr : World) (t g hh : Nat) (cs : List Value) (ls : List LS) (m : Nat) (xs : List Value) : Prop where
  b : Blk wr hh t cs
  le : m ≤ cs.length
  tk : cs.take m = xs
  or : hh = g ∨ w.heap.size ≤ hh
  no : ∀ (i : Nat) (l : LS), ls[i]? = some l → l.g ≠ hh
theorem MFix.lt {S : List Nat} {w : World} {base : Nat} {es is : List LS} (hx : MFix S w base es is) {g : Nat} (h : g ∈ S) : g < w.heap.size := by
  obtain ⟨c, t, hh, _⟩ := hx.ty g h
  exact (Array.getElem?_eq_some_iff.1 hh).1
def lgP (k n j : Nat) : List Nat := mkS k n ++ (List.range j).map fun j => 1000 * k + j + 500000000
def lgQ (k n j : Nat) : List Int := mkI k n ++ (List.range j).map fun j => -(1000 * (k : Int) + (j : Nat) + 1)
theorem lgP_succ (k n j : Nat) : f64s (lgP k n (j + 1)) = f64s (lgP k n j) ++ [.float .f64 (1000 * k + j + 500000000)] := by
  simp [lgP, f64s, List.range_succ]
theorem lgQ_succ (k n j : Nat) : iInts (lgQ k n (j + 1)) = iInts (lgQ k n j) ++ [.int .i64 (-(1000 * (k : Int) + (j : Nat) + 1))] := by
  simp [lgQ, iInts, List.range_succ]
theorem lgP_take (k n j : Nat) : (f64s (lgP k n j)).take n = f64s (mkS k n) := by
  have : (f64s (mkS k n)).length = n := by simp [f64s, mkS]
  rw [lgP, f64s, List.map_append]
  exact List.take_left' this
theorem lgQ_take (k n j : Nat) : (iInts (lgQ k n j)).take n = iInts (mkI k n) := by
  have : (iInts (mkI k n)).length = n := by simp [iInts, mkI]
  rw [lgQ, iInts, List.map_append]
  exact List.take_left' this
section
variable {S : List Nat} {w wr w2 : World} {base g' : Nat} {es is ls ks : List LS} {v9 v10 : Value} {cs' : List Value}
theorem QSt.stepE (h : QSt S w wr base es is ls v9 ks v10) (hx : MFix S w base es is) (hbase : base ≤ w.heap.size) {k hh m : Nat} {e : LS} {cs xs : List Value} {x : Value} (hk : es[k]? = some e) (hs : HSt w wr 47 e.g hh cs ls m xs) (hm : e.n ≤ m) (hxs : xs.take e.n = f64s (mkS k e.n))
    (hg : (g' = hh ∧ cs'.length = cs.length) ∨ wr.heap.size ≤ g') (hb : Blk w2 g' 47 cs') (ht : cs'.take (m + 1) = cs.take m ++ [x]) (hl : m + 1 ≤ cs'.length) (hgr : wr.grownBy w2 (some g')) :
    QSt S w w2 base es is ls v9 ks v10 ∧ HSt w w2 47 e.g g' cs' ls (m + 1) (xs ++ [x]) := by
  obtain ⟨s1, s2, s3, _⟩ := hx.se k e hk
  have hsz := h.M.O.size
  have hlt := hx.lt s1
  have hno : ∀ (i : Nat) (l : LS), ls[i]? = some l → l.g ≠ g' := fun i l hi => by
    rcases hg with ⟨h0, _⟩ | hg
    · rw [h0]; exact hs.no i l hi
    · obtain ⟨c, hb', _⟩ := h.L i l hi
      have := hb'.lt
      omega
  have hor : g' = e.g ∨ w.heap.size ≤ g' := by
    rcases hg with ⟨h0, _⟩ | hg
    · rw [h0]; exact hs.or
    · right; omega
  have hlen : xs.length = m := by rw [← hs.tk, List.length_take]; have := hs.le; omega
  refine ⟨h.growE hgr hb (hg.imp (fun (h0 : g' = hh ∧ cs'.length = cs.length) => ⟨cs, by rw [h0.1]; exact hs.b⟩) id) ?_ ?_ ?_ hno, ⟨hb, hl, by rw [ht, hs.tk], hor, hno⟩⟩
  · rcases hor with h0 | h0
    · left; rw [h0]; exact s1
    · right; exact h0
  · rcases hor with h0 | h0
    · rw [h0]; exact s2
    · omega
  · intro i e' he' hge
    have h1 := hx.lt (hx.se i e' he').1
    rcases hg with ⟨h0, hcl⟩ | hg
    · rcases hs.or with h2 | h2
      · have hik : i = k := hx.de i k e' e he' hk (by rw [hge, h0, h2])
        subst hik
        obtain rfl : e' = e := Option.some.inj (he'.symm.trans hk)
        obtain ⟨c0, hb0, hc0, _⟩ := h.M.E i e' hk
        have hcc : c0 = cs := by
          have hb1 : Blk wr e'.g 47 cs := h2 ▸ hs.b
          have := (show wr.heap[e'.g]? = _ from hb0).symm.trans hb1
          simpa using this
        subst hcc
        refine ⟨hcl.trans hc0, ?_⟩
        have h3 := congrArg (List.take e'.n) ht
        rw [List.take_take, Nat.min_eq_left (by omega), hs.tk, List.take_append_of_le_length (by omega), hxs] at h3
        exact h3
      · omega
    · omega
end
section
variable {S : List Nat} {w wr w2 : World} {base g' : Nat} {es is ls ks : List LS} {v9 v10 : Value} {cs' : List Value}
theorem QSt.stepI (h : QSt S w wr base es is ls v9 ks v10) (hx : MFix S w base es is) (hbase : base ≤ w.heap.size) {k hh m : Nat} {e : LS} {cs xs : List Value} {x : Value} (hk : is[k]? = some e) (hs : HSt w wr 3 e.g hh cs ks m xs) (hm : e.n ≤ m) (hxs : xs.take e.n = iInts (mkI k e.n))
    (hg : (g' = hh ∧ cs'.length = cs.length) ∨ wr.heap.size ≤ g') (hb : Blk w2 g' 3 cs') (ht : cs'.take (m + 1) = cs.take m ++ [x]) (hl : m + 1 ≤ cs'.length) (hgr : wr.grownBy w2 (some g')) :
    QSt S w w2 base es is ls v9 ks v10 ∧ HSt w w2 3 e.g g' cs' ks (m + 1) (xs ++ [x]) := by
  obtain ⟨s1, s2, s3, _⟩ := hx.si k e hk
  have hsz := h.M.O.size
  have hlt := hx.lt s1
  have hno : ∀ (i : Nat) (l : LS), ks[i]? = some l → l.g ≠ g' := fun i l hi => by
    rcases hg with ⟨h0, _⟩ | hg
    · rw [h0]; exact hs.no i l hi
    · obtain ⟨c, hb', _⟩ := h.K i l hi
      have := hb'.lt
      omega
  have hor : g' = e.g ∨ w.heap.size ≤ g' := by
    rcases hg with ⟨h0, _⟩ | hg
    · rw [h0]; exact hs.or
    · right; omega
  have hlen : xs.length = m := by rw [← hs.tk, List.length_take]; have := hs.le; omega
  refine ⟨h.growI hgr hb (hg.imp (fun (h0 : g' = hh ∧ cs'.length = cs.length) => ⟨cs, by rw [h0.1]; exact hs.b⟩) id) ?_ ?_ ?_ hno, ⟨hb, hl, by rw [ht, hs.tk], hor, hno⟩⟩
  · rcases hor with h0 | h0
    · left; rw [h0]; exact s1
    · right; exact h0
  · rcases hor with h0 | h0
    · rw [h0]; exact s2
    · omega
  · intro i e' he' hge
    have h1 := hx.lt (hx.si i e' he').1
    rcases hg with ⟨h0, hcl⟩ | hg
    · rcases hs.or with h2 | h2
      · have hik : i = k := hx.di i k e' e he' hk (by rw [hge, h0, h2])
        subst hik
        obtain rfl : e' = e := Option.some.inj (he'.symm.trans hk)
        obtain ⟨c0, hb0, hc0, _⟩ := h.M.I i e' hk
        have hcc : c0 = cs := by
          have hb1 : Blk wr e'.g 3 cs := h2 ▸ hs.b
          have := (show wr.heap[e'.g]? = _ from hb0).symm.trans hb1
          simpa using this
        subst hcc
        refine ⟨hcl.trans hc0, ?_⟩
        have h3 := congrArg (List.take e'.n) ht
        rw [List.take_take, Nat.min_eq_left (by omega), hs.tk, List.take_append_of_le_length (by omega), hxs] at h3
        exact h3
      · omega
    · omega
end
section
variable {S : List Nat} {w wr : World} {base : Nat} {es is ls ks : List LS} {v9 v10 : Value}
theorem QSt.freshE (h : QSt S w wr base es is ls v9 ks v10) (hx : MFix S w base es is) {e : LS} (hk : es[ls.length]? = some e) : ∀ (i : Nat) (l : LS), ls[i]? = some l → l.g ≠ e.g := by
  intro i l hi h0
  have hil := (List.getElem?_eq_some_iff.1 hi).1
  have hkl := (List.getElem?_eq_some_iff.1 hk).1
  obtain ⟨e', he'⟩ : ∃ e', es[i]? = some e' := ⟨_, List.getElem?_eq_getElem (by omega)⟩
  rcases (h.rl i l e' hi he').2 with h1 | h1
  · have := hx.de i _ e' e he' hk (by rw [← h1, h0])
    omega
  · have := hx.lt (hx.se _ e hk).1
    omega
theorem QSt.startE (h : QSt S w wr base es is ls v9 ks v10) (hx : MFix S w base es is) {e : LS} (hk : es[ls.length]? = some e) : ∃ cs, cs.length = e.cap ∧ HSt w wr 47 e.g e.g cs ls (e.n + 0) (f64s (lgP ls.length e.n 0)) := by
  obtain ⟨cs, hb, hl, hm⟩ := h.M.E _ e hk
  obtain ⟨_, _, s3, _⟩ := hx.se _ e hk
  exact ⟨cs, hl, ⟨hb, by omega, by simpa [lgP] using hm, .inl rfl, h.freshE hx hk⟩⟩
end
section
variable {S : List Nat} {w wr : World} {base : Nat} {es is ls ks : List LS} {v9 v10 : Value}
theorem QSt.freshI (h : QSt S w wr base es is ls v9 ks v10) (hx : MFix S w base es is) {e : LS} (hk : is[ks.length]? = some e) : ∀ (i : Nat) (l : LS), ks[i]? = some l → l.g ≠ e.g := by
  intro i l hi h0
  have hil := (List.getElem?_eq_some_iff.1 hi).1
  have hkl := (List.getElem?_eq_some_iff.1 hk).1
  obtain ⟨e', he'⟩ : ∃ e', is[i]? = some e' := ⟨_, List.getElem?_eq_getElem (by omega)⟩
  rcases (h.rk i l e' hi he').2 with h1 | h1
  · have := hx.di i _ e' e he' hk (by rw [← h1, h0])
    omega
  · have := hx.lt (hx.si _ e hk).1
    omega
theorem QSt.startI (h : QSt S w wr base es is ls v9 ks v10) (hx : MFix S w base es is) {e : LS} (hk : is[ks.length]? = some e) : ∃ cs, cs.length = e.cap ∧ HSt w wr 3 e.g e.g cs ks (e.n + 0) (iInts (lgQ ks.length e.n 0)) := by
  obtain ⟨cs, hb, hl, hm⟩ := h.M.I _ e hk
  obtain ⟨_, _, s3, _⟩ := hx.si _ e hk
  exact ⟨cs, hl, ⟨hb, by omega, by simpa [lgQ] using hm, .inl rfl, h.freshI hx hk⟩⟩
end

/-- headers and their blocks, read as lists in a list -/
theorem hd_rows {α : Type} (enc : α → Value) (P : α → Prop) (h1 : ∀ x, (enc x).oneCell' = true) {T t : Nat} {w : World} {base : Nat} {A : Option Addr} {es : List LS} (X : List (List α)) (hlen : X.length = es.length) (h : hdRd.Row T w base A es)
    (hX : ∀ (i : Nat) (e : LS) (xs : List α), es[i]? = some e → X[i]? = some xs → ∃ cs, Blk w e.g t cs ∧ cs.length = e.cap ∧ e.n ≤ e.cap ∧ e.n ≤ 17592186044416 ∧ xs.length = e.n ∧ cs.take e.n = xs.map enc ∧ ∀ x, x ∈ xs → P x) : (bsl t (Rd.scalar enc P h1)).Row T w base A X := by
  intro i xs hi
  have hil := (List.getElem?_eq_some_iff.1 hi).1
  obtain ⟨e, he⟩ : ∃ e, es[i]? = some e := ⟨_, List.getElem?_eq_getElem (by omega)⟩
  obtain ⟨a, cs0, ha, hok, hlt, hr, hc⟩ := h i e he
  obtain ⟨cs, hb, hcl, hn, hb2, hxl, htk, hP⟩ := hX i e xs he hi
  obtain ⟨rfl, _⟩ := hr
  refine ⟨a, [.slice (some ⟨e.g, 0, none⟩) xs.length e.cap], ha, hok, hlt, ⟨⟨some ⟨e.g, 0, none⟩, e.cap, rfl, by rw [id_eq]; omega, ?_⟩, by omega⟩, ?_⟩
  · intro j x hj
    have hjl := (List.getElem?_eq_some_iff.1 hj).1
    refine ⟨⟨e.g, 0, none⟩, [enc x], rfl, .inr ⟨_, hb⟩, hb.lt, ⟨rfl, hP x (List.mem_of_getElem? hj)⟩, ?_⟩
    intro q u hq
    cases q with
    | succ q => simp at hq
    | zero =>
      simp at hq
      subst hq
      have h2 := congrArg (fun l => l[j]?) htk
      simp only [List.getElem?_take, List.getElem?_map, hj, Option.map_some] at h2
      rw [if_pos (by simp only [id_eq] at hjl; omega)] at h2
      have h3 := hb.cell j
      rw [h2] at h3
      show w.cell? (Addr.add ⟨e.g, 0, none⟩ (j * 1 + 0)) = some (enc x)
      rw [show Addr.add ⟨e.g, 0, none⟩ (j * 1 + 0) = ⟨e.g, j, none⟩ from by by_cases hj0 : j = 0 <;> simp [Addr.add, hj0]]
      have hj2 : xs[j]? = some x := hj
      simpa [hj2] using h3
  · rw [hxl]
    exact hc
theorem own_row {α : Type} {d : Rd α} {t : Nat} {w : World} {b0 base n c : Nat} {A : Option Addr} {xs : List α} (h : d.Own t w b0 base (.slice A n c) xs) : d.Row t w base A xs := by
  obtain ⟨A', c', hv, _, hr⟩ := h.row
  injection hv with h1 _ _
  subst h1
  exact hr
theorem es_lens {es : List LS} {i : Nat} {e : LS} (h : es[i]? = some e) : (es.map (·.n)).getD i 0 = e.n := by rw [List.getD_eq_getElem?_getD, List.getElem?_map, h]; rfl

theorem MFix.lensE {S : List Nat} {w : World} {base : Nat} {es is : List LS} (hx : MFix S w base es is) (i : Nat) : (es.map (·.n)).getD i 0 ≤ 1000000 := by
  rcases Nat.lt_or_ge i es.length with h | h
  · have he : es[i]? = some es[i] := List.getElem?_eq_getElem h
    rw [es_lens he]
    exact (hx.se i _ he).2.2.2.1
  · rw [List.getD_eq_getElem?_getD, List.getElem?_eq_none (by rw [List.length_map]; exact h)]
    exact Nat.zero_le _
theorem mksL_get {l : List Nat} {i : Nat} {xs : List Nat} (h : (mksL l)[i]? = some xs) : xs = mkS i (l.getD i 0) := by
  have hi : i < l.length := by have := (List.getElem?_eq_some_iff.1 h).1; rwa [mksL_len] at this
  have h2 := mksL_at hi
  rw [List.getD_eq_getElem?_getD, h] at h2
  exact h2
theorem lgsL_get {l : List Nat} {i : Nat} {xs : List Nat} (h : (lgsL l)[i]? = some xs) : xs = lgS i (l.getD i 0) := by
  have hi : i < l.length := by have := (List.getElem?_eq_some_iff.1 h).1; rwa [lgsL_len] at this
  have h2 := lgsL_at hi
  rw [List.getD_eq_getElem?_getD, h] at h2
  exact h2
theorem QSt.rowE {S : List Nat} {w wr : World} {base : Nat} {es is ls ks : List LS} {v9 v10 : Value} {A : Option Addr} (h : QSt S w wr base es is ls v9 ks v10) (hx : MFix S w base es is) (hn : es.length ≤ 1000) (hA : hdRd.Row 22 wr base A es) : (bsl 47 f64).Row 22 wr base A (mksL (es.map (·.n))) := by
  refine hd_rows _ _ _ _ (by rw [mksL_len, List.length_map]) hA ?_
  intro i e xs he hxs
  have hi := (List.getElem?_eq_some_iff.1 he).1
  obtain ⟨_, _, h3, h4, h5⟩ := hx.se i e he
  obtain ⟨cs, hb, hc, hm⟩ := h.M.E i e he
  have hxe := mksL_get hxs
  rw [es_lens he] at hxe
  subst hxe
  refine ⟨cs, hb, hc, h3, by omega, mkS_len _ _, hm, fun x hx => ?_⟩
  simp only [mkS, List.mem_map, List.mem_range] at hx
  obtain ⟨j, hj, rfl⟩ := hx
  omega
theorem QSt.longE {S : List Nat} {w wr : World} {base b2 : Nat} {es is ls ks : List LS} {v9 v10 : Value} {A : Option Addr} (h : QSt S w wr base es is ls v9 ks v10) (hx : MFix S w base es is) (hn : es.length ≤ 1000) (hl : ls.length = es.length) (hA : hdRd.Row 22 wr b2 A ls) : (bsl 47 f64).Row 22 wr b2 A (lgsL (es.map (·.n))) := by
  refine hd_rows _ _ _ _ (by rw [lgsL_len, List.length_map, hl]) hA ?_
  intro i l xs he hxs
  have hi := (List.getElem?_eq_some_iff.1 he).1
  obtain ⟨e, he'⟩ : ∃ e, es[i]? = some e := ⟨_, List.getElem?_eq_getElem (by omega)⟩
  obtain ⟨_, _, h3, h4, h5⟩ := hx.se i e he'
  obtain ⟨cs, hb, hc, hm⟩ := h.L i l he
  have hrl := (h.rl i l e he he').1
  have hxe := lgsL_get hxs
  rw [es_lens he'] at hxe
  subst hxe
  have hm2 : cs.take l.n = f64s (lgS i e.n) := by
    have e9 : l.n - 9 = e.n := by omega
    have h6 : cs.take l.n = f64s (lgS i (l.n - 9)) := hm
    rwa [e9] at h6
  have hll : (cs.take l.n).length = l.n := by rw [hm2, f64s, List.length_map, lgS_len, hrl]
  rw [List.length_take] at hll
  refine ⟨cs, hb, hc, by omega, by omega, by rw [lgS_len, hrl], hm2, fun x hx => ?_⟩
  simp only [lgS, mkS, List.mem_append, List.mem_map, List.mem_range] at hx
  rcases hx with ⟨j, hj, rfl⟩ | ⟨j, hj, rfl⟩ <;> omega

theorem MFix.lensI {S : List Nat} {w : World} {base : Nat} {es is : List LS} (hx : MFix S w base es is) (i : Nat) : (is.map (·.n)).getD i 0 ≤ 1000000 := by
  rcases Nat.lt_or_ge i is.length with h | h
  · have he : is[i]? = some is[i] := List.getElem?_eq_getElem h
    rw [es_lens he]
    exact (hx.si i _ he).2.2.2.1
  · rw [List.getD_eq_getElem?_getD, List.getElem?_eq_none (by rw [List.length_map]; exact h)]
    exact Nat.zero_le _
theorem mkIL_get {l : List Nat} {i : Nat} {xs : List Int} (h : (mkIL l)[i]? = some xs) : xs = mkI i (l.getD i 0) := by
  have hi : i < l.length := by have := (List.getElem?_eq_some_iff.1 h).1; rwa [mkIL_len] at this
  have h2 := mkIL_at hi
  rw [List.getD_eq_getElem?_getD, h] at h2
  exact h2
theorem lgIL_get {l : List Nat} {i : Nat} {xs : List Int} (h : (lgIL l)[i]? = some xs) : xs = lgI i (l.getD i 0) := by
  have hi : i < l.length := by have := (List.getElem?_eq_some_iff.1 h).1; rwa [lgIL_len] at this
  have h2 := lgIL_at hi
  rw [List.getD_eq_getElem?_getD, h] at h2
  exact h2
theorem QSt.rowI {S : List Nat} {w wr : World} {base : Nat} {es is ls ks : List LS} {v9 v10 : Value} {A : Option Addr} (h : QSt S w wr base es is ls v9 ks v10) (hx : MFix S w base es is) (hn : is.length ≤ 1000) (hA : hdRd.Row 40 wr base A is) : (bsl 3 i64).Row 40 wr base A (mkIL (is.map (·.n))) := by
  refine hd_rows _ _ _ _ (by rw [mkIL_len, List.length_map]) hA ?_
  intro i e xs he hxs
  have hi := (List.getElem?_eq_some_iff.1 he).1
  obtain ⟨_, _, h3, h4, h5⟩ := hx.si i e he
  obtain ⟨cs, hb, hc, hm⟩ := h.M.I i e he
  have hxe := mkIL_get hxs
  rw [es_lens he] at hxe
  subst hxe
  refine ⟨cs, hb, hc, h3, by omega, mkI_len _ _, hm, fun x hx => ?_⟩
  simp only [mkI, List.mem_map, List.mem_range] at hx
  obtain ⟨j, hj, rfl⟩ := hx
  omega
theorem QSt.longI {S : List Nat} {w wr : World} {base b2 : Nat} {es is ls ks : List LS} {v9 v10 : Value} {A : Option Addr} (h : QSt S w wr base es is ls v9 ks v10) (hx : MFix S w base es is) (hn : is.length ≤ 1000) (hl : ks.length = is.length) (hA : hdRd.Row 40 wr b2 A ks) : (bsl 3 i64).Row 40 wr b2 A (lgIL (is.map (·.n))) := by
  refine hd_rows _ _ _ _ (by rw [lgIL_len, List.length_map, hl]) hA ?_
  intro i l xs he hxs
  have hi := (List.getElem?_eq_some_iff.1 he).1
  obtain ⟨e, he'⟩ : ∃ e, is[i]? = some e := ⟨_, List.getElem?_eq_getElem (by omega)⟩
  obtain ⟨_, _, h3, h4, h5⟩ := hx.si i e he'
  obtain ⟨cs, hb, hc, hm⟩ := h.K i l he
  have hrl := (h.rk i l e he he').1
  have hxe := lgIL_get hxs
  rw [es_lens he'] at hxe
  subst hxe
  have hm2 : cs.take l.n = iInts (lgI i e.n) := by
    have e9 : l.n - 9 = e.n := by omega
    have h6 : cs.take l.n = iInts (lgI i (l.n - 9)) := hm
    rwa [e9] at h6
  have hll : (cs.take l.n).length = l.n := by rw [hm2, iInts, List.length_map, lgI_len, hrl]
  rw [List.length_take] at hll
  refine ⟨cs, hb, hc, by omega, by omega, by rw [lgI_len, hrl], hm2, fun x hx => ?_⟩
  simp only [lgI, mkI, List.mem_append, List.mem_map, List.mem_range] at hx
  rcases hx with ⟨j, hj, rfl⟩ | ⟨j, hj, rfl⟩ <;> omega
end Go.Proofs.YtcfejobdgiiihaaGreatDoor

namespace Go.Proofs.YtcfejobdgiiihaaGreatDoor
open Go.RowKit
attribute [local go_sem ↓] Go.wp_at_zero Go.wp_at_succ

set_option maxHeartbeats 8000000 in
set_option maxRecDepth 100000 in
theorem marked_calls (A B : Option Addr) (es is : List LS) (n m cA cB base : Nat) (S : List Nat) (w : World) (hn : es.length = n) (hm : is.length = m) (hA : hdRd.Row 22 w base A es) (hB : hdRd.Row 40 w base B is) (hS : MSt S w w es is nE nE) (hx : MFix S w base es is) (hSb : ∀ g, g ∈ S → base ≤ g) (hbase : base ≤ w.heap.size) (hnb : n ≤ 1000) (hmb : m ≤ 1000) :
    Calls Tryz.prog 36 #[.slice A n cA, .slice B m cB] w fun e w' => e = .returned (.bool true) ∧ OnlyIn S w w' := by
  subst hn hm
  have HX := Lib.hid hx
  have HS := Lib.hid hS
  have HAA := Lib.hid (fun wr (h : OnlyIn S w wr) => hd_only hx hA (by decide) h hSb)
  have HBB := Lib.hid (fun wr (h : OnlyIn S w wr) => hd_only hx hB (by decide) h hSb)
  clear hx hS hA hB
  go_enter Tryz.func36, Tryz.ntmps36
  go_wp2
  go_loopw [5, 6] (fun i _ wr => ∃ k : Nat, k ≤ es.length ∧ i = .int .i64 k ∧ Hid (MSt S w wr es is (fun i e cs => i < k → mE i e cs) nE)) (fun i _ _ => es.length - (intOf i).toNat)
  case atStart => exact ⟨0, by omega, rfl, HS.out.mono (fun i e cs _ _ h => absurd h (by omega)) (fun _ _ _ _ h => h)⟩
  case round =>
    obtain ⟨k, hk, rfl, hS⟩ := hrel
    by_cases hlt : k < es.length
    · obtain ⟨e, he⟩ : ∃ e, es[k]? = some e := ⟨_, List.getElem?_eq_getElem hlt⟩
      obtain ⟨pa, hA, _⟩ := hdAt (HAA.out _ hS.out.O) he
      subst hA
      have HE := Lib.hid he
      obtain ⟨_, _, hcap, hen, hcapb⟩ := HX.out.se k e he
      obtain ⟨g, en, ec⟩ := e
      simp only at hcap hen hcapb
      have hi1 : (k : Int) < (es.length : Int) := by omega
      have hi0 : (0 : Int) ≤ (k : Int) := by omega
      clear he
      go_wp2
      go_loopw [6] (fun jv wr => ∃ j : Nat, j ≤ en ∧ jv = .int .i64 j ∧ Hid (MSt S w wr es is (fun i e cs => (i < k → mE i e cs) ∧ (i = k → cs.take j = f64s (mkS k j))) nE)) (fun jv _ => en - (intOf jv).toNat)
      case atStart => exact ⟨0, by omega, rfl, hS.out.mono (fun i e cs _ h => ⟨h, fun _ => by simp [mkS, f64s]⟩) (fun _ _ _ _ h => h)⟩
      case round =>
        obtain ⟨j, hj, rfl, hT⟩ := hrel
        obtain ⟨pa', hpa, hca⟩ := hdAt (HAA.out _ hT.out.O) HE.out
        cases hpa
        simp only at hca
        by_cases hjl : j < en
        · obtain ⟨cs, hb, hcl, hf⟩ := hT.out.E k _ HE.out
          simp only at hb hcl
          have hj1 : (j : Int) < (en : Int) := by omega
          have hj0 : (0 : Int) ≤ (j : Int) := by omega
          have wA : IntKind.i64.wrap (1000 * (k : Int)) = 1000 * (k : Int) := IntWalk.i64_in _ (by omega)
          have wB : IntKind.i64.wrap (1000 * (k : Int) + (j : Int)) = 1000 * (k : Int) + (j : Int) := IntWalk.i64_in _ (by omega)
          have wC : IntKind.u64.wrap (1000 * (k : Int) + (j : Int)) = 1000 * (k : Int) + (j : Int) := by simp [IntKind.wrap, IntKind.bits, IntKind.signed]; omega
          have hc0 := hb.cell j
          obtain ⟨x0, hx0⟩ : ∃ x, cs[j]? = some x := ⟨_, List.getElem?_eq_getElem (by omega)⟩
          rw [hx0] at hc0
          have hf0 := hb.frozen j
          have HF := Lib.hid (fun W => (show Calls Tryz.prog 72 #[.int .u64 (1000 * (k : Int) + (j : Int))] W (fun e w' => e = .returned (.float .f64 (1000 * k + j)) ∧ W = w') from by have := float_calls (1000 * k + j) W; simpa using this))
          have HCL := Lib.hid hcl
          clear hb hf hcl hx0
          go_wp2
          go_region_with (go_at_call 72; refine (HF.out _).mono ?_; rintro e w' ⟨rfl, rfl⟩)
          all_goals (
            go_wp2
            go_roundw
            case rel => exact ⟨j + 1, by omega, by go_num, hT.out.drew.setE HX.out HE.out j _ (fun i e' cs hik h => ⟨h.1, fun e => absurd e hik⟩) (fun cs hc h => ⟨fun h0 => absurd h0 (by omega), fun _ => by rw [take_set_mark (h.2 rfl) (by simp only at hc; omega), mkS_succ]⟩)⟩
            case measure => simp [intOf]; omega)
        · obtain rfl : en = j := by omega
          go_wp2
          go_roundw
          case rel => exact ⟨k + 1, by omega, by go_num, hT.out.mono (fun i e cs he h hik => by
            rcases Nat.lt_or_ge i k with h0 | h0
            · exact h.1 h0
            · obtain rfl : i = k := by omega
              have := he.symm.trans HE.out
              injection this with this
              subst this
              exact h.2 rfl) (fun _ _ _ _ h => h)⟩
          case measure => simp [intOf]; omega
    · obtain rfl : k = es.length := by omega
      have hS1 : Hid (MSt S w wr es is mE (fun i e cs => i < 0 → mI i e cs)) := hS.out.mono (fun i e cs he h => h (List.getElem?_eq_some_iff.1 he).1) (fun _ _ _ _ _ h => absurd h (by omega))
      go_wp2
      clear hlt
      go_loopw [7, 8] (fun i _ wr => ∃ k : Nat, k ≤ is.length ∧ i = .int .i64 k ∧ Hid (MSt S w wr es is mE (fun i e cs => i < k → mI i e cs))) (fun i _ _ => is.length - (intOf i).toNat)
      case atStart => exact ⟨0, by omega, rfl, hS1.out⟩
      case round =>
        obtain ⟨k, hk, rfl, hS⟩ := hrel
        by_cases hlt : k < is.length
        · obtain ⟨e, he⟩ : ∃ e, is[k]? = some e := ⟨_, List.getElem?_eq_getElem hlt⟩
          obtain ⟨pa, hA, _⟩ := hdAt (HBB.out _ hS.out.O) he
          subst hA
          have HE := Lib.hid he
          obtain ⟨_, _, hcap, hen, hcapb⟩ := HX.out.si k e he
          obtain ⟨g, en, ec⟩ := e
          simp only at hcap hen hcapb
          have hi1 : (k : Int) < (is.length : Int) := by omega
          have hi0 : (0 : Int) ≤ (k : Int) := by omega
          clear he
          go_wp2
          go_loopw [8] (fun jv wr => ∃ j : Nat, j ≤ en ∧ jv = .int .i64 j ∧ Hid (MSt S w wr es is mE (fun i e cs => (i < k → mI i e cs) ∧ (i = k → cs.take j = iInts (mkI k j))))) (fun jv _ => en - (intOf jv).toNat)
          case atStart => exact ⟨0, by omega, rfl, hS.out.mono (fun _ _ _ _ h => h) (fun i e cs _ h => ⟨h, fun _ => by simp [mkI, iInts]⟩)⟩
          case round =>
            obtain ⟨j, hj, rfl, hT⟩ := hrel
            obtain ⟨pa', hpa, hca⟩ := hdAt (HBB.out _ hT.out.O) HE.out
            cases hpa
            simp only at hca
            by_cases hjl : j < en
            · obtain ⟨cs, hb, hcl, hf⟩ := hT.out.I k _ HE.out
              simp only at hb hcl
              have hj1 : (j : Int) < (en : Int) := by omega
              have hj0 : (0 : Int) ≤ (j : Int) := by omega
              have hc0 := hb.cell j
              obtain ⟨x0, hx0⟩ : ∃ x, cs[j]? = some x := ⟨_, List.getElem?_eq_getElem (by omega)⟩
              rw [hx0] at hc0
              have hf0 := hb.frozen j
              clear hb hf hcl hx0
              go_wp2
              go_roundw
              case rel => exact ⟨j + 1, by omega, by go_num, hT.out.setI HX.out HE.out j _ (fun i e' cs hik h => ⟨h.1, fun e => absurd e hik⟩) (fun cs hc h => ⟨fun h0 => absurd h0 (by omega), fun _ => by rw [take_set_mark (h.2 rfl) (by simp only at hc; omega), mkI_succ]⟩)⟩
              case measure => simp [intOf]; omega
            · obtain rfl : en = j := by omega
              go_wp2
              go_roundw
              case rel => exact ⟨k + 1, by omega, by go_num, hT.out.mono (fun _ _ _ _ h => h) (fun i e cs he h hik => by
                rcases Nat.lt_or_ge i k with h0 | h0
                · exact h.1 h0
                · obtain rfl : i = k := by omega
                  have := he.symm.trans HE.out
                  injection this with this
                  subst this
                  exact h.2 rfl)⟩
              case measure => simp [intOf]; omega
        · obtain rfl : k = is.length := by omega
          have hS2 : Hid (MSt S w wr es is mE mI) := hS.out.mono (fun _ _ _ _ h => h) (fun i e cs he h => h (List.getElem?_eq_some_iff.1 he).1)
          go_wp2
          clear hlt
          go_loopw [9, 11, 12, 13] (fun v9 i _ _ wr => ∃ (k : Nat) (ls : List LS), k ≤ es.length ∧ ls.length = k ∧ i = .int .i64 k ∧ Hid (QSt S w wr base es is ls v9 [] (.slice none 0 0))) (fun _ i _ _ _ => es.length - (intOf i).toNat)
          case atStart => exact ⟨0, [], by omega, rfl, rfl, ⟨hS2.out, Rd.Own.nil _ _ _ _ _, Rd.Own.nil _ _ _ _ _, fun i e h => by simp at h, fun i e h => by simp at h, fun i l e h => by simp at h, fun i l e h => by simp at h, fun i j e e' h => by simp at h, fun i j e e' h => by simp at h⟩⟩
          case round =>
            obtain ⟨k, ls, hk, hls, rfl, hQ⟩ := hrel
            obtain ⟨vA, vc, rfl, hvc0, hvrow⟩ := hQ.out.o9.row
            subst hls
            by_cases hlt : ls.length < es.length
            · obtain ⟨e, he⟩ : ∃ e, es[ls.length]? = some e := ⟨_, List.getElem?_eq_getElem hlt⟩
              obtain ⟨pa, hA, hca⟩ := hdAt (HAA.out _ hQ.out.M.O) he
              subst hA
              have HE := Lib.hid he
              obtain ⟨_, _, hcap, hen, hcapb⟩ := HX.out.se _ e he
              obtain ⟨cs0, hcl0, hst0⟩ := hQ.out.startE HX.out he
              have HI0 : Hid (∃ cs, cs.length = e.cap ∧ QSt S w wr base es is ls (.slice vA ls.length vc) [] (.slice none 0 0) ∧ HSt w wr 47 e.g e.g cs ls (e.n + 0) (f64s (lgP ls.length e.n 0))) := ⟨cs0, hcl0, hQ.out, hst0⟩
              obtain ⟨g, en, ec⟩ := e
              simp only at hca hcap hen hcapb HI0
              obtain ⟨k, hke⟩ : ∃ k, ls.length = k := ⟨_, rfl⟩
              have hKE := Lib.hid hke
              rw [hke] at hlt hca HI0 ⊢
              have hi1 : (k : Int) < (es.length : Int) := by omega
              have hi0 : (0 : Int) ≤ (k : Int) := by omega
              clear he hst0 hcl0 hvc0 hvrow hke hQ
              go_wp2
              go_loopw [12, 13] (fun bv jv wr => ∃ (j hh hc : Nat), j ≤ 9 ∧ jv = .int .i64 j ∧ bv = .slice (some ⟨hh, 0, none⟩) (en + j) hc ∧ Hid (∃ cs, cs.length = hc ∧ QSt S w wr base es is ls (.slice vA k vc) [] (.slice none 0 0) ∧ HSt w wr 47 g hh cs ls (en + j) (f64s (lgP k en j)))) (fun _ jv _ => 9 - (intOf jv).toNat)
              case atStart => exact ⟨0, g, ec, by omega, rfl, rfl, HI0.out⟩
              case round =>
                obtain ⟨j, hh, hc, hj, rfl, rfl, hI⟩ := hrel
                obtain ⟨cs, hcl, hq, hs⟩ := hI.out
                have HQ := Lib.hid hq
                have HH := Lib.hid hs
                have hwsz := hq.M.O.size
                by_cases hjl : j < 9
                · have hj1 : (j : Int) < 9 := by omega
                  have hj0 : (0 : Int) ≤ (j : Int) := by omega
                  have HF := Lib.hid (fun W => (show Calls Tryz.prog 72 #[.int .u64 (1000 * (k : Int) + (j : Int) + 500000000)] W (fun e w' => e = .returned (.float .f64 (1000 * k + j + 500000000)) ∧ W = w') from by have := float_calls (1000 * k + j + 500000000) W; simpa using this))
                  have hb := Lib.hid hs.b
                  have hle : en + j ≤ hc := by rw [← hcl]; exact hs.le
                  have hcl2 := Lib.hid hcl
                  clear hq hs hcl hI
                  go_wp2_with fail
                  refine (HF.out _).mono ?_
                  rintro e w' ⟨rfl, rfl⟩
                  go_wp2_with (at_builtin; refine append_blk wr.heap.size rfl rfl _ _ 22 47 (.float .f64 0) 8 (by rfl) UF1 IF1 rfl hh (en + j) hc cs (.float .f64 (1000 * k + j + 500000000)) (by rfl) (by rfl) (by rfl) hb.out hcl2.out hle (by omega) (by omega) ?_; intro g' cs' w2 hg1 hg2 hg3 hg4 hg5; have HR := Lib.hid (HQ.out.stepE HX.out hbase HE.out HH.out (by simp only; omega) (by rw [hKE.out]; exact lgP_take _ _ _) hg1 hg2 hg3 hg4 hg5); clear hg1 hg2 hg3 hg4 hg5)
                  go_roundw
                  case rel => exact ⟨j + 1, g', cs'.length, by omega, by go_num, rfl, cs', rfl, HR.out.1, by have := HR.out.2; rw [lgP_succ]; exact this⟩
                  case measure => simp [intOf]; omega
                · obtain rfl : j = 9 := by omega
                  have hR : Hid (hdRd.R wr base ⟨hh, en + 9, hc⟩ [.slice (some ⟨hh, 0, none⟩) (en + 9) hc]) := ⟨rfl, trivial⟩
                  have hlen : (ls.length + 1) * 24 ≤ 140737488355328 := by rw [hKE.out]; omega
                  have hor := Lib.hid hs.or
                  have hno := Lib.hid hs.no
                  have hxx : Hid (∃ cs, Blk wr hh 47 cs ∧ cs.length = hc ∧ lgE ls.length ⟨hh, en + 9, hc⟩ cs) := ⟨cs, hs.b, hcl, by rw [hKE.out]; exact hs.tk⟩
                  clear hq hs hcl hI hjl
                  go_wp2_with (at_builtin; refine own_append' hdRd wr.heap.size w.heap.size base rfl rfl _ _ 23 22 (.slice none 0 0) 24 (by rfl) UF IF rfl (by decide) (by decide) _ ls ⟨hh, en + 9, hc⟩ [.slice (some ⟨hh, 0, none⟩) (en + 9) hc] (by rfl) (by rfl) hR.out (by decide) HQ.out.o9 hbase hwsz hlen ?_; intro v1 w1 hO1 hg1; have HR := Lib.hid (QSt.pushE HQ.out hbase hO1 hg1 hxx.out HE.out ⟨rfl, hor.out⟩ hno.out); clear hO1 hg1)
                  go_roundw
                  case rel => exact ⟨k + 1, ls ++ [⟨hh, en + 9, hc⟩], by omega, by rw [List.length_append, hKE.out]; rfl, by go_num, HR⟩
                  case measure => simp [intOf]; omega
            · have hlse : ls.length = es.length := by omega
              go_wp2
              clear hlt
              have hQL : Hid (QSt S w wr base es is ls (.slice vA ls.length vc) [] (.slice none 0 0)) := hQ
              have hLL := Lib.hid hlse
              clear hQ hlse hvc0 hvrow
              obtain ⟨LL, hLLe⟩ : ∃ LL, LL = ls := ⟨_, rfl⟩
              subst hLLe
              obtain ⟨VA, hVA⟩ : ∃ VA, VA = vA := ⟨_, rfl⟩
              subst hVA
              obtain ⟨VC, hVC⟩ : ∃ VC, VC = vc := ⟨_, rfl⟩
              subst hVC
              go_loopw [10, 14, 15, 16] (fun v10 i _ _ wr => ∃ (k : Nat) (ls : List LS), k ≤ is.length ∧ ls.length = k ∧ i = .int .i64 k ∧ Hid (QSt S w wr base es is LL (.slice VA LL.length VC) ls v10)) (fun _ i _ _ _ => is.length - (intOf i).toNat)
              case atStart => exact ⟨0, [], by omega, rfl, rfl, hQL.out⟩
              case round =>
                obtain ⟨k, ls, hk, hls, rfl, hQ⟩ := hrel
                obtain ⟨vA, vc, rfl, hvc0, hvrow⟩ := hQ.out.o10.row
                subst hls
                by_cases hlt : ls.length < is.length
                · obtain ⟨e, he⟩ : ∃ e, is[ls.length]? = some e := ⟨_, List.getElem?_eq_getElem hlt⟩
                  obtain ⟨pa, hA, hca⟩ := hdAt (HBB.out _ hQ.out.M.O) he
                  subst hA
                  have HE := Lib.hid he
                  obtain ⟨_, _, hcap, hen, hcapb⟩ := HX.out.si _ e he
                  obtain ⟨cs0, hcl0, hst0⟩ := hQ.out.startI HX.out he
                  have HI0 : Hid (∃ cs, cs.length = e.cap ∧ QSt S w wr base es is LL (.slice VA LL.length VC) ls (.slice vA ls.length vc) ∧ HSt w wr 3 e.g e.g cs ls (e.n + 0) (iInts (lgQ ls.length e.n 0))) := ⟨cs0, hcl0, hQ.out, hst0⟩
                  obtain ⟨g, en, ec⟩ := e
                  simp only at hca hcap hen hcapb HI0
                  obtain ⟨k, hke⟩ : ∃ k, ls.length = k := ⟨_, rfl⟩
                  have hKE := Lib.hid hke
                  rw [hke] at hlt hca HI0 ⊢
                  have hi1 : (k : Int) < (is.length : Int) := by omega
                  have hi0 : (0 : Int) ≤ (k : Int) := by omega
                  clear he hst0 hcl0 hvc0 hvrow hke hQ
                  go_wp2
                  go_loopw [15, 16] (fun bv jv wr => ∃ (j hh hc : Nat), j ≤ 9 ∧ jv = .int .i64 j ∧ bv = .slice (some ⟨hh, 0, none⟩) (en + j) hc ∧ Hid (∃ cs, cs.length = hc ∧ QSt S w wr base es is LL (.slice VA LL.length VC) ls (.slice vA k vc) ∧ HSt w wr 3 g hh cs ls (en + j) (iInts (lgQ k en j)))) (fun _ jv _ => 9 - (intOf jv).toNat)
                  case atStart => exact ⟨0, g, ec, by omega, rfl, rfl, HI0.out⟩
                  case round =>
                    obtain ⟨j, hh, hc, hj, rfl, rfl, hI⟩ := hrel
                    obtain ⟨cs, hcl, hq, hs⟩ := hI.out
                    have HQ := Lib.hid hq
                    have HH := Lib.hid hs
                    have hwsz := hq.M.O.size
                    by_cases hjl : j < 9
                    · have hj1 : (j : Int) < 9 := by omega
                      have hj0 : (0 : Int) ≤ (j : Int) := by omega
                      have hb := Lib.hid hs.b
                      have hle : en + j ≤ hc := by rw [← hcl]; exact hs.le
                      have hcl2 := Lib.hid hcl
                      clear hq hs hcl hI
                      go_wp2_with (at_builtin; refine append_blk wr.heap.size rfl rfl _ _ 40 3 (.int .i64 0) 8 (by rfl) UI1x II1x rfl hh (en + j) hc cs (.int .i64 (-(1000 * (k : Int) + (j : Nat) + 1))) (by rfl) (by rfl) (by rfl) hb.out hcl2.out hle (by omega) (by omega) ?_; intro g' cs' w2 hg1 hg2 hg3 hg4 hg5; have HR := Lib.hid (HQ.out.stepI HX.out hbase HE.out HH.out (by simp only; omega) (by rw [hKE.out]; exact lgQ_take _ _ _) hg1 hg2 hg3 hg4 hg5); clear hg1 hg2 hg3 hg4 hg5)
                      go_roundw
                      case rel => exact ⟨j + 1, g', cs'.length, by omega, by go_num, rfl, cs', rfl, HR.out.1, by have := HR.out.2; rw [lgQ_succ]; exact this⟩
                      case measure => simp [intOf]; omega
                    · obtain rfl : j = 9 := by omega
                      have hR : Hid (hdRd.R wr base ⟨hh, en + 9, hc⟩ [.slice (some ⟨hh, 0, none⟩) (en + 9) hc]) := ⟨rfl, trivial⟩
                      have hlen : (ls.length + 1) * 24 ≤ 140737488355328 := by rw [hKE.out]; omega
                      have hor := Lib.hid hs.or
                      have hno := Lib.hid hs.no
                      have hxx : Hid (∃ cs, Blk wr hh 3 cs ∧ cs.length = hc ∧ lgK ls.length ⟨hh, en + 9, hc⟩ cs) := ⟨cs, hs.b, hcl, by rw [hKE.out]; exact hs.tk⟩
                      clear hq hs hcl hI hjl
                      go_wp2_with (at_builtin; refine own_append' hdRd wr.heap.size w.heap.size base rfl rfl _ _ 83 40 (.slice none 0 0) 24 (by rfl) UI2x II2x rfl (by decide) (by decide) _ ls ⟨hh, en + 9, hc⟩ [.slice (some ⟨hh, 0, none⟩) (en + 9) hc] (by rfl) (by rfl) hR.out (by decide) HQ.out.o10 hbase hwsz hlen ?_; intro v1 w1 hO1 hg1; have HR := Lib.hid (QSt.pushI HQ.out hbase hO1 hg1 hxx.out HE.out ⟨rfl, hor.out⟩ hno.out); clear hO1 hg1)
                      go_roundw
                      case rel => exact ⟨k + 1, ls ++ [⟨hh, en + 9, hc⟩], by omega, by rw [List.length_append, hKE.out]; rfl, by go_num, HR⟩
                      case measure => simp [intOf]; omega
                · have hlse : ls.length = is.length := by omega
                  go_wp2_with fail
                  clear hlt
                  obtain ⟨rA, rB, r1, r2⟩ : (bsl 47 f64).Row 22 wr base A (mksL (es.map (·.n))) ∧ (bsl 3 i64).Row 40 wr base B (mkIL (is.map (·.n))) ∧ (bsl 47 f64).Row 22 wr base VA (lgsL (es.map (·.n))) ∧ (bsl 3 i64).Row 40 wr base vA (lgIL (is.map (·.n))) := ⟨hQ.out.rowE HX.out hnb (HAA.out _ hQ.out.M.O), hQ.out.rowI HX.out hmb (HBB.out _ hQ.out.M.O), hQ.out.longE HX.out hnb hLL.out (own_row hQ.out.o9), hQ.out.longI HX.out hmb hlse hvrow⟩
                  have R := Lib.hid (And.intro rA (And.intro rB (And.intro r1 r2)))
                  have HO := Lib.hid hQ.out.M.O
                  have e1 := hLL.out
                  clear rA rB r1 r2 hvrow
                  try rw [e1]
                  try rw [hlse]
                  refine (stand_calls _ _ (es.map (·.n)) _ _ _ base base _ (by simp) R.out.1 R.out.2.2.1 (by omega) (fun i => HX.out.lensE i)).mono ?_
                  rintro e w' ⟨rfl, q, rfl⟩
                  go_wp2_with fail
                  refine (standints_calls _ _ (is.map (·.n)) _ _ _ base base _ (by simp) (R.out.2.1.below (below_drewN (Below.refl _ _) q)) (R.out.2.2.2.below (below_drewN (Below.refl _ _) q)) (by omega) (fun i => HX.out.lensI i)).mono ?_
                  rintro e w' ⟨rfl, q2, rfl⟩
                  go_wp2
                  go_ret
                  exact ⟨rfl, HO.out.drewN (q + q2)⟩
end Go.Proofs.YtcfejobdgiiihaaGreatDoor

namespace Go.Proofs.YtcfejobdgiiihaaGreatDoor
open Go.RowKit

/-! ### own lists as headers and blocks -/
def OL.ls (e : OL) : LS := ⟨e.g, e.l.length, e.cap⟩
theorem OwnL.blk {w : World} {base : Nat} {e : OL} (h : OwnL w base e) : ∃ cs, Blk w e.g 47 cs ∧ cs.length = e.cap ∧ e.l.length ≤ e.cap ∧ e.cap ≤ 9223372036854775807 ∧ cs.take e.l.length = f64s e.l := by
  rcases h.own.2 with ⟨hn, _⟩ | ⟨g, cap, cur, hv, hg, hh, h1, h2, h3, h4⟩
  · simp [OL.val] at hn
  · simp [OL.val] at hv
    obtain ⟨⟨rfl⟩, rfl⟩ := hv
    refine ⟨cur.toList, by unfold Blk; simpa using hh, by simpa using h3, h1, by simpa [maxLen] using h2, by rw [← h4, Nat.mul_one]⟩
theorem ols_at {es : List OL} {i : Nat} {x : LS} (h : (es.map OL.ls)[i]? = some x) : ∃ e, es[i]? = some e ∧ x = e.ls := by
  rw [List.getElem?_map] at h
  obtain ⟨e, he, rfl⟩ := Option.map_eq_some_iff.1 h
  exact ⟨e, he, rfl⟩
theorem ol_own {t : Nat} {w : World} {b0 base : Nat} {v : Value} {es : List OL} (h : olRd.Own t w b0 base v es) : hdRd.Own t w b0 base v (es.map OL.ls) := by
  obtain ⟨css, h1, h2, h3⟩ := h
  refine ⟨css, by rw [h1, List.length_map], by rw [List.length_map]; exact h2, fun i x c hx hc => ?_⟩
  obtain ⟨e, he, rfl⟩ := ols_at hx
  exact ⟨(h3 i e c he hc).1, trivial⟩
theorem ol_at {t : Nat} {w : World} {b0 base : Nat} {v : Value} {es : List OL} (h : olRd.Own t w b0 base v es) {i : Nat} {e : OL} (he : es[i]? = some e) : OwnL w base e := by
  obtain ⟨css, h1, h2, h3⟩ := h
  have hi := (List.getElem?_eq_some_iff.1 he).1
  exact (h3 i e _ he (List.getElem?_eq_getElem (by omega))).2
theorem ol_lm {t : Nat} {w : World} {b0 base : Nat} {v : Value} {es : List OL} (h : olRd.Own t w b0 base v es) : LM 47 w (es.map OL.ls) nE := fun i x hx => by
  obtain ⟨e, he, rfl⟩ := ols_at hx
  obtain ⟨cs, hb, hc, _⟩ := (ol_at h he).blk
  exact ⟨cs, hb, hc, trivial⟩
theorem ol_dist {es : List OL} (hn : (es.map (·.g)).Nodup) : Dist (es.map OL.ls) := by
  intro i j x y hx hy hg
  obtain ⟨e, he, rfl⟩ := ols_at hx
  obtain ⟨e', he', rfl⟩ := ols_at hy
  have hi := (List.getElem?_eq_some_iff.1 he).1
  have h1 : (es.map (·.g))[i]? = some e.g := by rw [List.getElem?_map, he]; rfl
  have h2 : (es.map (·.g))[j]? = some e'.g := by rw [List.getElem?_map, he']; rfl
  exact (List.getElem?_inj (by simpa using hi) hn).1 (h1.trans ((congrArg some hg).trans h2.symm))
end Go.Proofs.YtcfejobdgiiihaaGreatDoor

namespace Go.Proofs.YtcfejobdgiiihaaGreatDoor
open Go.RowKit
attribute [local go_sem ↓] Go.wp_at_zero Go.wp_at_succ

/-- the way of those that are too long: awake alone -/
theorem awake_after {w W : World} (h : Below w.heap.size w W) : Calls Tryz.prog 8 #[] W fun e w' => e = .returned (.bool true) ∧ Below w.heap.size w w' :=
  (awake_calls W).mono (by rintro e w2 ⟨rfl, h2⟩; exact ⟨rfl, below_next h h2⟩)
set_option maxHeartbeats 4000000 in
set_option maxRecDepth 100000 in
theorem lent_early (z : Zn) (p : Pr) (cs cs' : List Value) (m k : Int) (w : World) (base : Nat) (hz : zRd.R w base z cs) (hp : prRd.R w base p cs') (hL : 70 < p.L.length ∨ 100 < z.Ids.length) :
    Calls Tryz.prog 7 #[.agg cs.toArray, .agg cs'.toArray, .int .i64 m, .int .i64 k] w fun e w' => e = .returned (.bool true) ∧ Below w.heap.size w w' := by
  obtain ⟨AC, AI, AG, AR, cC, cI, cG, cR, rfl, hr, hl⟩ := hz
  obtain ⟨BC, BG, BL, dC, dG, dL, rfl, hr', hl'⟩ := hp
  obtain ⟨C, G, T, L, K, D, S⟩ := p
  simp only at hL ⊢
  have hl2 : L.length ≤ 17592186044416 := Nat.le_trans hl'.l.2 (by decide)
  have hil : z.Ids.length ≤ 17592186044416 := Nat.le_trans hl.i.2 (by decide)
  obtain ⟨Id, hId⟩ : ∃ n, z.Ids.length = n := ⟨_, rfl⟩
  rw [hId] at hL hil ⊢
  have hW := Lib.hid (below_new (below_new (Below.refl w.heap.size w) (.cells #[.int .i64 z.N, .slice AC z.C.length cC, .slice AI Id cI, .slice AG z.G.length cG, .slice AR z.R.length cR, .bool z.bad] 42)) (.cells #[.slice BC C.length dC, .slice BG G.length dG, .int .i64 T, .slice BL L.length dL, .int .i64 K, .int .i64 D, .int .i64 S] 25))
  have HA := Lib.hid (fun W => awake_calls W)
  clear hr hl hr' hl' hId
  by_cases h70 : 70 < L.length
  · have d1 : (70 : Int) < (L.length : Int) := by omega
    clear hL
    go_enter Tryz.func7, Tryz.ntmps7
    go_wp2_with fail
    refine (HA.out _).mono ?_
    rintro e w2 ⟨rfl, h2⟩
    have H2 := Lib.hid (below_next hW.out h2)
    clear h2
    go_wp2
    go_ret
    exact ⟨rfl, H2.out⟩
  · have d1 : ¬ (70 : Int) < (L.length : Int) := by omega
    have d2 : (100 : Int) < (Id : Int) := by omega
    clear hL
    go_enter Tryz.func7, Tryz.ntmps7
    go_wp2_with fail
    refine (HA.out _).mono ?_
    rintro e w2 ⟨rfl, h2⟩
    have H2 := Lib.hid (below_next hW.out h2)
    clear h2
    go_wp2
    go_ret
    exact ⟨rfl, H2.out⟩
end Go.Proofs.YtcfejobdgiiihaaGreatDoor

namespace Go.Proofs.YtcfejobdgiiihaaGreatDoor
open Go.RowKit

theorem flatten_vals (ps : List LS) : (ps.map fun p => [p.val]).flatten = ps.map LS.val := by
  induction ps with
  | nil => rfl
  | cons p ps ih => rw [List.map_cons, List.flatten_cons, ih]; rfl
section
variable {P : Program} {ops : Array Oper} {rest : List Oper} {o : Oper} {a : Act} {Q : Exit → Act → World → Prop}
/-- 'out = append(out, xs...)' of headers: out is one's own, the row that is appended lies anywhere -/
theorem own_appends {W : World} (b0 base : Nat) (hgd : o.guard = none) (s x : Operand) (t e : TypeId) (z : Value) (bytes : Nat)
    (ho : o.op = .call { callee := .builtin .append, args := #[s, x], argTypes := #[t, t] })
    (ht : P.underlying t = some (.slice e)) (hinfo : (P.info? e).map (fun i => (i.zero, i.size, i.bytes)) = some (some z, 1, bytes)) (hz : z.cells.size = 1)
    (v : Value) (xs ps : List LS) (n : Nat) (hn : xs.length = n) (ad : Addr) (m c : Nat) (hm : ps.length = m) (hs : a.eval s = v) (hx : a.eval x = .slice (some ad) m c)
    (hrow : ∀ (j : Nat) (p : LS), ps[j]? = some p → W.cell? (ad.add j) = some p.val)
    (HO : hdRd.Own e W b0 base v xs) (hbase : b0 ≤ W.heap.size) (hl : (n + m) * bytes ≤ 140737488355328) (hl2 : n + m ≤ 140737488355328)
    (h : ∀ v1 w1, hdRd.Own e w1 b0 base v1 (xs ++ ps) → W.grownBy w1 v.ownBlock → wpList P ops Q rest (a.put o.dst v1) w1) :
    wpList P ops Q (o :: rest) a W := by
  subst hn hm
  obtain ⟨i0, hi, hzz⟩ := Option.map_eq_some_iff.1 hinfo
  simp only [Prod.mk.injEq] at hzz
  obtain ⟨hz0, hz1, hz2⟩ := hzz
  obtain ⟨css, hcl, hown, hr⟩ := HO
  refine wpList_append_own W hgd s x t ho b0 e i0 z 1 bytes ht hi hz0 hz1 hz2 hz (by decide) v xs.length css.flatten hs hown ad ps.length c (ps.map LS.val) hx (by simp)
    ?_ ?_ (by simp only [maxLen]; omega) hl hbase ?_
  · intro j u hj
    rw [List.getElem?_map] at hj
    obtain ⟨p, hp, rfl⟩ := Option.map_eq_some_iff.1 hj
    exact hrow j p hp
  · intro u hu
    obtain ⟨p, _, rfl⟩ := List.mem_map.1 hu
    rfl
  · intro v1 w1 hown1 hg _
    refine h v1 w1 ⟨css ++ ps.map (fun p => [p.val]), by simp [hcl], ?_, ?_⟩ hg
    · rw [List.flatten_append, flatten_vals, List.length_append]
      exact hown1
    · intro i y c h1 h2
      rcases Nat.lt_or_ge i xs.length with hlt | hge
      · rw [List.getElem?_append_left hlt] at h1
        rw [List.getElem?_append_left (by omega)] at h2
        exact hr i y c h1 h2
      · rw [List.getElem?_append_right hge] at h1
        rw [List.getElem?_append_right (by omega), hcl, List.getElem?_map, h1] at h2
        simp at h2
        subst h2
        exact ⟨rfl, trivial⟩
end
end Go.Proofs.YtcfejobdgiiihaaGreatDoor

namespace Go.Proofs.YtcfejobdgiiihaaGreatDoor
open Go.RowKit

/-- what was below B before stays so where only S's blocks, all from B on, are written -/
theorem OnlyIn.after {S : List Nat} {w0 w w' : World} {B : Nat} (h : OnlyIn S w w') (h0 : Below B w0 w) (hS : ∀ g, g ∈ S → B ≤ g) (hB : B ≤ w.heap.size) : Below B w0 w' where
  os := h.os.trans h0.os
  tape := h.tape.trans h0.tape
  output := h.output.trans h0.output
  size := Nat.le_trans h0.size h.size
  block := fun b hb => (h.block b (by omega) (fun hm => by have := hS b hm; omega)).trans (h0.block b hb)
theorem LM.append {t : Nat} {w : World} {es es' : List LS} (h : LM t w es nE) (h' : LM t w es' nE) : LM t w (es ++ es') nE := by
  intro i e he
  rcases Nat.lt_or_ge i es.length with h1 | h1
  · rw [List.getElem?_append_left h1] at he; exact h i e he
  · rw [List.getElem?_append_right h1] at he
    obtain ⟨cs, a1, a2, _⟩ := h' _ e he
    exact ⟨cs, a1, a2, trivial⟩
theorem Dist.append {es es' : List LS} (h : Dist es) (h' : Dist es') (hc : ∀ (i j : Nat) (e e' : LS), es[i]? = some e → es'[j]? = some e' → e.g ≠ e'.g) : Dist (es ++ es') := by
  intro i j x y hx hy hg
  rcases Nat.lt_or_ge i es.length with h1 | h1
  · rw [List.getElem?_append_left h1] at hx
    rcases Nat.lt_or_ge j es.length with h2 | h2
    · rw [List.getElem?_append_left h2] at hy; exact h i j x y hx hy hg
    · rw [List.getElem?_append_right h2] at hy; exact absurd hg (hc _ _ _ _ hx hy)
  · rw [List.getElem?_append_right h1] at hx
    rcases Nat.lt_or_ge j es.length with h2 | h2
    · rw [List.getElem?_append_left h2] at hy; exact absurd hg.symm (hc _ _ _ _ hy hx)
    · rw [List.getElem?_append_right h2] at hy
      have := h' _ _ x y hx hy hg
      omega
theorem at_append {es es' : List LS} {i : Nat} {e : LS} (h : (es ++ es')[i]? = some e) : (∃ j : Nat, es[j]? = some e) ∨ (∃ j : Nat, es'[j]? = some e) := by
  rcases Nat.lt_or_ge i es.length with h1 | h1
  · rw [List.getElem?_append_left h1] at h; exact .inl ⟨i, h⟩
  · rw [List.getElem?_append_right h1] at h; exact .inr ⟨_, h⟩
/-- two tellings of claims: all their lists lie in blocks of their own -/
theorem two_lists {t t' b0 b0' : Nat} {w1 w2 : World} {v v' : Value} {es es' : List OL} (h : olRd.Own t w1 b0 b0 v es) (hn : (es.map (·.g)).Nodup) (h' : olRd.Own t' w2 w1.heap.size w1.heap.size v' es') (hn' : (es'.map (·.g)).Nodup) (hW : Below w1.heap.size w1 w2) :
    Dist (es.map OL.ls ++ es'.map OL.ls) ∧ LM 47 w2 (es.map OL.ls ++ es'.map OL.ls) nE ∧
    ∀ (i : Nat) (e : LS), (es.map OL.ls ++ es'.map OL.ls)[i]? = some e → (b0 ≤ e.g ∨ w1.heap.size ≤ e.g) ∧ e.g < w2.heap.size ∧ e.n ≤ e.cap ∧ e.n ≤ 1000000 ∧ e.cap ≤ 9223372036854775807 := by
  have hlt : ∀ (i : Nat) (e : OL), es[i]? = some e → b0 ≤ e.g ∧ e.g < w1.heap.size := fun i e he => (ol_at h he).lt
  have hge : ∀ (i : Nat) (e : OL), es'[i]? = some e → w1.heap.size ≤ e.g ∧ e.g < w2.heap.size := fun i e he => (ol_at h' he).lt
  have hsz := hW.size
  refine ⟨Dist.append (ol_dist hn) (ol_dist hn') ?_, LM.append ((ol_lm h).keep fun i x hx => ?_) (ol_lm h'), fun i x hx => ?_⟩
  · intro i j x y hx hy
    obtain ⟨e, he, rfl⟩ := ols_at hx
    obtain ⟨e', he', rfl⟩ := ols_at hy
    have h1 := hlt i e he
    have h2 := hge j e' he'
    simp only [OL.ls]
    omega
  · obtain ⟨e, he, rfl⟩ := ols_at hx
    exact hW.block _ (hlt i e he).2
  · rcases at_append hx with ⟨j, hj⟩ | ⟨j, hj⟩
    · obtain ⟨e, he, rfl⟩ := ols_at hj
      have h1 := hlt j e he
      obtain ⟨cs, _, _, h2, h3, _⟩ := (ol_at h he).blk
      have h4 := (ol_at h he).len
      simp only [OL.ls]
      exact ⟨.inl h1.1, by omega, h2, by omega, h3⟩
    · obtain ⟨e, he, rfl⟩ := ols_at hj
      have h1 := hge j e he
      obtain ⟨cs, _, _, h2, h3, _⟩ := (ol_at h' he).blk
      have h4 := (ol_at h' he).len
      simp only [OL.ls]
      exact ⟨.inr h1.1, by omega, h2, by omega, h3⟩
end Go.Proofs.YtcfejobdgiiihaaGreatDoor
