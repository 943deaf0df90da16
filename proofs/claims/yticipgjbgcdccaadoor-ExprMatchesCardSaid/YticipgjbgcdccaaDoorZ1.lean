/- Words for walks: what a call may change, blocks known whole, the walk's imports. No condition: lemmas.
   Sets of positions as numbers (bit p says whether p is in): their words, their members in order. No condition: lemmas.
   Patterns as trees, and how memory holds them. No condition: definitions and lemmas.
   Package expr: right, walked, positions, Check, by contracts. No condition.
   The reader of package expr as plain functions: bytes by place, what is read or the fault. No condition: definitions.
   Classes of package expr's reader as plain functions. No condition: definitions.
   The reader of package expr as plain functions: times, atoms, rows, patterns. No condition: definitions.
   Package expr's reader: its small methods, by contracts. No condition.
   Package expr's reader: is, took, has, printable, plain, digit, word, number, by contracts. Condition: the text has at most 4096 bytes.
   Package expr's reader: escape, one, braces, by contracts. Condition: the text has at most 65536 bytes.
   A row of patterns that a call itself makes: appended to, read, its last value turned. No condition: lemmas.
   A row of patterns that a call itself makes, its lists in blocks of a kind S. No condition: lemmas. -/
import Derived.Test.YticipgjbgcdccaaDoorProg
import Derived.Below
import Derived.Deep.Draws
import Derived.Deep.AppendLies
import Derived.Maps.AppendAt
import Derived.OwnWalk
import Derived.Laws.BytesArg
import Derived.Laws.MakeOwn
import Derived.Laws.OwnMore
import Derived.Deep.OwnRows
import Derived.Tactics
import Derived.Lib.ConvBytes
import Derived.Lib.Hide
import Derived.Laws.Slices
import Derived.WalkKit
import Derived.KernelRfl
import Derived.RowKit3
import Derived.Deep.LoopGhost
import Derived.Deep.QuietTactic
import Derived.BigQuiet
import Derived.WideLaws
import Derived.Deep.DeepCutAuto
import Derived.Deep.CutBlock
import Derived.Deep.RegionHeld3
import Derived.Laws.Rows
import Derived.Lib.AppendStr
import Derived.ArgAppend
import Derived.Laws.IdiomCopy
import Derived.OrdersHeld
import Derived.Laws.BitsLemmas
import Derived.RowKit
import Derived.WalkLawsBesides
import Derived.WalkSpells
import Derived.StillTailTactics
import Derived.Deep.RegionWith
import Derived.Deep.Light
import Derived.Deep.MidRow
import Derived.Lib.TrailingZeros
import Derived.Deep.RegionLaw
import Derived.RegionDies
set_option linter.unusedSimpArgs false
set_option linter.unusedVariables false
namespace Go.Proofs.YticipgjbgcdccaaDoor
open Go.RowKit

/-- What may have changed from one world to a later one: new blocks, and the old blocks that S names. -/
structure Chg (S : Nat → Prop) (w w' : World) : Prop where
  os : w'.os = w.os
  tape : w'.tape = w.tape
  output : w'.output = w.output
  size : w.heap.size ≤ w'.heap.size
  block : ∀ k, k < w.heap.size → ¬ S k → w'.heap[k]? = w.heap[k]?

def No : Nat → Prop := fun _ => False
def One (r : Nat) : Nat → Prop := fun k => k = r

namespace Chg
variable {S S' : Nat → Prop} {w w' w'' : World}
theorem refl (S : Nat → Prop) (w : World) : Chg S w w := ⟨rfl, rfl, rfl, Nat.le_refl _, fun _ _ _ => rfl⟩
theorem trans (h : Chg S w w') (k : Chg S w' w'') : Chg S w w'' :=
  ⟨k.os.trans h.os, k.tape.trans h.tape, k.output.trans h.output, Nat.le_trans h.size k.size, fun i hi hn => (k.block i (Nat.lt_of_lt_of_le hi h.size) hn).trans (h.block i hi hn)⟩
theorem mono (h : Chg S w w') (hs : ∀ k, k < w.heap.size → S k → S' k) : Chg S' w w' :=
  ⟨h.os, h.tape, h.output, h.size, fun i hi hn => h.block i hi fun hs' => hn (hs i hi hs')⟩
/-- a later call's own changes, where what it changed of the blocks that it found is old and named, or new -/
theorem then_ (h : Chg S w w') (k : Chg S' w' w'') (hs : ∀ i, i < w.heap.size → S' i → S i) : Chg S w w'' :=
  ⟨k.os.trans h.os, k.tape.trans h.tape, k.output.trans h.output, Nat.le_trans h.size k.size, fun i hi hn => (k.block i (Nat.lt_of_lt_of_le hi h.size) fun q => hn (hs i hi q)).trans (h.block i hi hn)⟩
theorem drew (h : Chg S w w') : Chg S w w'.drew := ⟨h.os, h.tape, h.output, h.size, h.block⟩
theorem drewN (h : Chg S w w') (n : Nat) : Chg S w (w'.drewN n) := ⟨h.os, h.tape, h.output, h.size, h.block⟩
theorem alloc (h : Chg S w w') (o : Obj) : Chg S w (w'.alloc o) :=
  ⟨h.os, h.tape, h.output, Nat.le_trans h.size (by simp), fun i hi hn => (Below.heap_alloc w' o i (Nat.lt_of_lt_of_le hi h.size)).trans (h.block i hi hn)⟩
theorem setCell (h : Chg S w w') {p : Addr} (u : Value) (hp : p.block < w.heap.size → S p.block) : Chg S w (w'.setCell p u) :=
  ⟨h.os, h.tape, h.output, by simpa [World.setCell] using h.size, fun i hi hn => (Below.heap_setCell w' p u i (by
    rintro rfl; exact hn (hp hi))).trans (h.block i hi hn)⟩
theorem of_below (h : Below w.heap.size w w') (S : Nat → Prop) : Chg S w w' := ⟨h.os, h.tape, h.output, h.size, fun i hi _ => h.block i hi⟩
theorem below (h : Chg No w w') : Below w.heap.size w w' := ⟨h.os, h.tape, h.output, h.size, fun i hi => h.block i hi id⟩
theorem of_grown {row : Option Nat} (h : w.grownBy w' row) (hr : ∀ k, row = some k → k < w.heap.size → S k) : Chg S w w' :=
  ⟨h.os, h.tape, h.output, h.size, fun i hi hn => h.block i hi fun e => hn (hr i e.symm hi)⟩
theorem heap (h : Chg S w w') {k : Nat} {o : Obj} (hk : w.heap[k]? = some o) (hn : ¬ S k) : w'.heap[k]? = some o := by
  refine (h.block k ?_ hn).trans hk
  rcases Nat.lt_or_ge k w.heap.size with hlt | hge
  · exact hlt
  · rw [Array.getElem?_eq_none hge] at hk; cases hk
end Chg

/-- what a cut says, behind a name (the walk's simp would open it else) -/
def IsV (a b : Value) : Prop := a = b
def Drawn (w w' : World) : Prop := ∃ n, w' = w.drewN n
theorem Drawn.refl (w : World) : Drawn w w := ⟨0, rfl⟩
theorem Drawn.drewN {w w' : World} (h : Drawn w w') (n : Nat) : Drawn w (w'.drewN n) := by
  obtain ⟨m, rfl⟩ := h; exact ⟨m + n, by rw [World.drewN_drewN]⟩
theorem Drawn.chg {w w' : World} (h : Drawn w w') (S : Nat → Prop) : Chg S w w' := by
  obtain ⟨m, rfl⟩ := h; exact (Chg.refl S w).drewN m

/-- block g is just the cells cs of element type t, none frozen -/
def Blk (w : World) (g : Nat) (t : TypeId) (cs : Array Value) : Prop := w.heap[g]? = some (.cells cs t (0, 0))
namespace Blk
variable {w w' : World} {g : Nat} {t : TypeId} {cs : Array Value}
theorem lt (h : Blk w g t cs) : g < w.heap.size := by
  rcases Nat.lt_or_ge g w.heap.size with hlt | hge
  · exact hlt
  · unfold Blk at h; rw [Array.getElem?_eq_none hge] at h; cases h
theorem cell (h : Blk w g t cs) (i : Nat) : w.cell? ⟨g, i, none⟩ = cs[i]? := cell_of_row w g i cs t (0, 0) h
theorem frozen (h : Blk w g t cs) (i : Nat) : w.frozen? ⟨g, i, none⟩ = false := by
  unfold Blk at h; simp [World.frozen?, h]
theorem new (w : World) (t : TypeId) (cs : Array Value) : Blk (w.alloc (.cells cs t)) w.heap.size t cs := heap_alloc_new w _
theorem new' {w : World} {g : Nat} {t : TypeId} {cs : Array Value} (hg : w.heap.size = g) : Blk (w.alloc (.cells cs t)) g t cs := by subst hg; exact heap_alloc_new w _
theorem drew (h : Blk w g t cs) : Blk w.drew g t cs := h
theorem drewN (h : Blk w g t cs) (n : Nat) : Blk (w.drewN n) g t cs := h
theorem alloc (h : Blk w g t cs) (o : Obj) : Blk (w.alloc o) g t cs := (Below.heap_alloc w o g h.lt).trans h
theorem set_ (h : Blk w g t cs) (i : Nat) (u : Value) : Blk (w.setCell ⟨g, i, none⟩ u) g t (cs.setIfInBounds i u) := by
  unfold Blk at h ⊢
  simp [World.setCell, Array.getElem?_modify, h]
theorem far (h : Blk w g t cs) {p : Addr} (hp : g ≠ p.block) (u : Value) : Blk (w.setCell p u) g t cs := (Below.heap_setCell w p u g hp).trans h
theorem chg {S : Nat → Prop} (h : Blk w g t cs) (hc : Chg S w w') (hn : ¬ S g) : Blk w' g t cs := hc.heap h hn
theorem ne_ {g' : Nat} {t' : TypeId} {cs' : Array Value} (h : Blk w g t cs) (h' : Blk w g' t' cs') (hne : t ≠ t') : g ≠ g' := by
  rintro rfl
  unfold Blk at h h'
  rw [h] at h'
  injection h' with h'
  injection h' with _ ht
  exact hne ht
end Blk
theorem setCells_blk {g : Nat} {t : TypeId} : ∀ (vs : List Value) (o : Nat) (w : World) (cs : Array Value), Blk w g t cs → o + vs.length ≤ cs.size →
    ∃ cs', Blk (w.setCells g o vs) g t cs' ∧ cs'.size = cs.size ∧ (∀ i, cs'[i]? = if o ≤ i ∧ i < o + vs.length then vs[i - o]? else cs[i]?) ∧ Chg (One g) w (w.setCells g o vs)
  | [], o, w, cs, h, _ => ⟨cs, h, rfl, fun i => by rw [if_neg (by simp <;> omega)], Chg.refl _ _⟩
  | v :: vs, o, w, cs, h, hl => by
    obtain ⟨cs', h1, h2, h3, h4⟩ := setCells_blk vs (o + 1) (w.setCell ⟨g, o, none⟩ v) _ (h.set_ o v) (by simp at hl ⊢; omega)
    have hc : Chg (One g) w (w.setCell ⟨g, o, none⟩ v) := (Chg.refl _ _).setCell _ fun _ => rfl
    refine ⟨cs', h1, by simpa using h2, fun i => ?_, hc.trans h4⟩
    rw [h3 i]
    simp only [List.length_cons] at hl ⊢
    by_cases e : i = o
    · subst e
      rw [if_neg (by omega), if_pos (by omega), Nat.sub_self]
      simp [Array.getElem?_setIfInBounds]; omega
    · by_cases q : o + 1 ≤ i ∧ i < o + 1 + vs.length
      · rw [if_pos q, if_pos (by omega), show i - o = (i - (o + 1)) + 1 by omega]; rfl
      · rw [if_neg q, if_neg (by omega), Array.getElem?_setIfInBounds_ne (by omega)]

/-- a whole value is stored into a block of its size -/
theorem wpList_store_blk {P : Program} {w : World} {ops : Array Oper} {rest : List Oper} {o : Oper} {a : Act} {Q : Exit → Act → World → Prop} (hgd : o.guard = none) (ty : TypeId) (x y : Operand) (ho : o.op = .store ty x y)
    (g : Nat) (t : TypeId) (old new : Array Value) (hx : a.eval x = .pointer (some ⟨g, 0, none⟩)) (hy : a.eval y = .agg new) (hb : Blk w g t old) (hsz : old.size = new.size)
    (hi : (P.info? ty).map (·.size) = some new.size) (h1 : new.all (·.oneCell') = true)
    (h : ∀ w', Blk w' g t new → Chg (One g) w w' → wpList P ops Q rest (a.put o.dst undef) w') : wpList P ops Q (o :: rest) a w := by
  obtain ⟨cs', h2, h3, h4, h5⟩ := setCells_blk new.toList 0 w old hb (by simp [hsz])
  refine wpList_store_mid hgd ty x y ho g 0 new hx hy (fun j hj => ⟨?_, hb.frozen _⟩) hi h1 (h _ ?_ h5)
  · rw [hb.cell]; simp [hsz, hj]
  · have e : cs' = new := by
      apply Array.ext_getElem?
      intro i
      rw [h4 i]
      by_cases q : i < new.size
      · rw [if_pos (by simpa using q)]; simp
      · rw [if_neg (by simp; omega), Array.getElem?_eq_none (by omega), Array.getElem?_eq_none (by omega)]
    rw [e] at h2; exact h2

theorem add0 (g j : Nat) : (⟨g, 0, none⟩ : Addr).add j = ⟨g, j, none⟩ := by unfold Addr.add; split <;> simp_all
theorem ex_d0 (w : World) : ∃ m, w = w.drewN m := ⟨0, rfl⟩
theorem ex_d1 (w : World) (a : Nat) : ∃ m, w.drewN a = w.drewN m := ⟨a, rfl⟩
theorem ex_d2 (w : World) (a b : Nat) : ∃ m, (w.drewN a).drewN b = w.drewN m := ⟨a + b, by simp [World.drewN_drewN, Nat.add_assoc]⟩
theorem ex_d3 (w : World) (a b c : Nat) : ∃ m, ((w.drewN a).drewN b).drewN c = w.drewN m := ⟨a + b + c, by simp [World.drewN_drewN, Nat.add_assoc]⟩
theorem take_all {α : Type} (p : α → Bool) (l : List α) (i : Nat) (h : i < l.length) : (l.take (i + 1)).all p = ((l.take i).all p && p l[i]) := by
  rw [List.take_succ_eq_append_getElem h, List.all_append]; simp
end Go.Proofs.YticipgjbgcdccaaDoor
namespace Go.Proofs.YticipgjbgcdccaaDoor
open Go.RowKit

/-- the i-th word -/
def swP (m i : Nat) : Nat := (m >>> (64 * i)) % 2 ^ 64
theorem testBit_wordP (m i j : Nat) : (swP m i).testBit j = (decide (j < 64) && m.testBit (64 * i + j)) := by
  unfold swP
  rw [Nat.testBit_mod_two_pow, Nat.testBit_shiftRight]
theorem wordP_lt (m i : Nat) : swP m i < 18446744073709551616 := Nat.mod_lt _ (by decide)
theorem wordP_zero (i : Nat) : swP 0 i = 0 := by simp [swP]
theorem wordP_or (a b i : Nat) : swP (a ||| b) i = swP a i ||| swP b i := by
  apply Nat.eq_of_testBit_eq
  intro j
  rw [Nat.testBit_or, testBit_wordP, testBit_wordP, testBit_wordP, Nat.testBit_or]
  cases decide (j < 64) <;> simp
theorem wordP_pow (n i : Nat) : swP (2 ^ n) i = if i = n / 64 then 2 ^ (n % 64) else 0 := by
  apply Nat.eq_of_testBit_eq
  intro j
  rw [testBit_wordP, Nat.testBit_two_pow]
  split
  · rename_i h
    rw [Nat.testBit_two_pow]
    rw [Bool.eq_iff_iff]; simp; omega
  · rename_i h
    rw [Bool.eq_iff_iff]; simp; omega
theorem testBit_zero_of_lt {m k p : Nat} (h : m < 2 ^ k) (hp : k ≤ p) : m.testBit p = false := Nat.testBit_lt_two_pow (Nat.lt_of_lt_of_le h (Nat.pow_le_pow_right (by decide) hp))
theorem eq_of_words {sz a b : Nat} (ha : a < 2 ^ (64 * sz)) (hb : b < 2 ^ (64 * sz)) (h : ∀ i, i < sz → swP a i = swP b i) : a = b := by
  apply Nat.eq_of_testBit_eq
  intro p
  by_cases hp : p < 64 * sz
  · have h1 := congrArg (fun x => Nat.testBit x (p % 64)) (h (p / 64) (by omega))
    simp only [testBit_wordP] at h1
    rw [decide_eq_true (by omega : p % 64 < 64), Bool.true_and, Bool.true_and, show 64 * (p / 64) + p % 64 = p by omega] at h1
    exact h1
  · rw [testBit_zero_of_lt ha (by omega), testBit_zero_of_lt hb (by omega)]
theorem or_lt {sz a b : Nat} (ha : a < 2 ^ (64 * sz)) (hb : b < 2 ^ (64 * sz)) : a ||| b < 2 ^ (64 * sz) := Nat.or_lt_two_pow ha hb
theorem pow_lt_ {sz n : Nat} (h : n < 64 * sz) : 2 ^ n < 2 ^ (64 * sz) := Nat.pow_lt_pow_right (by decide) h

/-- a word's members, rising -/
def bitsW (w : Nat) : List Nat := (List.range 64).filter fun j => w.testBit j
/-- a set's members, rising -/
def eachP (sz m : Nat) : List Nat := (List.range sz).flatMap fun i => (bitsW (swP m i)).map (64 * i + ·)
theorem mem_bitsW (w j : Nat) : j ∈ bitsW w ↔ j < 64 ∧ w.testBit j = true := by simp [bitsW]
theorem mem_eachP {sz m : Nat} (hm : m < 2 ^ (64 * sz)) (p : Nat) : p ∈ eachP sz m ↔ m.testBit p = true := by
  unfold eachP
  simp only [List.mem_flatMap, List.mem_range, List.mem_map, mem_bitsW, testBit_wordP]
  constructor
  · rintro ⟨i, hi, j, ⟨hj, hb⟩, rfl⟩
    simpa [hj] using hb
  · intro h
    have hp : p < 64 * sz := by
      refine Nat.lt_of_not_le fun hle => ?_
      rw [testBit_zero_of_lt hm hle] at h; cases h
    exact ⟨p / 64, by omega, p % 64, ⟨by omega, by rw [decide_eq_true (by omega : p % 64 < 64), Bool.true_and, show 64 * (p / 64) + p % 64 = p by omega]; exact h⟩, by omega⟩
theorem bitsW_zero : bitsW 0 = [] := by simp [bitsW]

/-- w without its lowest member -/
theorem low_clear (k m : Nat) (j : Nat) : ((2 ^ k * (2 * m + 1)) &&& (2 ^ k * (2 * m + 1) - 1)).testBit j = ((2 ^ k * (2 * m + 1)).testBit j && decide (j ≠ k)) := by
  have e : 2 ^ k * (2 * m + 1) - 1 = 2 ^ k * (2 * m) + (2 ^ k - 1) := by
    have := Nat.two_pow_pos k
    rw [Nat.mul_add, Nat.mul_one]; omega
  have hlt : 2 ^ k - 1 < 2 ^ k := by have := Nat.two_pow_pos k; omega
  rw [Nat.testBit_and, e, Nat.testBit_two_pow_mul_add _ hlt]
  by_cases h : j < k
  · rw [if_pos h]
    have : (2 ^ k * (2 * m + 1)).testBit j = false := by
      rw [Nat.mul_comm, Nat.testBit_mul_two_pow]; simp; omega
    rw [this]; rfl
  · rw [if_neg h]
    rw [Nat.mul_comm, Nat.testBit_mul_two_pow]
    by_cases h2 : j = k
    · subst h2; simp
    · obtain ⟨d, rfl⟩ : ∃ d, j = k + (d + 1) := ⟨j - k - 1, by omega⟩
      rw [show k + (d + 1) - k = d + 1 by omega, Nat.testBit_succ, Nat.testBit_succ, show (2 * m + 1) / 2 = m by omega, show 2 * m / 2 = m by omega]
      simp
theorem low_bit (k m j : Nat) (h : j < k) : (2 ^ k * (2 * m + 1)).testBit j = false := by
  rw [Nat.mul_comm, Nat.testBit_mul_two_pow]; simp; omega
theorem low_has (k m : Nat) : (2 ^ k * (2 * m + 1)).testBit k = true := by
  rw [Nat.mul_comm, Nat.testBit_mul_two_pow]; simp
theorem bitsW_step (w : Nat) (h0 : w ≠ 0) (h : w < 2 ^ 64) : bitsW w = Lib.ctz 64 w :: bitsW (w &&& (w - 1)) ∧ Lib.ctz 64 w < 64 := by
  obtain ⟨m, hm, hk⟩ := Lib.ctzFrom_spec 64 w (by omega) h
  have e : Lib.ctz 64 w = Lib.ctzFrom 64 w := by simp [Lib.ctz, h0]
  rw [e]
  generalize Lib.ctzFrom 64 w = k at hm hk
  subst hm
  refine ⟨?_, hk⟩
  unfold bitsW
  simp only [low_clear]
  have hs : List.range 64 = List.range k ++ k :: List.range' (k + 1) (64 - k - 1) := by
    apply List.ext_getElem
    · simp; omega
    · intro i h1 h2
      simp only [List.getElem_range]
      by_cases q : i < k
      · rw [List.getElem_append_left (by simpa using q)]; simp
      · rw [List.getElem_append_right (by simpa using q)]
        obtain ⟨d, rfl⟩ : ∃ d, i = k + d := ⟨i - k, by omega⟩
        cases d with
        | zero => simp
        | succ d => simp [show k + (d + 1) - k = d + 1 by omega]; omega
  rw [hs, List.filter_append, List.filter_append, List.filter_cons, List.filter_cons]
  rw [if_pos (low_has k m), if_neg (by simp)]
  have f1 : (List.range k).filter (fun j => (2 ^ k * (2 * m + 1)).testBit j) = [] := by
    rw [List.filter_eq_nil_iff]
    intro j hj
    rw [low_bit k m j (by simpa using hj)]; simp
  have f2 : (List.range k).filter (fun j => (2 ^ k * (2 * m + 1)).testBit j && decide (j ≠ k)) = [] := by
    rw [List.filter_eq_nil_iff]
    intro j hj
    rw [low_bit k m j (by simpa using hj)]; simp
  rw [f1, f2, List.nil_append, List.nil_append]
  congr 1
  apply List.filter_congr
  intro j hj
  have : j ≠ k := by simp [List.mem_range'] at hj; omega
  simp [this]

/-- what a fold over a set's members leaves depends on the set alone, where each member adds its own -/
theorem testBit_foldl_or (f : Nat → Nat) (l : List Nat) (m q : Nat) : (l.foldl (fun r p => r ||| f p) m).testBit q = (m.testBit q || l.any fun p => (f p).testBit q) := by
  induction l generalizing m with
  | nil => simp
  | cons p l ih => rw [List.foldl_cons, ih, Nat.testBit_or, List.any_cons, Bool.or_assoc]
end Go.Proofs.YticipgjbgcdccaaDoor
namespace Go.Proofs.YticipgjbgcdccaaDoor
open Go.RowKit

/-- a pattern -/
inductive Ex where
  | mk (k f t a b : Int) (l : List Ex)

namespace Ex
def k : Ex → Int | mk x _ _ _ _ _ => x
def f : Ex → Int | mk _ x _ _ _ _ => x
def t : Ex → Int | mk _ _ x _ _ _ => x
def a : Ex → Int | mk _ _ _ x _ _ => x
def b : Ex → Int | mk _ _ _ _ x _ => x
def l : Ex → List Ex | mk _ _ _ _ _ x => x
def nil : Ex := .mk 0 0 0 0 0 []
end Ex

mutual
/-- the six cells of a pattern from place o of block g on; S: the blocks that its lists may lie in -/
def ExAt (w : World) (S : Nat → Prop) (g o : Nat) : Ex → Prop
  | .mk k f t a b l => w.cell? ⟨g, o, none⟩ = some (.int .i64 k) ∧ w.cell? ⟨g, o + 1, none⟩ = some (.int .i64 f) ∧ w.cell? ⟨g, o + 2, none⟩ = some (.int .i64 t) ∧
      w.cell? ⟨g, o + 3, none⟩ = some (.int .i64 a) ∧ w.cell? ⟨g, o + 4, none⟩ = some (.int .i64 b) ∧
      ∃ A c, w.cell? ⟨g, o + 5, none⟩ = some (.slice A l.length c) ∧ l.length ≤ c ∧ c ≤ 9223372036854775807 ∧ (l ≠ [] → ∃ g' o', A = some ⟨g', o', none⟩ ∧ S g' ∧ g' < w.heap.size ∧ LsAt w S g' o' l)
def LsAt (w : World) (S : Nat → Prop) (g o : Nat) : List Ex → Prop
  | [] => True
  | x :: xs => ExAt w S g o x ∧ LsAt w S g (o + 6) xs
end

/-- a slice that reads as a list of patterns -/
def Sl (w : World) (S : Nat → Prop) (A : Option Addr) (n c : Nat) (l : List Ex) : Prop :=
  n = l.length ∧ l.length ≤ c ∧ c ≤ 9223372036854775807 ∧ (l ≠ [] → ∃ g o, A = some ⟨g, o, none⟩ ∧ S g ∧ g < w.heap.size ∧ LsAt w S g o l)

mutual
theorem ExAt.keep {w w' : World} {S S' : Nat → Prop} (hw : ∀ k, S k → k < w.heap.size → w'.heap[k]? = w.heap[k]?) (hs : ∀ k, S k → k < w.heap.size → S' k) (hz : w.heap.size ≤ w'.heap.size) {g o : Nat} (hg : S g) (hgz : g < w.heap.size) :
    (x : Ex) → ExAt w S g o x → ExAt w' S' g o x
  | .mk k f t a b l, h => by
    have hc : ∀ j, w'.cell? ⟨g, j, none⟩ = w.cell? ⟨g, j, none⟩ := fun j => by simp [World.cell?, hw g hg hgz]
    unfold ExAt at h ⊢
    simp only [hc]
    obtain ⟨h0, h1, h2, h3, h4, A, c, h5, h6, h7, h8⟩ := h
    refine ⟨h0, h1, h2, h3, h4, A, c, h5, h6, h7, fun hl => ?_⟩
    obtain ⟨g', o', e, hg', hz', hl'⟩ := h8 hl
    exact ⟨g', o', e, hs g' hg' hz', by omega, LsAt.keep hw hs hz hg' hz' l hl'⟩
theorem LsAt.keep {w w' : World} {S S' : Nat → Prop} (hw : ∀ k, S k → k < w.heap.size → w'.heap[k]? = w.heap[k]?) (hs : ∀ k, S k → k < w.heap.size → S' k) (hz : w.heap.size ≤ w'.heap.size) {g o : Nat} (hg : S g) (hgz : g < w.heap.size) :
    (l : List Ex) → LsAt w S g o l → LsAt w' S' g o l
  | [], _ => by unfold LsAt; trivial
  | x :: xs, h => by
    unfold LsAt at h ⊢
    exact ⟨ExAt.keep hw hs hz hg hgz x h.1, LsAt.keep hw hs hz hg hgz xs h.2⟩
end

mutual
theorem ExAt.keep' {w : World} {S S' : Nat → Prop} {g o : Nat} : (x : Ex) → ExAt w S g o x → (∀ k, S k → S' k) → ExAt w S' g o x
  | .mk k f t a b l, h, hs => by
    unfold ExAt at h ⊢
    obtain ⟨h0, h1, h2, h3, h4, A, c, h5, h6, h7, h8⟩ := h
    refine ⟨h0, h1, h2, h3, h4, A, c, h5, h6, h7, fun hl => ?_⟩
    obtain ⟨g', o', e, hg', hz', hl'⟩ := h8 hl
    exact ⟨g', o', e, hs g' hg', hz', LsAt.keep'0 l hl' hs⟩
theorem LsAt.keep'0 {w : World} {S S' : Nat → Prop} {g o : Nat} : (l : List Ex) → LsAt w S g o l → (∀ k, S k → S' k) → LsAt w S' g o l
  | [], _, _ => by unfold LsAt; trivial
  | x :: xs, h, hs => by
    unfold LsAt at h ⊢
    exact ⟨ExAt.keep' x h.1 hs, LsAt.keep'0 xs h.2 hs⟩
end
theorem LsAt.keep' {w : World} {S S' : Nat → Prop} {g o : Nat} {l : List Ex} (h : LsAt w S g o l) (hs : ∀ k, S k → S' k) : LsAt w S' g o l := LsAt.keep'0 l h hs

theorem Sl.keep {w w' : World} {S S' : Nat → Prop} {A : Option Addr} {n c : Nat} {l : List Ex} (h : Sl w S A n c l) (hw : ∀ k, S k → k < w.heap.size → w'.heap[k]? = w.heap[k]?) (hs : ∀ k, S k → k < w.heap.size → S' k) (hz : w.heap.size ≤ w'.heap.size) : Sl w' S' A n c l := by
  obtain ⟨h1, h2, h3, h4⟩ := h
  refine ⟨h1, h2, h3, fun hl => ?_⟩
  obtain ⟨g, o, e, hg, hgz, hh⟩ := h4 hl
  exact ⟨g, o, e, hs g hg hgz, by omega, LsAt.keep hw hs hz hg hgz l hh⟩

/-- a list stays where its blocks stay -/
theorem Sl.chg {w w' : World} {S T : Nat → Prop} {A : Option Addr} {n c : Nat} {l : List Ex} (h : Sl w S A n c l) (hc : Chg T w w') (hn : ∀ k, S k → ¬ T k) : Sl w' S A n c l :=
  h.keep (fun k hk hz => hc.block k hz (hn k hk)) (fun _ hk _ => hk) hc.size
theorem Sl.chgNo {w w' : World} {S : Nat → Prop} {A : Option Addr} {n c : Nat} {l : List Ex} (h : Sl w S A n c l) (hc : Chg No w w') : Sl w' S A n c l := h.chg hc fun _ _ hk => hk
theorem Sl.mono {w : World} {S S' : Nat → Prop} {A : Option Addr} {n c : Nat} {l : List Ex} (h : Sl w S A n c l) (hs : ∀ k, S k → S' k) : Sl w S' A n c l :=
  h.keep (fun _ _ _ => rfl) (fun k hk _ => hs k hk) (Nat.le_refl _)
theorem Sl.drewN {w : World} {S : Nat → Prop} {A : Option Addr} {n c : Nat} {l : List Ex} (h : Sl w S A n c l) (m : Nat) : Sl (w.drewN m) S A n c l := h.chgNo ((Chg.refl _ _).drewN m)
theorem Sl.alloc {w : World} {S : Nat → Prop} {A : Option Addr} {n c : Nat} {l : List Ex} (h : Sl w S A n c l) (o : Obj) : Sl (w.alloc o) S A n c l := h.chgNo ((Chg.refl _ _).alloc o)

theorem LsAt.get {w : World} {S : Nat → Prop} {g : Nat} : ∀ (l : List Ex) (o i : Nat) (hi : i < l.length), LsAt w S g o l → ExAt w S g (o + 6 * i) l[i]
  | x :: xs, o, 0, _, h => by unfold LsAt at h; simpa using h.1
  | x :: xs, o, i + 1, hi, h => by
    unfold LsAt at h
    have := LsAt.get xs (o + 6) i (by simpa using hi) h.2
    simpa [show o + 6 + 6 * i = o + 6 * (i + 1) by omega] using this

/-- element i: its cells, as the walk asks for them, and its own list -/
theorem Sl.at_ {w : World} {S : Nat → Prop} {A : Option Addr} {n c : Nat} {l : List Ex} (h : Sl w S A n c l) (i : Nat) (hi : i < l.length) :
    ∃ g o A' c', A = some ⟨g, o, none⟩ ∧ S g ∧ w.cell? ⟨g, o + i * 6, none⟩ = some (.int .i64 l[i].k) ∧ w.cell? ⟨g, o + i * 6 + 1, none⟩ = some (.int .i64 l[i].f) ∧ w.cell? ⟨g, o + i * 6 + 2, none⟩ = some (.int .i64 l[i].t) ∧
      w.cell? ⟨g, o + i * 6 + 3, none⟩ = some (.int .i64 l[i].a) ∧ w.cell? ⟨g, o + i * 6 + 4, none⟩ = some (.int .i64 l[i].b) ∧ w.cell? ⟨g, o + i * 6 + 5, none⟩ = some (.slice A' l[i].l.length c') ∧ Sl w S A' l[i].l.length c' l[i].l := by
  obtain ⟨h1, h2, h3, h4⟩ := h
  have hne : l ≠ [] := by rintro rfl; simp at hi
  obtain ⟨g, o, e, hg, hgz, hh⟩ := h4 hne
  have hx := LsAt.get l o i hi hh
  generalize hq : l[i] = x at hx
  cases x with
  | mk k f t a b l' =>
    unfold ExAt at hx
    rw [show 6 * i = i * 6 by omega] at hx
    obtain ⟨c0, c1, c2, c3, c4, A', c', c5, c6, c7, c8⟩ := hx
    exact ⟨g, o, A', c', e, hg, c0, c1, c2, c3, c4, c5, rfl, c6, c7, c8⟩

theorem Ex.eta (x : Ex) : Ex.mk x.k x.f x.t x.a x.b x.l = x := by cases x; rfl
theorem Ex.lt_of_mem {x : Ex} {l : List Ex} (h : x ∈ l) (k f t a b : Int) : SizeOf.sizeOf x < SizeOf.sizeOf (Ex.mk k f t a b l) := by
  have := List.sizeOf_lt_of_mem h
  simp only [Ex.mk.sizeOf_spec]; omega
end Go.Proofs.YticipgjbgcdccaaDoor
namespace Go.Proofs.YticipgjbgcdccaaDoor
open Go.RowKit

/-- is the value itself one of the four? -/
def headOk (k f t a b n : Int) : Bool :=
  if k = 1 then decide (0 ≤ f ∧ f ≤ t ∧ t ≤ 255 ∧ a = 0 ∧ b = 0 ∧ n = 0)
  else if k = 2 then decide (f = 0 ∧ t = 0 ∧ a = 0 ∧ b = 0 ∧ n ≠ 1)
  else if k = 3 then decide (f = 0 ∧ t = 0 ∧ a = 0 ∧ b = 0 ∧ 1 < n)
  else if k = 4 then decide (f = 0 ∧ t = 0 ∧ n = 1 ∧ 0 ≤ a ∧ a ≤ 1000 ∧ (b = -1 ∨ (a ≤ b ∧ b ≤ 1000)))
  else false

mutual
def rightP : Ex → Bool
  | .mk k f t a b l => headOk k f t a b l.length && rightsP l
def rightsP : List Ex → Bool
  | [] => true
  | x :: xs => rightP x && rightsP xs
end

theorem rightsP_all (l : List Ex) : rightsP l = l.all rightP := by
  induction l with
  | nil => rfl
  | cons x xs ih => unfold rightsP; simp [ih]

set_option maxHeartbeats 4000000 in
set_option maxRecDepth 100000 in
theorem right_any : ∀ (m : Nat) (k f t a b : Int) (A : Option Addr) (n c : Nat) (l : List Ex) (S : Nat → Prop) (w : World), SizeOf.sizeOf (Ex.mk k f t a b l) < m → Sl w S A n c l →
    Calls Tryd.prog 54 #[.agg #[.int .i64 k, .int .i64 f, .int .i64 t, .int .i64 a, .int .i64 b, .slice A n c]] w
      fun e w' => e = .returned (.bool (rightP (.mk k f t a b l))) ∧ Chg No w w' := by
  intro m
  induction m with
  | zero => intro _ _ _ _ _ _ _ _ _ _ _ h; omega
  | succ m ih =>
    intro k f t a b A n c l S w hm hl
    have IH := Lib.hid ih; clear ih
    obtain ⟨rfl, hc1, hc2⟩ : n = l.length ∧ l.length ≤ c ∧ c ≤ 9223372036854775807 := ⟨hl.1, hl.2.1, hl.2.2.1⟩
    have HL := Lib.hid hl; clear hl
    obtain ⟨e0, h0⟩ : ∃ e : Bool, (f == 0) = e := ⟨_, rfl⟩
    obtain ⟨e1, h1⟩ : ∃ e : Bool, (t == 0) = e := ⟨_, rfl⟩
    obtain ⟨e2, h2⟩ : ∃ e : Bool, (k == 1) = e := ⟨_, rfl⟩
    obtain ⟨e3, h3⟩ : ∃ e : Bool, (k == 2) = e := ⟨_, rfl⟩
    obtain ⟨e4, h4⟩ : ∃ e : Bool, (k == 3) = e := ⟨_, rfl⟩
    obtain ⟨e5, h5⟩ : ∃ e : Bool, (k == 4) = e := ⟨_, rfl⟩
    obtain ⟨e6, h6⟩ : ∃ e : Bool, (a == 0) = e := ⟨_, rfl⟩
    obtain ⟨e7, h7⟩ : ∃ e : Bool, (b == 0) = e := ⟨_, rfl⟩
    obtain ⟨e8, h8⟩ : ∃ e : Bool, ((l.length : Int) == 0) = e := ⟨_, rfl⟩
    obtain ⟨e9, h9⟩ : ∃ e : Bool, ((l.length : Int) != 1) = e := ⟨_, rfl⟩
    obtain ⟨e10, h10⟩ : ∃ e : Bool, ((l.length : Int) == 1) = e := ⟨_, rfl⟩
    obtain ⟨e11, h11⟩ : ∃ e : Bool, (b == -1) = e := ⟨_, rfl⟩
    go_enter Tryd.func54, Tryd.ntmps54
    go_upto_region 1 with fail
    go_cut [3] (fun s3 wx => IsV s3 (.bool (e0 && e1)) ∧ Drawn (w.alloc (.cells #[.int .i64 k, .int .i64 f, .int .i64 t, .int .i64 a, .int .i64 b, .slice A l.length c] 25)) wx)
    case first =>
      go_wp2_with fail
      all_goals (go_meet; refine ⟨congrArg Value.bool ?_, 0, rfl⟩; simp [*])
    case rest =>
      obtain ⟨hs3, nq, rfl⟩ := hcut
      obtain ⟨eb, hb⟩ : ∃ e : Bool, (e0 && e1) = e := ⟨_, rfl⟩
      rw [hb] at hs3
      unfold IsV at hs3
      subst hs3
      have HH : Hid (headOk k f t a b l.length = if e2 then (decide (0 ≤ f) && decide (f ≤ t) && decide (t ≤ 255) && e6 && e7 && e8) else if e3 then (eb && e6 && e7 && e9) else if e4 then (eb && e6 && e7 && decide (1 < (l.length : Int)))
          else if e5 then (eb && e10 && decide (0 ≤ a) && decide (a ≤ 1000) && (e11 || (decide (a ≤ b) && decide (b ≤ 1000)))) else false) := by
        refine Lib.hid ?_
        clear IH HL
        subst h0 h1 h2 h3 h4 h5 h6 h7 h8 h9 h10 h11 hb
        rw [Bool.eq_iff_iff]
        simp only [headOk]
        repeat' split
        all_goals (simp_all [and_assoc]; try omega)
      clear hb
      go_upto_block 0 with fail
      go_cut [3, 4] (fun _ s4 wx => IsV s4 (.bool (headOk k f t a b l.length)) ∧ Drawn (w.alloc (.cells #[.int .i64 k, .int .i64 f, .int .i64 t, .int .i64 a, .int .i64 b, .slice A l.length c] 25)) wx)
      case first =>
        go_wp2_with fail
        all_goals (go_meet; refine ⟨congrArg Value.bool ?_, nq, rfl⟩; rw [HH.out]; simp [*]; try (intros; omega))
      case rest =>
        obtain ⟨hs, nq, rfl⟩ := hcut
        unfold IsV at hs; subst hs
        clear HH h0 h1 h2 h3 h4 h5 h6 h7 h8 h9 h10 h11
        go_wp2
        go_loopw [4, 127] (fun v4 v127 wr => ∃ i : Nat, i ≤ l.length ∧ v127 = .int .i64 (i : Int) ∧ IsV v4 (.bool (headOk k f t a b l.length && (l.take i).all rightP)) ∧ Chg No w wr) (fun _ v _ => l.length - (intOf v).toNat)
        case atStart => exact ⟨0, Nat.zero_le _, rfl, by simp [IsV], ((Chg.refl No w).alloc _).drewN _⟩
        case round =>
          obtain ⟨i, hi, rfl, h4, hc⟩ := hrel
          obtain ⟨bb, hbb⟩ : ∃ bb : Bool, (headOk k f t a b l.length && (l.take i).all rightP) = bb := ⟨_, rfl⟩
          rw [hbb] at h4
          unfold IsV at h4
          subst h4
          have HBB := Lib.hid hbb; clear hbb
          by_cases hlt : i < l.length
          · obtain ⟨g, o, A', c', rfl, hS, x0, x1, x2, x3, x4, x5, hx⟩ := (HL.out.chgNo hc).at_ i hlt
            have hsz : SizeOf.sizeOf (Ex.mk l[i].k l[i].f l[i].t l[i].a l[i].b l[i].l) < m := by
              have := Ex.lt_of_mem (List.getElem_mem hlt) k f t a b
              have e : Ex.mk l[i].k l[i].f l[i].t l[i].a l[i].b l[i].l = l[i] := by cases l[i]; rfl
              rw [e]; omega
            cases bb with
            | true =>
              go_wp2_with (go_at_call 54; refine (IH.out _ _ _ _ _ _ _ _ l[i].l S _ hsz (hx.alloc _)).mono ?_; rintro e w1 ⟨rfl, hc1⟩)
              have hR : IsV (.bool (rightP (Ex.mk l[i].k l[i].f l[i].t l[i].a l[i].b l[i].l))) (.bool (headOk k f t a b l.length && (l.take (i + 1)).all rightP)) := by
                rw [Ex.eta, take_all _ _ _ hlt, ← Bool.and_assoc, HBB.out]; rfl
              exact ⟨⟨i + 1, by omega, by go_num, hR, ((hc.alloc _).trans hc1)⟩, by simp [intOf]; omega⟩
            | false =>
              go_wp2
              have hR : IsV (.bool false) (.bool (headOk k f t a b l.length && (l.take (i + 1)).all rightP)) := by
                rw [take_all _ _ _ hlt, ← Bool.and_assoc, HBB.out]; rfl
              exact ⟨⟨i + 1, by omega, by go_num, hR, hc.alloc _⟩, by simp [intOf]; omega⟩
          · go_wp2
            go_ret
            refine ⟨?_, hc⟩
            have h := HBB.out
            obtain rfl : i = l.length := by omega
            rw [List.take_length] at h
            rw [← h]; unfold rightP; rw [rightsP_all]; rfl
end Go.Proofs.YticipgjbgcdccaaDoor
namespace Go.Proofs.YticipgjbgcdccaaDoor

/-- what a reading step tells: a thing and the place behind it, or a fault and its place -/
inductive PR (α : Type) where
  | ok (a : α) (j : Nat)
  | bad (c : Int) (at_ : Nat)

/-- the byte at a place; 256 where the text ends -/
def bt (s : ByteArray) (i : Nat) : Nat := if h : i < s.size then s[i].toNat else 256
theorem bt_lt (s : ByteArray) (i : Nat) (h : i < s.size) : bt s i < 256 := by
  unfold bt; rw [dif_pos h]; exact s[i].toNat_lt
theorem bt_end (s : ByteArray) (i : Nat) (h : s.size ≤ i) : bt s i = 256 := by unfold bt; rw [dif_neg (by omega)]
theorem bt_at (s : ByteArray) (i : Nat) (h : i < s.size) : s[i].toNat = bt s i := by unfold bt; rw [dif_pos h]

def printableP (c : Nat) : Bool := decide (32 ≤ c) && decide (c ≤ 126)
/-- is c one of the bytes? -/
def hasP (l : List UInt8) (c : Nat) : Bool := l.any fun b => b.toNat == c
def signsP : List UInt8 := [40, 41, 91, 93, 123, 125, 46, 124, 42, 43, 63, 92, 47, 94, 36]
def classSignsP : List UInt8 := [93, 92, 45, 47]
def plainP (c : Nat) : Bool := printableP c && !hasP signsP c
def digitP (c : Nat) : Int := if 48 ≤ c ∧ c ≤ 57 then (c : Int) - 48 else if 97 ≤ c ∧ c ≤ 102 then (c : Int) - 87 else if 65 ≤ c ∧ c ≤ 70 then (c : Int) - 55 else -1
def wordP (c : Nat) : Bool := (decide (48 ≤ c) && decide (c ≤ 57)) || (decide (97 ≤ c) && decide (c ≤ 122)) || (decide (65 ≤ c) && decide (c ≤ 90))

/-- the rest of a number: k digits more may come; n so far -/
def numGo (s : ByteArray) : (k n i : Nat) → PR Nat
  | 0, n, i => .ok n i
  | k + 1, n, i =>
    if s.size ≤ i then .bad 23 s.size
    else if bt s i < 48 ∨ 57 < bt s i then (if k = 3 then .bad 22 i else .ok n i)
    else numGo s k (10 * n + (bt s i - 48)) (i + 1)
def numP (s : ByteArray) (i : Nat) : PR Nat := numGo s 4 0 i

/-- k hexadecimal digits more; n so far -/
def hexGo (s : ByteArray) (at_ : Nat) : (k n i : Nat) → PR Nat
  | 0, n, i => .ok n i
  | k + 1, n, i =>
    if s.size ≤ i then .bad 23 s.size
    else if digitP (bt s i) < 0 then .bad 22 at_
    else hexGo s at_ k (16 * n + (digitP (bt s i)).toNat) (i + 1)
def hexP (s : ByteArray) (at_ i : Nat) : PR Nat := hexGo s at_ 2 0 i

/-- an escape; its backslash stands at i -/
def escP (s : ByteArray) (i : Nat) : PR Nat :=
  if s.size ≤ i + 1 then .bad 23 s.size
  else if bt s (i + 1) = 110 then .ok 10 (i + 2)
  else if bt s (i + 1) = 114 then .ok 13 (i + 2)
  else if bt s (i + 1) = 116 then .ok 9 (i + 2)
  else if bt s (i + 1) = 120 then hexP s i (i + 2)
  else if bt s (i + 1) ≤ 32 ∨ 126 < bt s (i + 1) ∨ wordP (bt s (i + 1)) = true then .bad 22 i
  else .ok (bt s (i + 1)) (i + 2)

/-- one byte of a class -/
def oneP (s : ByteArray) (first : Bool) (i : Nat) : PR Nat :=
  if s.size ≤ i then .bad 23 s.size
  else if bt s i = 92 then escP s i
  else if printableP (bt s i) = false ∨ hasP classSignsP (bt s i) = true ∨ (first = true ∧ bt s i = 94) then .bad 22 i
  else .ok (bt s i) (i + 1)

/-- the end of a repetition's numbers m and k; its brace stood at i -/
def closeB (s : ByteArray) (i : Nat) (m k : Int) (j : Nat) : PR (Int × Int) :=
  if s.size ≤ j then .bad 23 s.size
  else if bt s j ≠ 125 then .bad 22 j
  else if m > 1000 ∨ k > 1000 ∨ (k ≥ 0 ∧ k < m) then .bad 24 i
  else .ok (m, k) (j + 1)
/-- a repetition's numbers; the brace stands at i -/
def bracesP (s : ByteArray) (i : Nat) : PR (Int × Int) :=
  match numP s (i + 1) with
  | .bad c p => .bad c p
  | .ok m j =>
    if s.size ≤ j then .bad 23 s.size
    else if bt s j = 44 then
      (if s.size ≤ j + 1 then .bad 23 s.size
       else if bt s (j + 1) = 125 then closeB s i m (-1) (j + 1)
       else match numP s (j + 1) with
        | .bad c p => .bad c p
        | .ok k j2 => closeB s i m k j2)
    else closeB s i m m j

theorem numGo_ok (s : ByteArray) : ∀ (k n i m j : Nat), i ≤ s.size → numGo s k n i = .ok m j → i ≤ j ∧ j ≤ s.size ∧ m < (n + 1) * 10 ^ k
  | 0, n, i, m, j, hi, h => by
    simp only [numGo, PR.ok.injEq] at h; obtain ⟨rfl, rfl⟩ := h; simp; omega
  | k + 1, n, i, m, j, hi, h => by
    unfold numGo at h
    by_cases h1 : s.size ≤ i
    · rw [if_pos h1] at h; cases h
    · rw [if_neg h1] at h
      have hp : 0 < 10 ^ k := Nat.pow_pos (by omega)
      by_cases h2 : bt s i < 48 ∨ 57 < bt s i
      · rw [if_pos h2] at h
        by_cases h3 : k = 3
        · rw [if_pos h3] at h; cases h
        · rw [if_neg h3] at h
          simp only [PR.ok.injEq] at h; obtain ⟨rfl, rfl⟩ := h
          refine ⟨Nat.le_refl _, hi, ?_⟩
          have : 1 ≤ 10 ^ (k + 1) := Nat.pow_pos (by omega)
          calc n < (n + 1) * 1 := by omega
            _ ≤ (n + 1) * 10 ^ (k + 1) := Nat.mul_le_mul_left _ this
      · rw [if_neg h2] at h
        obtain ⟨a, b, c⟩ := numGo_ok s k _ _ _ _ (by omega) h
        refine ⟨by omega, b, Nat.lt_of_lt_of_le c ?_⟩
        rw [Nat.pow_succ, show (n + 1) * (10 ^ k * 10) = ((n + 1) * 10) * 10 ^ k by rw [Nat.mul_comm (10 ^ k) 10, Nat.mul_assoc]]
        exact Nat.mul_le_mul_right _ (by omega)
theorem numP_ok (s : ByteArray) (i m j : Nat) (hi : i ≤ s.size) (h : numP s i = .ok m j) : i ≤ j ∧ j ≤ s.size ∧ m < 10000 := by
  have := numGo_ok s 4 0 i m j hi h
  simpa using this
theorem digitP_lt (c : Nat) : digitP c < 16 := by unfold digitP; split <;> (try split) <;> (try split) <;> omega
end Go.Proofs.YticipgjbgcdccaaDoor
namespace Go.Proofs.YticipgjbgcdccaaDoor

/-- the range of a pair of bytes -/
def rg (p : Nat × Nat) : Ex := .mk 1 p.1 p.2 0 0 []
def namedP (l : List (Nat × Nat)) (c : Nat) : Bool := l.any fun p => decide (p.1 ≤ c) && decide (c ≤ p.2)
def setLast (out : List (Nat × Nat)) (c : Nat) : List (Nat × Nat) :=
  match out.getLast? with
  | none => []
  | some p => out.dropLast ++ [(p.1, c)]
def othersStep (named : Nat → Bool) (out : List (Nat × Nat)) (c : Nat) : List (Nat × Nat) :=
  if named c = true then out else if 0 < c ∧ named (c - 1) = false then setLast out c else out ++ [(c, c)]
def othersTo (named : Nat → Bool) : Nat → List (Nat × Nat)
  | 0 => []
  | c + 1 => othersStep named (othersTo named c) c
/-- the ranges of the bytes that none of these names, rising, as few as can be -/
def othersP (l : List (Nat × Nat)) : List (Nat × Nat) := othersTo (namedP l) 256

theorem othersTo_ne (named : Nat → Bool) : ∀ c, named c = false → othersTo named (c + 1) ≠ []
  | 0, h => by simp [othersTo, othersStep, h]
  | c + 1, h => by
    unfold othersTo othersStep
    rw [if_neg (by simp [h])]
    split
    · rename_i hc
      have := othersTo_ne named c (by simpa using hc.2)
      unfold setLast
      cases hq : (othersTo named (c + 1)).getLast? with
      | none => simp at hq; exact absurd hq this
      | some p => simp
    · simp
theorem othersTo_len (named : Nat → Bool) : ∀ c, (othersTo named c).length ≤ c
  | 0 => by simp [othersTo]
  | c + 1 => by
    have := othersTo_len named c
    unfold othersTo othersStep
    split
    · omega
    · split
      · unfold setLast
        cases hq : (othersTo named c).getLast? with
        | none => simp
        | some p => simp; omega
      · simp; omega

/-- the rest, where there is no fault -/
def PR.bind {α β : Type} (x : PR α) (f : α → Nat → PR β) : PR β :=
  match x with
  | .ok a j => f a j
  | .bad c p => .bad c p
@[simp] theorem PR.bind_ok {α β : Type} (a : α) (j : Nat) (f : α → Nat → PR β) : (PR.ok a j).bind f = f a j := rfl
@[simp] theorem PR.bind_bad {α β : Type} (c : Int) (p : Nat) (f : α → Nat → PR β) : (PR.bad c p : PR α).bind f = .bad c p := rfl

/-- the members of a class from i on; l so far -/
def classGo (s : ByteArray) (at_ : Nat) (nt : Bool) : Nat → List (Nat × Nat) → Nat → PR (List (Nat × Nat))
  | 0, _, _ => .bad 0 0
  | m + 1, l, i =>
    if l ≠ [] ∧ s.size ≤ i then .bad 23 s.size
    else if l ≠ [] ∧ bt s i = 93 then .ok l i
    else (oneP s (l.isEmpty && !nt) i).bind fun a j =>
      if s.size ≤ j then .bad 23 s.size
      else if bt s j = 45 then (oneP s false (j + 1)).bind fun b j2 => if b < a then .bad 22 at_ else classGo s at_ nt m (l ++ [(a, b)]) j2
      else classGo s at_ nt m (l ++ [(a, a)]) j
/-- one range as it is, more as an alternative -/
def eitherR (l : List (Nat × Nat)) : Ex :=
  match l with
  | [p] => rg p
  | l => .mk 3 0 0 0 0 (l.map rg)
/-- the end of a class -/
def classEnd (i : Nat) (nt : Bool) (l : List (Nat × Nat)) (j : Nat) : PR Ex :=
  if (if nt then othersP l else l) = [] then .bad 22 i else .ok (eitherR (if nt then othersP l else l)) (j + 1)
/-- a class; its bracket stands at i -/
def classP (s : ByteArray) (i : Nat) : PR Ex :=
  (classGo s i (decide (bt s (i + 1) = 94)) (s.size + 1) [] (if bt s (i + 1) = 94 then i + 2 else i + 1)).bind fun l j => classEnd i (decide (bt s (i + 1) = 94)) l j

theorem hexGo_ok (s : ByteArray) (at_ : Nat) : ∀ (k n i m j : Nat), i ≤ s.size → hexGo s at_ k n i = .ok m j → i ≤ j ∧ j ≤ s.size ∧ m < (n + 1) * 16 ^ k
  | 0, n, i, m, j, hi, h => by
    simp only [hexGo, PR.ok.injEq] at h; obtain ⟨rfl, rfl⟩ := h; simp; omega
  | k + 1, n, i, m, j, hi, h => by
    unfold hexGo at h
    by_cases h1 : s.size ≤ i
    · rw [if_pos h1] at h; cases h
    · rw [if_neg h1] at h
      by_cases h2 : digitP (bt s i) < 0
      · rw [if_pos h2] at h; cases h
      · rw [if_neg h2] at h
        have := digitP_lt (bt s i)
        obtain ⟨a, b, c⟩ := hexGo_ok s at_ k _ _ _ _ (by omega) h
        refine ⟨by omega, b, Nat.lt_of_lt_of_le c ?_⟩
        rw [Nat.pow_succ, show (n + 1) * (16 ^ k * 16) = ((n + 1) * 16) * 16 ^ k by rw [Nat.mul_comm (16 ^ k) 16, Nat.mul_assoc]]
        exact Nat.mul_le_mul_right _ (by omega)
theorem escP_ok (s : ByteArray) (i m j : Nat) (h : escP s i = .ok m j) : i < j ∧ j ≤ s.size ∧ m < 256 := by
  unfold escP at h
  split at h
  · cases h
  · rename_i h1
    have hb := bt_lt s (i + 1) (by omega)
    (repeat' split at h) <;> first
      | (simp only [PR.ok.injEq] at h; omega)
      | cases h
      | (obtain ⟨a, b, c⟩ := hexGo_ok s i 2 0 (i + 2) m j (by omega) h; simp at c; omega)
theorem oneP_ok (s : ByteArray) (b : Bool) (i m j : Nat) (h : oneP s b i = .ok m j) : i < j ∧ j ≤ s.size ∧ m < 256 := by
  unfold oneP at h
  split at h
  · cases h
  · rename_i h1
    have hb := bt_lt s i (by omega)
    split at h
    · exact escP_ok s i m j h
    · split at h
      · cases h
      · simp only [PR.ok.injEq] at h; omega
theorem classGo_ok (s : ByteArray) (at_ : Nat) (nt : Bool) : ∀ (m : Nat) (l : List (Nat × Nat)) (i : Nat) (l' : List (Nat × Nat)) (j : Nat), classGo s at_ nt m l i = .ok l' j → i ≤ j ∧ j < s.size
  | 0, l, i, l', j, h => by simp [classGo] at h
  | m + 1, l, i, l', j, h => by
    unfold classGo at h
    split at h
    · cases h
    · rename_i h1
      split at h
      · rename_i h2
        simp only [PR.ok.injEq] at h; obtain ⟨rfl, rfl⟩ := h
        refine ⟨Nat.le_refl _, ?_⟩
        rcases Nat.lt_or_ge i s.size with q | q
        · exact q
        · exact absurd ⟨h2.1, q⟩ h1
      · cases ho : oneP s (l.isEmpty && !nt) i with
        | bad c p => rw [ho] at h; cases h
        | ok a j0 =>
          rw [ho, PR.bind_ok] at h
          obtain ⟨o1, o2, o3⟩ := oneP_ok _ _ _ _ _ ho
          split at h
          · cases h
          · split at h
            · cases ho2 : oneP s false (j0 + 1) with
              | bad c p => rw [ho2] at h; cases h
              | ok b j2 =>
                rw [ho2, PR.bind_ok] at h
                obtain ⟨p1, p2, p3⟩ := oneP_ok _ _ _ _ _ ho2
                split at h
                · cases h
                · have := classGo_ok s at_ nt m _ _ _ _ h; omega
            · have := classGo_ok s at_ nt m _ _ _ _ h; omega
end Go.Proofs.YticipgjbgcdccaaDoor
namespace Go.Proofs.YticipgjbgcdccaaDoor

def repEx (a b : Int) (x : Ex) : Ex := .mk 4 0 0 a b [x]
/-- what stands behind an atom -/
def timesGo (s : ByteArray) : Nat → Ex → Nat → PR Ex
  | 0, _, _ => .bad 0 0
  | m + 1, x, i =>
    if bt s i = 42 then timesGo s m (repEx 0 (-1) x) (i + 1)
    else if bt s i = 43 then timesGo s m (repEx 1 (-1) x) (i + 1)
    else if bt s i = 63 then timesGo s m (repEx 0 1 x) (i + 1)
    else if bt s i = 123 then (bracesP s i).bind fun p j => timesGo s m (repEx p.1 p.2 x) j
    else .ok x i
def byteEx (c : Nat) : Ex := .mk 1 c c 0 0 []
def anyEx : Ex := .mk 1 0 255 0 0 []
def oneOr (k : Int) (l : List Ex) : Ex :=
  match l with
  | [x] => x
  | l => .mk k 0 0 0 0 l

mutual
/-- rows from i on; l so far -/
def patGo (s : ByteArray) : Nat → List Ex → Nat → PR Ex
  | 0, _, _ => .bad 0 0
  | m + 1, l, i => (rowGo s m [] i).bind fun x j => if bt s j = 124 then patGo s m (l ++ [x]) (j + 1) else .ok (oneOr 3 (l ++ [x])) j
/-- atoms from i on; l so far -/
def rowGo (s : ByteArray) : Nat → List Ex → Nat → PR Ex
  | 0, _, _ => .bad 0 0
  | m + 1, l, i =>
    if s.size ≤ i ∨ bt s i = 124 ∨ bt s i = 41 then .ok (oneOr 2 l) i
    else (atomP s m i).bind fun x j => (timesGo s (s.size + 1) x j).bind fun y j2 => rowGo s m (l ++ [y]) j2
/-- one atom; a byte stands at i -/
def atomP (s : ByteArray) : Nat → Nat → PR Ex
  | 0, _ => .bad 0 0
  | m + 1, i =>
    if bt s i = 92 then (escP s i).bind fun c j => .ok (byteEx c) j
    else if bt s i = 46 then .ok anyEx (i + 1)
    else if bt s i = 91 then classP s i
    else if bt s i = 40 then (patGo s m [] (i + 1)).bind fun x j => if s.size ≤ j then .bad 23 s.size else if bt s j = 41 then .ok x (j + 1) else .bad 22 j
    else if plainP (bt s i) = true then .ok (byteEx (bt s i)) (i + 1)
    else .bad 22 i
end

theorem closeB_ok (s : ByteArray) (i : Nat) (m k : Int) (j : Nat) (p : Int × Int) (j2 : Nat) (h : closeB s i m k j = .ok p j2) : j < j2 ∧ j2 ≤ s.size := by
  unfold closeB at h
  split at h
  · cases h
  · split at h
    · cases h
    · split at h
      · cases h
      · simp only [PR.ok.injEq] at h; omega
theorem bracesP_ok (s : ByteArray) (i : Nat) (p : Int × Int) (j : Nat) (hi : i < s.size) (h : bracesP s i = .ok p j) : i < j ∧ j ≤ s.size := by
  unfold bracesP at h
  cases hq : numP s (i + 1) with
  | bad c q => rw [hq] at h; cases h
  | ok m j0 =>
    rw [hq] at h
    dsimp only at h
    obtain ⟨o1, o2, o3⟩ := numP_ok s _ m j0 (by omega) hq
    split at h
    · cases h
    · split at h
      · split at h
        · cases h
        · split at h
          · have := closeB_ok _ _ _ _ _ _ _ h; omega
          · cases hq2 : numP s (j0 + 1) with
            | bad c q => rw [hq2] at h; cases h
            | ok k j2 =>
              rw [hq2] at h
              dsimp only at h
              obtain ⟨p1, p2, p3⟩ := numP_ok s _ k j2 (by omega) hq2
              have := closeB_ok _ _ _ _ _ _ _ h; omega
      · have := closeB_ok _ _ _ _ _ _ _ h; omega
theorem bt_size (s : ByteArray) (i c : Nat) (h : bt s i = c) (hc : c < 256) : i < s.size := by
  rcases Nat.lt_or_ge i s.size with q | q
  · exact q
  · rw [bt_end s i q] at h; omega
theorem timesGo_ok (s : ByteArray) : ∀ (m : Nat) (x : Ex) (i : Nat) (y : Ex) (j : Nat), i ≤ s.size → timesGo s m x i = .ok y j → i ≤ j ∧ j ≤ s.size
  | 0, x, i, y, j, hi, h => by simp [timesGo] at h
  | m + 1, x, i, y, j, hi, h => by
    unfold timesGo at h
    split at h
    · rename_i q; have := bt_size s i _ q (by omega); have := timesGo_ok s m _ _ _ _ (by omega) h; omega
    · split at h
      · rename_i q; have := bt_size s i _ q (by omega); have := timesGo_ok s m _ _ _ _ (by omega) h; omega
      · split at h
        · rename_i q; have := bt_size s i _ q (by omega); have := timesGo_ok s m _ _ _ _ (by omega) h; omega
        · split at h
          · rename_i q
            cases hb : bracesP s i with
            | bad c p => rw [hb] at h; cases h
            | ok p j2 =>
              rw [hb, PR.bind_ok] at h
              have := bracesP_ok s i p j2 (bt_size s i _ q (by omega)) hb
              have := timesGo_ok s m _ _ _ _ (by omega) h; omega
          · simp only [PR.ok.injEq] at h; omega
theorem classP_ok (s : ByteArray) (i : Nat) (x : Ex) (j : Nat) (h : classP s i = .ok x j) : i < j ∧ j ≤ s.size := by
  unfold classP at h
  cases hc : classGo s i (decide (bt s (i + 1) = 94)) (s.size + 1) [] (if bt s (i + 1) = 94 then i + 2 else i + 1) with
  | bad c p => rw [hc] at h; cases h
  | ok l j0 =>
    rw [hc, PR.bind_ok] at h
    have h2 := classGo_ok _ _ _ _ _ _ _ _ hc
    unfold classEnd at h
    by_cases hz : (if decide (bt s (i + 1) = 94) = true then othersP l else l) = []
    · rw [if_pos hz] at h; cases h
    · rw [if_neg hz] at h
      simp only [PR.ok.injEq] at h
      split at h2 <;> omega
theorem read_ok (s : ByteArray) : ∀ (m : Nat), (∀ l i x j, i ≤ s.size → patGo s m l i = .ok x j → i ≤ j ∧ j ≤ s.size) ∧ (∀ l i x j, i ≤ s.size → rowGo s m l i = .ok x j → i ≤ j ∧ j ≤ s.size) ∧ (∀ i x j, i < s.size → atomP s m i = .ok x j → i < j ∧ j ≤ s.size)
  | 0 => ⟨fun _ _ _ _ _ h => by simp [patGo] at h, fun _ _ _ _ _ h => by simp [rowGo] at h, fun _ _ _ _ h => by simp [atomP] at h⟩
  | m + 1 => by
    obtain ⟨h1, h2, h3⟩ := read_ok s m
    refine ⟨fun l i x j hi h => ?_, fun l i x j hi h => ?_, fun i x j hi h => ?_⟩
    · unfold patGo at h
      cases hr : rowGo s m [] i with
      | bad c p => rw [hr] at h; cases h
      | ok y j0 =>
        rw [hr, PR.bind_ok] at h
        have := h2 _ _ _ _ hi hr
        split at h
        · rename_i q; have := bt_size s j0 _ q (by omega); have := h1 _ _ _ _ (by omega) h; omega
        · simp only [PR.ok.injEq] at h; omega
    · unfold rowGo at h
      split at h
      · simp only [PR.ok.injEq] at h; omega
      · rename_i hn
        cases ha : atomP s m i with
        | bad c p => rw [ha] at h; cases h
        | ok y j0 =>
          rw [ha, PR.bind_ok] at h
          have := h3 _ _ _ (by omega) ha
          cases ht : timesGo s (s.size + 1) y j0 with
          | bad c p => rw [ht] at h; cases h
          | ok z j2 =>
            rw [ht, PR.bind_ok] at h
            have := timesGo_ok s _ _ _ _ _ (by omega) ht
            have := h2 _ _ _ _ (by omega) h; omega
    · unfold atomP at h
      split at h
      · cases he : escP s i with
        | bad c p => rw [he] at h; cases h
        | ok c j0 =>
          rw [he, PR.bind_ok] at h
          have := escP_ok s i _ _ he
          simp only [PR.ok.injEq] at h; omega
      · split at h
        · simp only [PR.ok.injEq] at h; omega
        · split at h
          · exact classP_ok s i x j h
          · split at h
            · cases hp : patGo s m [] (i + 1) with
              | bad c p => rw [hp] at h; cases h
              | ok y j0 =>
                rw [hp, PR.bind_ok] at h
                have := h1 _ _ _ _ (by omega) hp
                split at h
                · cases h
                · split at h
                  · simp only [PR.ok.injEq] at h; omega
                  · cases h
            · split at h
              · simp only [PR.ok.injEq] at h; omega
              · cases h
end Go.Proofs.YticipgjbgcdccaaDoor
namespace Go.Proofs.YticipgjbgcdccaaDoor
open Go.RowKit

/-- the reader's block: its text and its place -/
def Rdr (w : World) (r : Nat) (s : ByteArray) (i : Nat) : Prop := Blk w r 72 #[.string s, .int .i64 (i : Int)]

/-- what the reader throws: its error and its place -/
def flt (c : Int) (at_ : Nat) : List PanicEntry := [{ v := .iface 69 (.agg #[.int .i64 c, .int .i64 (at_ : Int)]), recovered := false }]

namespace Rdr
variable {w w' : World} {r : Nat} {s : ByteArray} {i : Nat}
theorem c0 (h : Rdr w r s i) : w.cell? ⟨r, 0, none⟩ = some (.string s) := (h.cell 0).trans rfl
theorem c1 (h : Rdr w r s i) : w.cell? ⟨r, 1, none⟩ = some (.int .i64 (i : Int)) := (h.cell 1).trans rfl
theorem f0 (h : Rdr w r s i) : w.frozen? ⟨r, 0, none⟩ = false := h.frozen 0
theorem f1 (h : Rdr w r s i) : w.frozen? ⟨r, 1, none⟩ = false := h.frozen 1
theorem chg {S : Nat → Prop} (h : Rdr w r s i) (hc : Chg S w w') (hn : ¬ S r) : Rdr w' r s i := Blk.chg h hc hn
theorem step (h : Rdr w r s i) : Rdr (w.setCell ⟨r, 1, none⟩ (.int .i64 ((i : Int) + 1))) r s (i + 1) := Blk.set_ h 1 _
theorem set (h : Rdr w r s i) (j : Nat) : Rdr (w.setCell ⟨r, 1, none⟩ (.int .i64 (j : Int))) r s j := Blk.set_ h 1 _
end Rdr

theorem more_any (w : World) (r : Nat) (s : ByteArray) (i : Nat) (b : Bool) (h : Rdr w r s i) (hb : decide (i < s.size) = b) :
    Calls Tryd.prog 42 #[.pointer (some ⟨r, 0, none⟩)] w fun e w' => e = .returned (.bool b) ∧ ∃ n, w' = w.drewN n := by
  have h0 := h.c0
  have h1 := h.c1
  go_enter Tryd.func42, Tryd.ntmps42
  go_wp2
  go_quiet (fail)
  go_wp2
  go_ret
  exact ⟨by simp [hb], nq, rfl⟩

theorem must_ok (w : World) (r : Nat) (s : ByteArray) (i : Nat) (h : Rdr w r s i) (hi : i < s.size) :
    Calls Tryd.prog 132 #[.pointer (some ⟨r, 0, none⟩)] w fun e w' => e = .returned (.int .u8 (bt s i : Int)) ∧ ∃ n, w' = w.drewN n := by
  have h0 := h.c0
  have h1 := h.c1
  go_enter Tryd.func132, Tryd.ntmps132
  go_wp2_with (go_at_call 42; refine (more_any _ _ s i true h (by simpa using hi)).mono ?_; rintro e w1 ⟨rfl, n1, rfl⟩)
  go_quiet (fail)
  go_wp2
  go_ret
  exact ⟨by rw [← bt_at s i hi]; rfl, ex_d2 _ _ _⟩

theorem must_no (w : World) (r : Nat) (s : ByteArray) (i : Nat) (h : Rdr w r s i) (hi : s.size ≤ i) :
    Calls Tryd.prog 132 #[.pointer (some ⟨r, 0, none⟩)] w fun e w' => e = .panicked (flt 23 s.size) ∧ ∃ n, w' = w.drewN n := by
  have h0 := h.c0
  have h1 := h.c1
  go_enter Tryd.func132, Tryd.ntmps132
  go_wp2_with (go_at_call 42; refine (more_any _ _ s i false h (by simpa using hi)).mono ?_; rintro e w1 ⟨rfl, n1, rfl⟩)
  exact ⟨rfl, rfl, _, rfl⟩

theorem wrong_any (w : World) (i : Nat) :
    Calls Tryd.prog 43 #[.int .i64 (i : Int)] w fun e w' => e = .panicked (flt 22 i) ∧ w = w' := by
  go_enter Tryd.func43, Tryd.ntmps43
  go_wp2
  exact ⟨rfl, rfl, rfl⟩
/-- what a step of the reader leaves: the thing and the place behind it, or the panic -/
def PPost {α : Type} (enc : α → Value) (res : PR α) (r : Nat) (s : ByteArray) (w : World) (e : Ending) (w' : World) : Prop :=
  match res with
  | .ok a j => e = .returned (enc a) ∧ Rdr w' r s j ∧ Chg (One r) w w'
  | .bad c p => e = .panicked (flt c p) ∧ Chg (One r) w w'
theorem PPost.ok {α : Type} {enc : α → Value} {res : PR α} {r : Nat} {s : ByteArray} {w w' : World} {e : Ending} {a : α} {j : Nat} (h : res = .ok a j) (he : e = .returned (enc a)) (hr : Rdr w' r s j) (hc : Chg (One r) w w') : PPost enc res r s w e w' := by
  subst h; exact ⟨he, hr, hc⟩
theorem PPost.bad {α : Type} {enc : α → Value} {res : PR α} {r : Nat} {s : ByteArray} {w w' : World} {e : Ending} {c : Int} {p : Nat} (h : res = .bad c p) (he : e = .panicked (flt c p)) (hc : Chg (One r) w w') : PPost enc res r s w e w' := by
  subst h; exact ⟨he, hc⟩
theorem Rdr.drewN {w : World} {r : Nat} {s : ByteArray} {i : Nat} (h : Rdr w r s i) (n : Nat) : Rdr (w.drewN n) r s i := h
theorem Chg.one {w w' : World} (h : Chg No w w') (r : Nat) : Chg (One r) w w' := h.mono fun _ _ hk => hk.elim
end Go.Proofs.YticipgjbgcdccaaDoor
namespace Go.Proofs.YticipgjbgcdccaaDoor
open Go.RowKit

theorem is_any (w : World) (r : Nat) (s : ByteArray) (i c : Nat) (h : Rdr w r s i) (b : Bool) (hb : decide (bt s i = c) = b) (hc : c < 256) :
    Calls Tryd.prog 104 #[.pointer (some ⟨r, 0, none⟩), .int .u8 (c : Int)] w fun e w' => e = .returned (.bool b) ∧ ∃ n, w' = w.drewN n := by
  have h0 := h.c0
  have h1 := h.c1
  by_cases hi : i < s.size
  · have e1 : (((s[i].toNat : Int)) == (c : Int)) = b := by
      rw [bt_at s i hi, ← hb, Bool.eq_iff_iff]; simp; omega
    clear hb
    go_enter Tryd.func104, Tryd.ntmps104
    go_wp2
    go_quiet ((go_at_call 42; exact Calls.quiet_of (more_any _ _ s i true (h.drewN _) (by simpa using hi))))
    go_wp2
    go_ret
    exact ⟨rfl, _, rfl⟩
  · have e1 : b = false := by
      rw [← hb, bt_end s i (by omega)]; simp; omega
    subst e1
    clear hb
    go_enter Tryd.func104, Tryd.ntmps104
    go_wp2
    go_quiet ((go_at_call 42; exact Calls.quiet_of (more_any _ _ s i false (h.drewN _) (by simpa using hi))))
    go_wp2
    go_ret
    exact ⟨rfl, _, rfl⟩

theorem took_yes (w : World) (r : Nat) (s : ByteArray) (i c : Nat) (h : Rdr w r s i) (hs : s.size ≤ 65536) (hb : bt s i = c) (hc : c < 256) :
    Calls Tryd.prog 71 #[.pointer (some ⟨r, 0, none⟩), .int .u8 (c : Int)] w fun e w' => e = .returned (.bool true) ∧ Rdr w' r s (i + 1) ∧ Chg (One r) w w' := by
  have hi : i < s.size := by
    rcases Nat.lt_or_ge i s.size with h | h
    · exact h
    · rw [bt_end s i h] at hb; omega
  have HB := Lib.hid hb; clear hb
  have h0 := h.c0
  have h1 := h.c1
  have h2 := h.f1
  go_enter Tryd.func71, Tryd.ntmps71
  go_wp2_with (go_at_call 104; refine (is_any _ _ s i c h true (by simpa using HB.out) hc).mono ?_; rintro e w1 ⟨rfl, n1, rfl⟩)
  go_ret
  exact ⟨rfl, (h.drewN _).step, ((Chg.refl _ _).drewN _).setCell _ fun _ => rfl⟩

theorem took_no (w : World) (r : Nat) (s : ByteArray) (i c : Nat) (h : Rdr w r s i) (hb : bt s i ≠ c) (hc : c < 256) :
    Calls Tryd.prog 71 #[.pointer (some ⟨r, 0, none⟩), .int .u8 (c : Int)] w fun e w' => e = .returned (.bool false) ∧ ∃ n, w' = w.drewN n := by
  go_enter Tryd.func71, Tryd.ntmps71
  go_wp2_with (go_at_call 104; refine (is_any _ _ s i c h false (by simpa using hb) hc).mono ?_; rintro e w1 ⟨rfl, n1, rfl⟩)
  go_ret
  exact ⟨rfl, _, rfl⟩

theorem has_any (s : ByteArray) (c : Nat) (w : World) (hs : s.size ≤ 65536) :
    Calls Tryd.prog 137 #[.string s, .int .u8 (c : Int)] w fun e w' => e = .returned (.bool (hasP s.data.toList c)) ∧ w = w' := by
  go_enter Tryd.func137, Tryd.ntmps137
  go_wp2
  go_loop [8] (fun v => ∃ i : Nat, i ≤ s.size ∧ v = .int .i64 (i : Int) ∧ hasP (s.data.toList.take i) c = false) (fun v => s.size - (intOf v).toNat)
  case atStart => exact ⟨0, Nat.zero_le _, rfl, by simp [hasP]⟩
  case round =>
    obtain ⟨i, hi, rfl, hn⟩ := hrel
    have HN := Lib.hid hn; clear hn
    by_cases hlt : i < s.size
    · have hd : i < s.data.toList.length := by simpa using hlt
      have ht : hasP (s.data.toList.take (i + 1)) c = (hasP (s.data.toList.take i) c || (s[i].toNat == c)) := by
        unfold hasP; rw [List.take_succ_eq_append_getElem hd, List.any_append]; simp; rfl
      have HT := Lib.hid ht; clear ht
      by_cases he : s[i].toNat = c
      · have e1 : ((s[i].toNat : Int) == (c : Int)) = true := by simp [he]
        have HE := Lib.hid he; clear he
        go_wp2
        go_ret
        refine ⟨congrArg _ (congrArg Value.bool ?_), rfl⟩
        have : hasP s.data.toList c = true := by
          unfold hasP
          rw [List.any_eq_true]
          exact ⟨s[i], Array.mem_toList_iff.2 (Array.getElem_mem (xs := s.data) hlt), by simpa using HE.out⟩
        rw [this]
      · have e1 : ((s[i].toNat : Int) == (c : Int)) = false := by simp; omega
        have HE := Lib.hid he; clear he
        go_wp2
        exact ⟨⟨i + 1, by omega, by go_num, by rw [HT.out, HN.out]; simpa using HE.out⟩, by simp [intOf]; omega⟩
    · go_wp2
      go_ret
      refine ⟨congrArg _ (congrArg Value.bool ?_), rfl⟩
      have := HN.out
      rw [List.take_of_length_le (by simp; omega)] at this
      rw [this]

theorem printable_any (c : Nat) (w : World) :
    Calls Tryd.prog 136 #[.int .u8 (c : Int)] w fun e w' => e = .returned (.bool (printableP c)) ∧ w = w' := by
  go_enter Tryd.func136, Tryd.ntmps136
  go_wp2
  all_goals
    go_ret
    refine ⟨congrArg _ (congrArg Value.bool ?_), rfl⟩
    rw [Bool.eq_iff_iff]; simp [printableP]; omega

theorem digit_any (c : Nat) (w : World) (hc : c < 256) :
    Calls Tryd.prog 142 #[.int .u8 (c : Int)] w fun e w' => e = .returned (.int .i64 (digitP c)) ∧ w = w' := by
  go_enter Tryd.func142, Tryd.ntmps142
  go_wp2
  all_goals
    go_ret
    refine ⟨congrArg _ (congrArg (Value.int .i64) ?_), rfl⟩
    unfold digitP
    first
      | (rw [if_pos (by omega)]; done)
      | (rw [if_neg (by omega), if_pos (by omega)]; omega)
      | (rw [if_neg (by omega), if_neg (by omega), if_pos (by omega)]; omega)
      | (rw [if_neg (by omega), if_neg (by omega), if_neg (by omega)]; done)

theorem word_any (c : Nat) (w : World) :
    Calls Tryd.prog 143 #[.int .u8 (c : Int)] w fun e w' => e = .returned (.bool (wordP c)) ∧ w = w' := by
  go_enter Tryd.func143, Tryd.ntmps143
  go_wp2
  all_goals
    go_ret
    refine ⟨congrArg _ (congrArg Value.bool ?_), rfl⟩
    rw [Bool.eq_iff_iff]; simp [wordP]; omega

theorem has_signs (c : Nat) (w : World) :
    Calls Tryd.prog 137 #[.string ⟨#[40, 41, 91, 93, 123, 125, 46, 124, 42, 43, 63, 92, 47, 94, 36]⟩, .int .u8 (c : Int)] w fun e w' => e = .returned (.bool (hasP signsP c)) ∧ w = w' :=
  has_any _ c w (by simp [ByteArray.size])
theorem has_classSigns (c : Nat) (w : World) :
    Calls Tryd.prog 137 #[.string ⟨#[93, 92, 45, 47]⟩, .int .u8 (c : Int)] w fun e w' => e = .returned (.bool (hasP classSignsP c)) ∧ w = w' :=
  has_any _ c w (by simp [ByteArray.size])

theorem plain_any (c : Nat) (w : World) :
    Calls Tryd.prog 111 #[.int .u8 (c : Int)] w fun e w' => e = .returned (.bool (plainP c)) ∧ w = w' := by
  have hp : plainP c = (printableP c && !hasP signsP c) := rfl
  rw [hp]; clear hp
  obtain ⟨b1, h1⟩ : ∃ b, printableP c = b := ⟨_, rfl⟩
  rw [h1]
  cases b1 with
  | true =>
    go_enter Tryd.func111, Tryd.ntmps111
    go_wp2_with (first | (go_at_call 136; refine (printable_any c _).mono ?_; rintro e w' ⟨rfl, rfl⟩) | (go_at_call 137; refine (has_signs c _).mono ?_; rintro e w' ⟨rfl, rfl⟩))
    go_ret
    exact ⟨by simp, rfl⟩
  | false =>
    go_enter Tryd.func111, Tryd.ntmps111
    go_wp2_with (go_at_call 136; refine (printable_any c _).mono ?_; rintro e w' ⟨rfl, rfl⟩)
    go_ret
    exact ⟨by simp, rfl⟩

theorem number_any (w : World) (r : Nat) (s : ByteArray) (i0 : Nat) (h : Rdr w r s i0) (hs : s.size ≤ 65536) (h0i : i0 ≤ s.size) :
    Calls Tryd.prog 141 #[.pointer (some ⟨r, 0, none⟩)] w fun e w' => PPost (fun n : Nat => .int .i64 (n : Int)) (numP s i0) r s w e w' := by
  go_enter Tryd.func141, Tryd.ntmps141
  go_wp2
  go_loopw [3, 6] (fun v3 v6 wr => ∃ j n i : Nat, j ≤ 4 ∧ n < 10 ^ j ∧ i ≤ s.size ∧ v3 = .int .i64 (n : Int) ∧ v6 = .int .i64 (j : Int) ∧ numGo s (4 - j) n i = numP s i0 ∧ Rdr wr r s i ∧ Chg (One r) w wr) (fun _ v _ => 4 - (intOf v).toNat)
  case atStart => exact ⟨0, 0, i0, by omega, by simp, h0i, rfl, rfl, rfl, h, Chg.refl _ _⟩
  case round =>
    obtain ⟨j, n, i, hj, hn, hi, rfl, rfl, hg, hr, hc⟩ := hrel
    have HG := Lib.hid hg; clear hg
    have c0 := hr.c0
    have c1 := hr.c1
    have f1 := hr.f1
    by_cases hlt : j < 4
    · have hn4 : n < 1000 := Nat.lt_of_lt_of_le hn (Nat.pow_le_pow_right (by omega) (show j ≤ 3 by omega))
      have hj1 : 4 - j = (3 - j) + 1 := by omega
      rw [hj1] at HG
      by_cases hlt2 : i < s.size
      · have hb := bt_lt s i hlt2
        by_cases hd : bt s i < 48 ∨ 57 < bt s i
        · have hd' : ((bt s i : Int) < 48) ∨ ¬ ((bt s i : Int) < 48) ∧ (bt s i : Int) > 57 := by omega
          by_cases hj0 : j = 0
          · subst hj0
            have hfin : numP s i0 = .bad 22 i := by
              rw [← HG.out]; unfold numGo; rw [if_neg (by omega), if_pos hd]; rfl
            have HF := Lib.hid hfin; clear hfin
            rcases hd' with hd1 | ⟨hd1, hd2⟩
            all_goals
              go_wp2_with (first | (go_at_call 132; refine (must_ok _ _ s i hr hlt2).mono ?_; rintro e w1 ⟨rfl, n1, rfl⟩) | (go_at_call 43; refine (wrong_any _ i).mono ?_; rintro e w1 ⟨rfl, rfl⟩))
              exact ⟨rfl, PPost.bad HF.out rfl (hc.drewN _)⟩
          · have hfin : numP s i0 = .ok n i := by
              rw [← HG.out]; unfold numGo; rw [if_neg (by omega), if_pos hd, if_neg (by omega)]
            have HF := Lib.hid hfin; clear hfin
            have hj2 : ((j : Int) == 0) = false := by simp; omega
            rcases hd' with hd1 | ⟨hd1, hd2⟩
            all_goals
              go_wp2_with (go_at_call 132; refine (must_ok _ _ s i hr hlt2).mono ?_; rintro e w1 ⟨rfl, n1, rfl⟩)
              go_ret
              exact PPost.ok HF.out rfl (hr.drewN _) (hc.drewN _)
        · have hd1 : ¬ (bt s i : Int) < 48 := by omega
          have hd2 : ¬ (bt s i : Int) > 57 := by omega
          have hnx : numGo s (4 - (j + 1)) (10 * n + (bt s i - 48)) (i + 1) = numP s i0 := by
            rw [← HG.out]; conv => rhs; unfold numGo
            rw [if_neg (by omega), if_neg hd, show 4 - (j + 1) = 3 - j by omega]
          have HX := Lib.hid hnx; clear hnx
          go_wp2_with (go_at_call 132; refine (must_ok _ _ s i hr hlt2).mono ?_; rintro e w1 ⟨rfl, n1, rfl⟩)
          refine ⟨⟨j + 1, 10 * n + (bt s i - 48), i + 1, by omega, ?_, by omega, ?_, by go_num, HX.out, (hr.drewN _).step, (hc.drewN _).setCell _ fun _ => rfl⟩, by simp [intOf]; omega⟩
          · rw [Nat.pow_succ]; omega
          · congr 1; omega
      · have hfin : numP s i0 = .bad 23 s.size := by
          rw [← HG.out]; unfold numGo; rw [if_pos (by omega)]
        have HF := Lib.hid hfin; clear hfin
        go_wp2_with (go_at_call 132; refine (must_no _ _ s i hr (by omega)).mono ?_; rintro e w1 ⟨rfl, n1, rfl⟩)
        exact ⟨rfl, PPost.bad HF.out rfl (hc.drewN _)⟩
    · obtain rfl : j = 4 := by omega
      have hfin : numP s i0 = .ok n i := by
        rw [← HG.out]; rfl
      have HF := Lib.hid hfin; clear hfin
      go_wp2
      go_ret
      exact PPost.ok HF.out rfl hr hc
end Go.Proofs.YticipgjbgcdccaaDoor
namespace Go.Proofs.YticipgjbgcdccaaDoor
open Go.RowKit

set_option maxHeartbeats 1000000 in
theorem escape_any (w : World) (r : Nat) (s : ByteArray) (i : Nat) (h : Rdr w r s i) (hs : s.size ≤ 65536) (hi : i < s.size) :
    Calls Tryd.prog 130 #[.pointer (some ⟨r, 0, none⟩)] w fun e w' => PPost (fun n : Nat => .int .u8 (n : Int)) (escP s i) r s w e w' := by
  have h0 := h.c0
  have h1 := h.c1
  have h2 := h.f1
  have hst := h.step
  have hc1 : Chg (One r) w (w.setCell ⟨r, 1, none⟩ (.int .i64 ((i : Int) + 1))) := (Chg.refl _ _).setCell _ fun _ => rfl
  by_cases he : s.size ≤ i + 1
  · have hfin : escP s i = .bad 23 s.size := by unfold escP; rw [if_pos he]
    have HF := Lib.hid hfin; clear hfin
    go_enter Tryd.func130, Tryd.ntmps130
    go_wp2_with (go_at_call 132; refine (must_no _ _ s _ hst he).mono ?_; rintro e w1 ⟨rfl, n1, rfl⟩)
    exact ⟨rfl, PPost.bad HF.out rfl (hc1.drewN _)⟩
  · have hlt : i + 1 < s.size := by omega
    have hb := bt_lt s _ hlt
    obtain ⟨c, hcb⟩ : ∃ c, bt s (i + 1) = c := ⟨_, rfl⟩
    have hfin : escP s i = if c = 110 then .ok 10 (i + 2) else if c = 114 then .ok 13 (i + 2) else if c = 116 then .ok 9 (i + 2) else if c = 120 then hexP s i (i + 2)
        else if c ≤ 32 ∨ 126 < c ∨ wordP c = true then .bad 22 i else .ok c (i + 2) := by unfold escP; rw [if_neg he, hcb]
    rw [hcb] at hb
    have HCB := Lib.hid hcb; clear hcb
    have hst2 : ∀ n1 : Nat, Rdr (((w.setCell ⟨r, 1, none⟩ (.int .i64 ((i : Int) + 1))).drewN n1).setCell ⟨r, 1, none⟩ (.int .i64 ((i : Int) + 1 + 1))) r s (i + 2) := fun n1 => (hst.drewN n1).step
    have hc2 : ∀ n1 : Nat, Chg (One r) w (((w.setCell ⟨r, 1, none⟩ (.int .i64 ((i : Int) + 1))).drewN n1).setCell ⟨r, 1, none⟩ (.int .i64 ((i : Int) + 1 + 1))) := fun n1 => (hc1.drewN n1).setCell _ fun _ => rfl
    have e1 := hst.c1
    have e0 := hst.c0
    have e2 := hst.f1
    by_cases k0 : c = 110
    · rw [if_pos k0] at hfin
      subst k0
      have HF := Lib.hid hfin; clear hfin
      go_enter Tryd.func130, Tryd.ntmps130
      go_wp2_with (go_at_call 132; refine (must_ok _ _ s _ hst hlt).mono ?_; rintro e w1 ⟨rfl, n1, rfl⟩; rw [HCB.out])
      go_ret
      exact PPost.ok HF.out rfl (hst2 _) (hc2 _)
    rw [if_neg k0] at hfin
    by_cases k1 : c = 114
    · rw [if_pos k1] at hfin
      subst k1
      have HF := Lib.hid hfin; clear hfin
      go_enter Tryd.func130, Tryd.ntmps130
      go_wp2_with (go_at_call 132; refine (must_ok _ _ s _ hst hlt).mono ?_; rintro e w1 ⟨rfl, n1, rfl⟩; rw [HCB.out])
      go_ret
      exact PPost.ok HF.out rfl (hst2 _) (hc2 _)
    rw [if_neg k1] at hfin
    by_cases k2 : c = 116
    · rw [if_pos k2] at hfin
      subst k2
      have HF := Lib.hid hfin; clear hfin
      go_enter Tryd.func130, Tryd.ntmps130
      go_wp2_with (go_at_call 132; refine (must_ok _ _ s _ hst hlt).mono ?_; rintro e w1 ⟨rfl, n1, rfl⟩; rw [HCB.out])
      go_ret
      exact PPost.ok HF.out rfl (hst2 _) (hc2 _)
    rw [if_neg k2] at hfin
    by_cases k3 : c = 120
    · rw [if_pos k3] at hfin
      subst k3
      have HF := Lib.hid hfin; clear hfin
      go_enter Tryd.func130, Tryd.ntmps130
      go_wp2_with (go_at_call 132; refine (must_ok _ _ s _ hst hlt).mono ?_; rintro e w1 ⟨rfl, n1, rfl⟩; rw [HCB.out])
      go_loopw [5, 39] (fun v5 v39 wr => ∃ j n : Nat, j ≤ 2 ∧ n < 16 ^ j ∧ i + 2 + j ≤ s.size ∧ v5 = .int .i64 (n : Int) ∧ v39 = .int .i64 (j : Int) ∧ hexGo s i (2 - j) n (i + 2 + j) = escP s i ∧ Rdr wr r s (i + 2 + j) ∧ Chg (One r) w wr) (fun _ v _ => 2 - (intOf v).toNat)
      case atStart => exact ⟨0, 0, by omega, by simp, by omega, rfl, rfl, HF.out.symm, hst2 _, hc2 _⟩
      case round =>
        obtain ⟨j, n, hj, hn, hi2, rfl, rfl, hg, hr, hc⟩ := hrel
        have HG := Lib.hid hg; clear hg
        have c0 := hr.c0
        have c1 := hr.c1
        have f1 := hr.f1
        by_cases hlj : j < 2
        · have hn4 : n < 16 := Nat.lt_of_lt_of_le hn (Nat.pow_le_pow_right (by omega) (show j ≤ 1 by omega))
          have hj1 : 2 - j = (1 - j) + 1 := by omega
          rw [hj1] at HG
          by_cases hlt2 : i + 2 + j < s.size
          · have hb2 := bt_lt s _ hlt2
            have hdl := digitP_lt (bt s (i + 2 + j))
            obtain ⟨d, hd⟩ : ∃ d, digitP (bt s (i + 2 + j)) = d := ⟨_, rfl⟩
            rw [hd] at hdl
            by_cases hd0 : d < 0
            · have hfin : escP s i = .bad 22 i := by
                rw [← HG.out]; unfold hexGo; rw [if_neg (by omega), hd, if_pos hd0]
              have HF := Lib.hid hfin; clear hfin
              have HD := Lib.hid hd; clear hd
              go_wp2_with (first | (go_at_call 132; refine (must_ok _ _ s _ hr hlt2).mono ?_; rintro e w1 ⟨rfl, n1, rfl⟩) | (go_at_call 142; refine (digit_any _ _ hb2).mono ?_; rintro e w1 ⟨rfl, rfl⟩; rw [HD.out]) | (go_at_call 43; refine (wrong_any _ i).mono ?_; rintro e w1 ⟨rfl, rfl⟩))
              exact ⟨rfl, PPost.bad HF.out rfl (hc.drewN _)⟩
            · have hnx : hexGo s i (2 - (j + 1)) (16 * n + d.toNat) (i + 2 + (j + 1)) = escP s i := by
                rw [← HG.out]; conv => rhs; unfold hexGo
                rw [if_neg (by omega), hd, if_neg hd0, show 2 - (j + 1) = 1 - j by omega]; rfl
              have HX := Lib.hid hnx; clear hnx
              have HD := Lib.hid hd; clear hd
              go_wp2_with (first | (go_at_call 132; refine (must_ok _ _ s _ hr hlt2).mono ?_; rintro e w1 ⟨rfl, n1, rfl⟩) | (go_at_call 142; refine (digit_any _ _ hb2).mono ?_; rintro e w1 ⟨rfl, rfl⟩; rw [HD.out]))
              have hst3 := (hr.drewN n1).step
              refine ⟨⟨j + 1, 16 * n + d.toNat, by omega, ?_, by omega, ?_, by go_num, HX.out, hst3, (hc.drewN _).setCell _ fun _ => rfl⟩, by simp [intOf]; omega⟩
              · rw [Nat.pow_succ]; omega
              · congr 1; omega
          · have hfin : escP s i = .bad 23 s.size := by
              rw [← HG.out]; unfold hexGo; rw [if_pos (by omega)]
            have HF := Lib.hid hfin; clear hfin
            go_wp2_with (go_at_call 132; refine (must_no _ _ s _ hr (by omega)).mono ?_; rintro e w1 ⟨rfl, n1, rfl⟩)
            exact ⟨rfl, PPost.bad HF.out rfl (hc.drewN _)⟩
        · obtain rfl : j = 2 := by omega
          have hfin : escP s i = .ok n (i + 2 + 2) := by rw [← HG.out]; rfl
          have HF := Lib.hid hfin; clear hfin
          have hn256 : n < 256 := by simpa using hn
          go_wp2
          go_ret
          exact PPost.ok HF.out rfl hr hc
    rw [if_neg k3] at hfin
    have b0 : ((c : Int) == 110) = false := by simp; omega
    have b1 : ((c : Int) == 114) = false := by simp; omega
    have b2 : ((c : Int) == 116) = false := by simp; omega
    have b3 : ((c : Int) == 120) = false := by simp; omega
    clear k0 k1 k2 k3
    by_cases k4 : c ≤ 32 ∨ 126 < c ∨ wordP c = true
    · rw [if_pos k4] at hfin
      have HF := Lib.hid hfin; clear hfin
      have k5 : ((c : Int) ≤ 32) ∨ ((¬ (c : Int) ≤ 32) ∧ (c : Int) > 126) ∨ ((¬ (c : Int) ≤ 32) ∧ (¬ (c : Int) > 126) ∧ wordP c = true) := by
        rcases k4 with k4 | k4 | k4
        · left; omega
        · right; left; omega
        · by_cases q1 : (c : Int) ≤ 32
          · left; exact q1
          · by_cases q2 : (c : Int) > 126
            · right; left; exact ⟨q1, q2⟩
            · right; right; exact ⟨q1, q2, k4⟩
      clear k4
      rcases k5 with k5 | ⟨k5, k6⟩ | ⟨k5, k6, k7⟩
      all_goals
        go_enter Tryd.func130, Tryd.ntmps130
        go_wp2_with (first | (go_at_call 132; refine (must_ok _ _ s _ hst hlt).mono ?_; rintro e w1 ⟨rfl, n1, rfl⟩; rw [HCB.out]) | (go_at_call 143; refine (word_any _ _).mono ?_; rintro e w1 ⟨rfl, rfl⟩) | (go_at_call 43; refine (wrong_any _ i).mono ?_; rintro e w1 ⟨rfl, rfl⟩))
        exact ⟨rfl, PPost.bad HF.out rfl (hc2 _)⟩
    · rw [if_neg k4] at hfin
      have HF := Lib.hid hfin; clear hfin
      have k5 : ¬ (c : Int) ≤ 32 := by omega
      have k6 : ¬ (c : Int) > 126 := by omega
      have k7 : wordP c = false := by simp only [not_or] at k4; simpa using k4.2.2
      clear k4
      go_enter Tryd.func130, Tryd.ntmps130
      go_wp2_with (first | (go_at_call 132; refine (must_ok _ _ s _ hst hlt).mono ?_; rintro e w1 ⟨rfl, n1, rfl⟩; rw [HCB.out]) | (go_at_call 143; refine (word_any _ _).mono ?_; rintro e w1 ⟨rfl, rfl⟩))
      go_ret
      exact PPost.ok HF.out rfl (hst2 _) (hc2 _)

set_option maxHeartbeats 1000000 in
theorem one_any (w : World) (r : Nat) (s : ByteArray) (b : Bool) (i : Nat) (h : Rdr w r s i) (hs : s.size ≤ 65536) :
    Calls Tryd.prog 144 #[.pointer (some ⟨r, 0, none⟩), .bool b] w fun e w' => PPost (fun n : Nat => .int .u8 (n : Int)) (oneP s b i) r s w e w' := by
  have h0 := h.c0
  have h1 := h.c1
  have h2 := h.f1
  by_cases he : s.size ≤ i
  · have hfin : oneP s b i = .bad 23 s.size := by unfold oneP; rw [if_pos he]
    have HF := Lib.hid hfin; clear hfin
    go_enter Tryd.func144, Tryd.ntmps144
    go_wp2_with (go_at_call 132; refine (must_no _ _ s _ h he).mono ?_; rintro e w1 ⟨rfl, n1, rfl⟩)
    exact ⟨rfl, PPost.bad HF.out rfl ((Chg.refl _ _).drewN _)⟩
  · have hlt : i < s.size := by omega
    have hb := bt_lt s _ hlt
    obtain ⟨c, hcb⟩ : ∃ c, bt s i = c := ⟨_, rfl⟩
    have hfin : oneP s b i = if c = 92 then escP s i else if printableP c = false ∨ hasP classSignsP c = true ∨ (b = true ∧ c = 94) then .bad 22 i else .ok c (i + 1) := by unfold oneP; rw [if_neg he, hcb]
    rw [hcb] at hb
    have HCB := Lib.hid hcb; clear hcb
    by_cases k0 : c = 92
    · rw [if_pos k0] at hfin
      subst k0
      have HF := Lib.hid hfin; clear hfin
      go_enter Tryd.func144, Tryd.ntmps144
      go_wp2_with (go_at_call 132; refine (must_ok _ _ s _ h hlt).mono ?_; rintro e w1 ⟨rfl, n1, rfl⟩; rw [HCB.out])
      refine (escape_any _ _ s i (h.drewN _) hs hlt).mono ?_
      intro e w2 hp
      rw [← HF.out] at hp
      cases hq : oneP s b i with
      | ok a j =>
        rw [hq] at hp
        obtain ⟨rfl, hr, hc⟩ := hp
        have HQ := Lib.hid hq; clear hq
        go_wp2
        go_ret
        exact PPost.ok HQ.out rfl hr (((Chg.refl _ _).drewN _).trans hc)
      | bad a j =>
        rw [hq] at hp
        obtain ⟨rfl, hc⟩ := hp
        exact ⟨rfl, PPost.bad hq rfl (((Chg.refl _ _).drewN _).trans hc)⟩
    rw [if_neg k0] at hfin
    have b0 : ((c : Int) == 92) = false := by simp; omega
    obtain ⟨p, hp⟩ : ∃ p, printableP c = p := ⟨_, rfl⟩
    obtain ⟨q, hq⟩ : ∃ q, hasP classSignsP c = q := ⟨_, rfl⟩
    obtain ⟨u, hu⟩ : ∃ u : Bool, ((c : Int) == 94) = u := ⟨_, rfl⟩
    have hu' : (c = 94) = (u = true) := by rw [← hu]; simp; omega
    simp only [hp, hq, hu'] at hfin
    clear hu' k0
    have HF := Lib.hid hfin; clear hfin
    have HP := Lib.hid hp; clear hp
    have HQ := Lib.hid hq; clear hq
    cases p <;> cases q <;> cases b <;> cases u
    all_goals
      have HF1 := HF.out
      simp at HF1
      have HF2 := Lib.hid HF1; clear HF1
      go_enter Tryd.func144, Tryd.ntmps144
      go_wp2_with (first | (go_at_call 132; refine (must_ok _ _ s _ h hlt).mono ?_; rintro e w1 ⟨rfl, n1, rfl⟩; rw [HCB.out]) | (go_at_call 136; refine (printable_any _ _).mono ?_; rintro e w1 ⟨rfl, rfl⟩; rw [HP.out]) | (go_at_call 137; refine (has_classSigns _ _).mono ?_; rintro e w1 ⟨rfl, rfl⟩; rw [HQ.out]) | (go_at_call 43; refine (wrong_any _ i).mono ?_; rintro e w1 ⟨rfl, rfl⟩))
      first
        | exact ⟨rfl, PPost.bad HF2.out rfl ((Chg.refl _ _).drewN _)⟩
        | (go_ret; exact PPost.ok HF2.out rfl (h.drewN _).step (((Chg.refl _ _).drewN _).setCell _ fun _ => rfl))

set_option maxHeartbeats 1000000 in
theorem braces_any (w : World) (r : Nat) (s : ByteArray) (i : Nat) (h : Rdr w r s i) (hs : s.size ≤ 65536) (hi : i < s.size) :
    Calls Tryd.prog 128 #[.pointer (some ⟨r, 0, none⟩)] w fun e w' => PPost (fun x : Int × Int => .tuple #[.int .i64 x.1, .int .i64 x.2]) (bracesP s i) r s w e w' := by
  have h0 := h.c0
  have h1 := h.c1
  have h2 := h.f1
  have hst := h.step
  have hc1 : Chg (One r) w (w.setCell ⟨r, 1, none⟩ (.int .i64 ((i : Int) + 1))) := (Chg.refl _ _).setCell _ fun _ => rfl
  go_enter Tryd.func128, Tryd.ntmps128
  go_wp2_with fail
  refine (number_any _ _ s (i + 1) hst hs (by omega)).mono ?_
  intro e w2 hp
  cases hq : numP s (i + 1) with
  | bad a j =>
    rw [hq] at hp
    obtain ⟨rfl, hc⟩ := hp
    exact ⟨rfl, PPost.bad (by unfold bracesP; rw [hq]) rfl (hc1.trans hc)⟩
  | ok m j =>
    rw [hq] at hp
    obtain ⟨rfl, hr, hc⟩ := hp
    obtain ⟨hj1, hj2, hm⟩ := numP_ok s _ m j (by omega) hq
    have hc2 := hc1.trans hc
    have hfin : bracesP s i = if s.size ≤ j then .bad 23 s.size
        else if bt s j = 44 then (if s.size ≤ j + 1 then .bad 23 s.size else if bt s (j + 1) = 125 then closeB s i m (-1) (j + 1)
          else match numP s (j + 1) with | .bad c p => .bad c p | .ok k j2 => closeB s i m k j2)
        else closeB s i m m j := by unfold bracesP; rw [hq] <;> rfl
    clear hq hc hc1 hst h0 h1 h2 h
    by_cases he : s.size ≤ j
    · rw [if_pos he] at hfin
      have HF := Lib.hid hfin; clear hfin
      go_wp2_with fail
      refine (must_no _ _ s _ hr he).mono ?_
      rintro e w3 ⟨rfl, n1, rfl⟩
      exact ⟨rfl, PPost.bad HF.out rfl (hc2.drewN _)⟩
    rw [if_neg he] at hfin
    have hlt : j < s.size := by omega
    go_wp2_with fail
    refine (must_ok _ _ s _ hr hlt).mono ?_
    rintro e w3 ⟨rfl, n1, rfl⟩
    by_cases h44 : bt s j = 44
    · rw [if_pos h44] at hfin
      have ht := took_yes _ r s j 44 (hr.drewN n1) hs h44 (by omega)
      have HT := Lib.hid ht; clear ht h44
      go_wp2_with fail
      refine HT.out.mono ?_
      rintro e w4 ⟨rfl, hr4, hc4⟩
      have hc5 := (hc2.drewN n1).trans hc4
      clear hc4 hc2 HT
      by_cases he4 : s.size ≤ j + 1
      · rw [if_pos he4] at hfin
        have HF := Lib.hid hfin; clear hfin
        go_wp2_with fail
        refine (must_no _ _ s _ hr4 he4).mono ?_
        rintro e w3 ⟨rfl, n2, rfl⟩
        exact ⟨rfl, PPost.bad HF.out rfl (hc5.drewN _)⟩
      rw [if_neg he4] at hfin
      go_wp2_with fail
      refine (must_ok _ _ s _ hr4 (by omega)).mono ?_
      rintro e w3 ⟨rfl, n2, rfl⟩
      by_cases h125 : bt s (j + 1) = 125
      · rw [if_pos h125] at hfin
        have b5 : ((bt s (j + 1) : Int) != 125) = false := by simp; omega
        have hr5 := hr4
        have hc6 := hc5
        have H125 := Lib.hid h125; clear h125
        go_wp2_with fail
        unfold closeB at hfin
        by_cases he3 : s.size ≤ j + 1
        · rw [if_pos he3] at hfin
          have HF := Lib.hid hfin; clear hfin
          refine (must_no _ _ s _ (by first | exact hr5 | exact hr5.drewN _) he3).mono ?_
          rintro e w6 ⟨rfl, n6, rfl⟩
          exact ⟨rfl, PPost.bad HF.out rfl (by repeat (first | exact hc6 | apply Chg.drewN | (refine Chg.setCell ?_ _ (fun _ => rfl))))⟩
        rw [if_neg he3] at hfin
        have c60 := hr5.c0
        have c61 := hr5.c1
        have f61 := hr5.f1
        refine (must_ok _ _ s _ (by first | exact hr5 | exact hr5.drewN _) (by omega)).mono ?_
        rintro e w6 ⟨rfl, n6, rfl⟩
        by_cases hx : bt s (j + 1) = 125
        · rw [if_neg (by simpa using hx)] at hfin
          have b6 : ((bt s (j + 1) : Int) != 125) = false := by simp; omega
          have HF := Lib.hid hfin; clear hfin hx
          go_wp2_with fail
          all_goals first
            | exact ⟨rfl, PPost.bad (HF.out.trans (if_pos (by omega))) rfl (by repeat (first | exact hc6 | apply Chg.drewN | (refine Chg.setCell ?_ _ (fun _ => rfl))))⟩
            | (go_ret2; exact PPost.ok (HF.out.trans (if_neg (by omega))) rfl (by first | exact (hr5.drewN _).step | exact ((hr5.drewN _).drewN _).step) (by repeat (first | exact hc6 | apply Chg.drewN | (refine Chg.setCell ?_ _ (fun _ => rfl)))))
        · exact absurd H125.out hx
      · rw [if_neg h125] at hfin
        have b5 : ((bt s (j + 1) : Int) != 125) = true := by simp; omega
        clear h125
        go_wp2_with fail
        refine (number_any _ _ s (j + 1) (hr4.drewN n2) hs (by omega)).mono ?_
        intro e w5 hp5
        cases hq5 : numP s (j + 1) with
        | bad a p =>
          rw [hq5] at hp5 hfin
          obtain ⟨rfl, hc7⟩ := hp5
          exact ⟨rfl, PPost.bad hfin rfl ((hc5.drewN _).trans hc7)⟩
        | ok k j2 =>
          rw [hq5] at hp5 hfin
          dsimp only at hfin
          obtain ⟨rfl, hr5, hc7⟩ := hp5
          obtain ⟨hj3, hj4, hk⟩ := numP_ok s _ k j2 (by omega) hq5
          have hc6 := (hc5.drewN n2).trans hc7
          clear hq5 hc7 hc5
          unfold closeB at hfin
          by_cases he3 : s.size ≤ j2
          · rw [if_pos he3] at hfin
            have HF := Lib.hid hfin; clear hfin
            go_wp2_with fail
            refine (must_no _ _ s _ (by first | exact hr5 | exact hr5.drewN _) he3).mono ?_
            rintro e w6 ⟨rfl, n6, rfl⟩
            exact ⟨rfl, PPost.bad HF.out rfl (by repeat (first | exact hc6 | apply Chg.drewN | (refine Chg.setCell ?_ _ (fun _ => rfl))))⟩
          rw [if_neg he3] at hfin
          have c60 := hr5.c0
          have c61 := hr5.c1
          have f61 := hr5.f1
          go_wp2_with fail
          refine (must_ok _ _ s _ (by first | exact hr5 | exact hr5.drewN _) (by omega)).mono ?_
          rintro e w6 ⟨rfl, n6, rfl⟩
          by_cases hx : bt s (j2) = 125
          · rw [if_neg (by simpa using hx)] at hfin
            have b6 : ((bt s (j2) : Int) != 125) = false := by simp; omega
            have HF := Lib.hid hfin; clear hfin hx
            go_wp2_with fail
            all_goals first
              | exact ⟨rfl, PPost.bad (HF.out.trans (if_pos (by omega))) rfl (by repeat (first | exact hc6 | apply Chg.drewN | (refine Chg.setCell ?_ _ (fun _ => rfl))))⟩
              | (go_ret2; exact PPost.ok (HF.out.trans (if_neg (by omega))) rfl (by first | exact (hr5.drewN _).step | exact ((hr5.drewN _).drewN _).step) (by repeat (first | exact hc6 | apply Chg.drewN | (refine Chg.setCell ?_ _ (fun _ => rfl)))))
          · rw [if_pos (by simpa using hx)] at hfin
            have b6 : ((bt s (j2) : Int) != 125) = true := by simp; omega
            have HF := Lib.hid hfin; clear hfin hx
            go_wp2_with (go_at_call 43; refine (wrong_any _ (j2)).mono ?_; rintro e w7 ⟨rfl, rfl⟩)
            exact ⟨rfl, PPost.bad HF.out rfl (by repeat (first | exact hc6 | apply Chg.drewN | (refine Chg.setCell ?_ _ (fun _ => rfl))))⟩
    · rw [if_neg h44] at hfin
      have ht := took_no _ r s j 44 (hr.drewN n1) h44 (by omega)
      have HT := Lib.hid ht; clear ht h44
      go_wp2_with fail
      refine HT.out.mono ?_
      rintro e w4 ⟨rfl, n4, rfl⟩
      have hr5 := hr
      have hc6 := hc2
      unfold closeB at hfin
      by_cases he3 : s.size ≤ j
      · rw [if_pos he3] at hfin
        have HF := Lib.hid hfin; clear hfin
        go_wp2_with fail
        refine (must_no _ _ s _ (by first | exact hr5 | exact hr5.drewN _) he3).mono ?_
        rintro e w6 ⟨rfl, n6, rfl⟩
        exact ⟨rfl, PPost.bad HF.out rfl (by repeat (first | exact hc6 | apply Chg.drewN | (refine Chg.setCell ?_ _ (fun _ => rfl))))⟩
      rw [if_neg he3] at hfin
      have c60 := hr5.c0
      have c61 := hr5.c1
      have f61 := hr5.f1
      go_wp2_with fail
      refine (must_ok _ _ s _ (by first | exact hr5 | exact hr5.drewN _) (by omega)).mono ?_
      rintro e w6 ⟨rfl, n6, rfl⟩
      by_cases hx : bt s (j) = 125
      · rw [if_neg (by simpa using hx)] at hfin
        have b6 : ((bt s (j) : Int) != 125) = false := by simp; omega
        have HF := Lib.hid hfin; clear hfin hx
        go_wp2_with fail
        all_goals first
          | exact ⟨rfl, PPost.bad (HF.out.trans (if_pos (by omega))) rfl (by repeat (first | exact hc6 | apply Chg.drewN | (refine Chg.setCell ?_ _ (fun _ => rfl))))⟩
          | (go_ret2; exact PPost.ok (HF.out.trans (if_neg (by omega))) rfl (by first | exact (hr5.drewN _).step | exact ((hr5.drewN _).drewN _).step) (by repeat (first | exact hc6 | apply Chg.drewN | (refine Chg.setCell ?_ _ (fun _ => rfl)))))
      · rw [if_pos (by simpa using hx)] at hfin
        have b6 : ((bt s (j) : Int) != 125) = true := by simp; omega
        have HF := Lib.hid hfin; clear hfin hx
        go_wp2_with (go_at_call 43; refine (wrong_any _ (j)).mono ?_; rintro e w7 ⟨rfl, rfl⟩)
        exact ⟨rfl, PPost.bad HF.out rfl (by repeat (first | exact hc6 | apply Chg.drewN | (refine Chg.setCell ?_ _ (fun _ => rfl))))⟩
end Go.Proofs.YticipgjbgcdccaaDoor
namespace Go.Proofs.YticipgjbgcdccaaDoor
open Go.RowKit

theorem Sl.chgb {w w' : World} {S T : Nat → Prop} {A : Option Addr} {n c : Nat} {l : List Ex} (h : Sl w S A n c l) (hc : Chg T w w') (hn : ∀ k, S k → k < w.heap.size → ¬ T k) : Sl w' S A n c l :=
  h.keep (fun k hk hz => hc.block k hz (hn k hk hz)) (fun _ hk _ => hk) hc.size
/-- a new row of one value -/
theorem Sl.one {w : World} {S : Nat → Prop} {y : Ex} {A : Option Addr} {n c : Nat} (hy : Sl w S A n c y.l) (hs : S w.heap.size) :
    Sl (w.alloc (.cells #[.int .i64 y.k, .int .i64 y.f, .int .i64 y.t, .int .i64 y.a, .int .i64 y.b, .slice A n c] 25)) S (some ⟨w.heap.size, 0, none⟩) 1 1 [y] := by
  refine ⟨rfl, by simp, by omega, fun _ => ⟨w.heap.size, 0, rfl, hs, by simp, ?_⟩⟩
  have hb := Blk.new w 25 #[.int .i64 y.k, .int .i64 y.f, .int .i64 y.t, .int .i64 y.a, .int .i64 y.b, .slice A n c]
  have hy' := hy.alloc (.cells #[.int .i64 y.k, .int .i64 y.f, .int .i64 y.t, .int .i64 y.a, .int .i64 y.b, .slice A n c] 25)
  unfold LsAt
  refine ⟨?_, by unfold LsAt; trivial⟩
  cases y with
  | mk k f t a b l =>
    obtain ⟨h1, h2, h3, h4⟩ := hy'
    have h1 : n = l.length := h1
    subst h1
    unfold ExAt
    exact ⟨hb.cell 0, hb.cell 1, hb.cell 2, hb.cell 3, hb.cell 4, A, c, hb.cell 5, h2, h3, h4⟩

/-- the cells of a row of patterns; S: where their own lists may lie -/
def RowOk (w : World) (S : Nat → Prop) : List Ex → List Value → Prop
  | [], cs => cs = []
  | x :: xs, cs => ∃ A n c rest, cs = [.int .i64 x.k, .int .i64 x.f, .int .i64 x.t, .int .i64 x.a, .int .i64 x.b, .slice A n c] ++ rest ∧ Sl w S A n c x.l ∧ RowOk w S xs rest

/-- a row of the call's own, from block base on -/
def Own (w : World) (base : Nat) (v : Value) (l : List Ex) : Prop :=
  ∃ cs, w.ownsRow base 25 6 v l.length cs ∧ RowOk w (fun k => base ≤ k ∧ some k ≠ v.ownBlock) l cs

theorem RowOk.length {w : World} {S : Nat → Prop} : ∀ {l : List Ex} {cs : List Value}, RowOk w S l cs → cs.length = 6 * l.length
  | [], cs, h => by unfold RowOk at h; subst h; rfl
  | x :: xs, cs, h => by
    unfold RowOk at h
    obtain ⟨A, n, c, rest, rfl, _, hr⟩ := h
    have := RowOk.length hr
    simp [this]; omega
theorem RowOk.keep {w w' : World} {S S' : Nat → Prop} (hw : ∀ k, S k → k < w.heap.size → w'.heap[k]? = w.heap[k]?) (hs : ∀ k, S k → k < w.heap.size → S' k) (hz : w.heap.size ≤ w'.heap.size) :
    ∀ {l : List Ex} {cs : List Value}, RowOk w S l cs → RowOk w' S' l cs
  | [], cs, h => h
  | x :: xs, cs, h => by
    unfold RowOk at h ⊢
    obtain ⟨A, n, c, rest, e, hx, hr⟩ := h
    exact ⟨A, n, c, rest, e, hx.keep hw hs hz, RowOk.keep hw hs hz hr⟩
theorem RowOk.snoc {w : World} {S : Nat → Prop} {y : Ex} {A : Option Addr} {n c : Nat} (hy : Sl w S A n c y.l) :
    ∀ {l : List Ex} {cs : List Value}, RowOk w S l cs → RowOk w S (l ++ [y]) (cs ++ [.int .i64 y.k, .int .i64 y.f, .int .i64 y.t, .int .i64 y.a, .int .i64 y.b, .slice A n c])
  | [], cs, h => by
    unfold RowOk at h; subst h
    exact ⟨A, n, c, [], by simp, hy, rfl⟩
  | x :: xs, cs, h => by
    unfold RowOk at h
    obtain ⟨A', n', c', rest, rfl, hx, hr⟩ := h
    exact ⟨A', n', c', _, by rw [List.append_assoc], hx, RowOk.snoc hy hr⟩
/-- a row's cells, where they lie -/
theorem RowOk.at_ {w : World} {S : Nat → Prop} {g : Nat} : ∀ {l : List Ex} {cs : List Value} (o : Nat), RowOk w S l cs → (∀ j u, cs[j]? = some u → w.cell? ⟨g, o + j, none⟩ = some u) → LsAt w S g o l
  | [], cs, o, h, _ => by unfold LsAt; trivial
  | x :: xs, cs, o, h, hc => by
    unfold RowOk at h
    obtain ⟨A, n, c, rest, rfl, hx, hr⟩ := h
    unfold LsAt
    refine ⟨?_, RowOk.at_ (o + 6) hr fun j u hu => ?_⟩
    · cases x with
      | mk k f t a b l' =>
        obtain ⟨h1, h2, h3, h4⟩ := hx
        unfold ExAt
        have h1 : n = l'.length := h1
        subst h1
        exact ⟨hc 0 _ rfl, hc 1 _ rfl, hc 2 _ rfl, hc 3 _ rfl, hc 4 _ rfl, A, c, hc 5 _ rfl, h2, h3, h4⟩
    · have := hc (j + 6) u (by simpa using hu)
      rwa [show o + (j + 6) = o + 6 + j by omega] at this

namespace Own
variable {w w' : World} {base : Nat} {v : Value} {l : List Ex}
theorem nil (w : World) (base : Nat) : Own w base (.slice none 0 0) [] := ⟨[], ⟨by simp, .inl ⟨rfl, rfl⟩⟩, rfl⟩
theorem lt (h : Own w base v l) : ∀ k, v.ownBlock = some k → base ≤ k ∧ k < w.heap.size := by
  obtain ⟨cs, ⟨_, h⟩, _⟩ := h
  intro k hk
  rcases h with ⟨rfl, _⟩ | ⟨g, cap, cur, rfl, hb, hh, _⟩
  · simp [Value.ownBlock] at hk
  · have : g = k := by simpa [Value.ownBlock] using hk
    subst this
    exact ⟨hb, by
      rcases Nat.lt_or_ge g w.heap.size with q | q
      · exact q
      · rw [Array.getElem?_eq_none q] at hh; cases hh⟩
theorem keep (h : Own w base v l) (hw : ∀ k, base ≤ k → k < w.heap.size → w'.heap[k]? = w.heap[k]?) (hz : w.heap.size ≤ w'.heap.size) : Own w' base v l := by
  have hlt := h.lt
  obtain ⟨cs, ⟨h1, h2⟩, h3⟩ := h
  refine ⟨cs, ⟨h1, ?_⟩, h3.keep (fun k hk hz => hw k hk.1 hz) (fun k hk _ => hk) hz⟩
  rcases h2 with h2 | ⟨g, cap, cur, rfl, hb, hh, hr⟩
  · exact .inl h2
  · exact .inr ⟨g, cap, cur, rfl, hb, (hw g hb (hlt g rfl).2).trans hh, hr⟩
theorem chg {T : Nat → Prop} (h : Own w base v l) (hc : Chg T w w') (hT : ∀ k, base ≤ k → ¬ T k) : Own w' base v l := h.keep (fun k hk hz => hc.block k hz (hT k hk)) hc.size
theorem lower {base' : Nat} (h : Own w base v l) (hb : base' ≤ base) : Own w base' v l := by
  obtain ⟨cs, ⟨h1, h2⟩, h3⟩ := h
  refine ⟨cs, ⟨h1, ?_⟩, h3.keep (fun _ _ _ => rfl) (fun k hk _ => ⟨by omega, hk.2⟩) (Nat.le_refl _)⟩
  rcases h2 with h2 | ⟨g, cap, cur, rfl, hb', hr⟩
  · exact .inl h2
  · exact .inr ⟨g, cap, cur, rfl, by omega, hr⟩
theorem form (h : Own w base v l) : ∃ A c, v = .slice A l.length c ∧ Sl w (fun k => base ≤ k) A l.length c l := by
  obtain ⟨cs, ⟨h1, h2⟩, h3⟩ := h
  rcases h2 with ⟨rfl, h0⟩ | ⟨g, cap, cur, rfl, hb, hh, h4, h5, h6, h7⟩
  · have : l = [] := List.eq_nil_of_length_eq_zero h0
    subst this
    exact ⟨none, 0, rfl, rfl, Nat.le_refl _, by simp, fun h => absurd rfl h⟩
  · have hg : g < w.heap.size := by
      rcases Nat.lt_or_ge g w.heap.size with q | q
      · exact q
      · rw [Array.getElem?_eq_none q] at hh; cases hh
    refine ⟨some ⟨g, 0, none⟩, cap, rfl, rfl, h4, by simpa [maxLen] using h5, fun _ => ⟨g, 0, rfl, hb, hg, ?_⟩⟩
    have h8 := RowOk.at_ (g := g) (S := fun k => base ≤ k ∧ some k ≠ (Value.slice (some ⟨g, 0, none⟩) l.length cap).ownBlock) 0 h3 (fun j u hu => by
      rw [Nat.zero_add]
      have : cur[j]? = some u := by
        rw [← h7, List.getElem?_take] at hu
        split at hu
        · simpa using hu
        · cases hu
      rw [cell_of_row w g j cur _ _ hh, this])
    exact LsAt.keep' h8 fun k hk => hk.1
/-- a new block of one value -/
theorem one (w : World) {base : Nat} (y : Ex) {A : Option Addr} {n c : Nat} (hb : base ≤ w.heap.size) (hy : Sl w (fun k => base ≤ k) A n c y.l) :
    Own (w.alloc (.cells #[.int .i64 y.k, .int .i64 y.f, .int .i64 y.t, .int .i64 y.a, .int .i64 y.b, .slice A n c] 25)) base (.slice (some ⟨w.heap.size, 0, none⟩) 1 1) [y] := by
  refine ⟨_, ⟨rfl, .inr ⟨w.heap.size, 1, _, rfl, hb, heap_alloc_new w _, Nat.le_refl _, by simp [maxLen], rfl, rfl⟩⟩, A, n, c, [], rfl, ?_, rfl⟩
  refine hy.keep (fun k _ hz => Below.heap_alloc w _ k hz) (fun k hk hz => ⟨hk, ?_⟩) (by simp)
  simp [Value.ownBlock]; omega
/-- the last value's To is turned -/
theorem setTo {g cap : Nat} {x : Ex} (h : Own w base (.slice (some ⟨g, 0, none⟩) (l.length + 1) cap) (l ++ [x])) (c : Int) :
    Own (w.setCell ⟨g, l.length * 6 + 2, none⟩ (.int .i64 c)) base (.slice (some ⟨g, 0, none⟩) (l.length + 1) cap) (l ++ [.mk x.k x.f c x.a x.b x.l]) := by
  obtain ⟨cs, ⟨h1, h2⟩, h3⟩ := h
  have hs : ∀ l' : List Ex, ∀ cs : List Value, ∀ S : Nat → Prop, RowOk w S (l' ++ [x]) cs → RowOk w S (l' ++ [.mk x.k x.f c x.a x.b x.l]) (cs.set (l'.length * 6 + 2) (.int .i64 c)) := by
    intro l'
    induction l' with
    | nil =>
      intro cs S h
      simp only [List.nil_append, RowOk] at h ⊢
      obtain ⟨A, n, c', rest, rfl, hx, rfl⟩ := h
      exact ⟨A, n, c', [], by simp [Ex.k, Ex.f, Ex.t, Ex.a, Ex.b], hx, rfl⟩
    | cons y ys ih =>
      intro cs S h
      simp only [List.cons_append, RowOk] at h ⊢
      obtain ⟨A, n, c', rest, rfl, hx, hr⟩ := h
      refine ⟨A, n, c', _, ?_, hx, ih _ _ hr⟩
      rw [show (y :: ys).length * 6 + 2 = (ys.length * 6 + 2) + 1 + 1 + 1 + 1 + 1 + 1 by simp; omega]
      rfl
  have h4 := hs l cs _ h3
  rcases h2 with ⟨he, _⟩ | ⟨g', cap', cur, he, hb, hh, h5, h6, h7, h8⟩
  · cases he
  · injection he with he1 he2 he3
    injection he1 with he1
    injection he1 with he1
    subst he1 he3
    refine ⟨_, ⟨by simpa using h1, .inr ⟨g, cap, cur.setIfInBounds (l.length * 6 + 2) (.int .i64 c), by simp, hb, ?_, by simpa using h5, h6, by simpa using h7, ?_⟩⟩, h4.keep (w' := w.setCell ⟨g, l.length * 6 + 2, none⟩ (.int .i64 c)) (fun k hk _ => ?_) (fun k hk _ => hk) (by simp [World.setCell])⟩
    · exact Blk.set_ (w := w) (g := g) hh _ _
    · rw [← h8, Array.toList_setIfInBounds, List.take_set]
      simp
    · exact Below.heap_setCell w _ _ k (fun e => hk.2 (by subst e; rfl))
/-- where the last value lies -/
theorem last {x : Ex} (h : Own w base v (l ++ [x])) : ∃ g cap, v = .slice (some ⟨g, 0, none⟩) (l.length + 1) cap ∧ base ≤ g ∧ w.cell? ⟨g, l.length * 6 + 2, none⟩ = some (.int .i64 x.t) ∧ ∀ j, w.frozen? ⟨g, j, none⟩ = false := by
  obtain ⟨A, c, e, hs⟩ := h.form
  obtain ⟨cs, ⟨h1, h2⟩, h3⟩ := h
  obtain ⟨g, o, A', c', hA, _, x0, x1, x2, _⟩ := hs.at_ l.length (by simp)
  rcases h2 with ⟨rfl, h0⟩ | ⟨g', cap, cur, rfl, hb, hh, _⟩
  · simp at h0
  · injection e with e1 e2 e3
    rw [hA] at e1
    injection e1 with e1
    injection e1 with e4 e5
    subst e4 e5
    refine ⟨g', cap, by simp, hb, by simpa using x2, fun j => by simp [World.frozen?, hh]⟩
end Own


theorem info_ex : (Tryd.prog.info? 25).map (fun i => (i.zero, i.size, i.bytes)) = some (some (.agg #[.int .i64 0, .int .i64 0, .int .i64 0, .int .i64 0, .int .i64 0, .slice none 0 0]), 6, 64) := by kernel_rfl

/-- a pattern is stored into a block of its own -/
theorem wpList_store_ex {w : World} {ops : Array Oper} {rest : List Oper} {o : Oper} {a : Act} {Q : Exit → Act → World → Prop} (hgd : o.guard = none) (x y : Operand) (ho : o.op = .store 25 x y)
    (g : Nat) (v0 v1 v2 v3 v4 v5 : Value) (hb : Blk w g 25 #[v0, v1, v2, v3, v4, v5]) (hx : a.eval x = .pointer (some ⟨g, 0, none⟩)) (k f t a' b : Int) (A : Option Addr) (n c : Nat)
    (hy : a.eval y = .agg #[.int .i64 k, .int .i64 f, .int .i64 t, .int .i64 a', .int .i64 b, .slice A n c])
    (h : ∀ w', Blk w' g 25 #[.int .i64 k, .int .i64 f, .int .i64 t, .int .i64 a', .int .i64 b, .slice A n c] → Chg (One g) w w' → wpList Tryd.prog ops Q rest (a.put o.dst undef) w') : wpList Tryd.prog ops Q (o :: rest) a w := by
  obtain ⟨i0, hi, hz0, hz1, hz2⟩ := info_parts info_ex
  exact wpList_store_blk hgd _ x y ho g _ _ _ hx hy hb rfl (by rw [hi]; simp [hz1]) (by simp [Value.oneCell']) h

/-- 'l = append(l, y)' -/
theorem wpList_append_ex {w : World} {ops : Array Oper} {rest : List Oper} {o : Oper} {a : Act} {Q : Exit → Act → World → Prop} (hgd : o.guard = none) (s x : Operand)
    (ho : o.op = .call { callee := .builtin .append, args := #[s, x], argTypes := #[23, 23] })
    (base : Nat) (v : Value) (l : List Ex) (hs : a.eval s = v) (hown : Own w base v l) (g c : Nat) (y : Ex) (A : Option Addr) (n c' : Nat) (hx : a.eval x = .slice (some ⟨g, 0, none⟩) 1 c)
    (hb : Blk w g 25 #[.int .i64 y.k, .int .i64 y.f, .int .i64 y.t, .int .i64 y.a, .int .i64 y.b, .slice A n c']) (hy : Sl w (fun k => base ≤ k ∧ some k ≠ v.ownBlock) A n c' y.l)
    (hlen : l.length ≤ 1000000) (hbase : base ≤ w.heap.size)
    (h : ∀ v' w', Own w' base v' (l ++ [y]) → w.grownBy w' v.ownBlock → (v'.ownBlock = v.ownBlock ∨ v'.ownBlock = some w.heap.size) → wpList Tryd.prog ops Q rest (a.put o.dst v') w') :
    wpList Tryd.prog ops Q (o :: rest) a w := by
  obtain ⟨i0, hi, hz0, hz1, hz2⟩ := info_parts info_ex
  have hlt := hown.lt
  obtain ⟨cs, h1, h2⟩ := hown
  refine wpList_append_own_at _ hgd s x _ ho base 25 i0 _ 6 64 Tryd.underlying23 hi hz0 hz1 hz2 rfl (by decide) v l.length cs hs h1 ⟨g, 0, none⟩ 1 c
    [.int .i64 y.k, .int .i64 y.f, .int .i64 y.t, .int .i64 y.a, .int .i64 y.b, .slice A n c'] hx rfl ?_ ?_ (by unfold maxLen; omega) (by omega) hbase ?_
  · intro j u hu
    rw [add0]
    rw [hb.cell j]
    simpa using hu
  · intro u hu
    simp at hu
    rcases hu with rfl | rfl | rfl | rfl | rfl | rfl <;> rfl
  · intro v' w' ho' hg _ hat
    refine h v' w' ⟨_, by simpa using ho', ?_⟩ hg hat
    have h3 := RowOk.snoc hy h2
    refine h3.keep (fun k hk hz => hg.block k hz hk.2) (fun k hk hz => ⟨hk.1, ?_⟩) hg.size
    rcases hat with e | e
    · rw [e]; exact hk.2
    · rw [e]; intro he; injection he with he; omega

/-- a result that is a pattern, in a variable of its own -/
theorem bodyPost_ret_ex {fn : Func} {R : Ending → World → Prop} {a : Act} {w : World} {t0 : Tmp} {g : Nat} {k f t a' b : Int} {A : Option Addr} {n c : Nat} (h : fn.results = #[.cell t0 25]) (hd : a.defers = [])
    (hp : a.tmps.getD t0 undef = .pointer (some ⟨g, 0, none⟩)) (hb : Blk w g 25 #[.int .i64 k, .int .i64 f, .int .i64 t, .int .i64 a', .int .i64 b, .slice A n c])
    (hR : R (.returned (.agg #[.int .i64 k, .int .i64 f, .int .i64 t, .int .i64 a', .int .i64 b, .slice A n c])) w) : bodyPost Tryd.prog fn R .ret a w := by
  have z0 := hb.cell 0
  have z1 := hb.cell 1
  have z2 := hb.cell 2
  have z3 := hb.cell 3
  have z4 := hb.cell 4
  have z5 := hb.cell 5
  simp only [List.getElem?_toArray, List.getElem?_cons_zero, List.getElem?_cons_succ] at z0 z1 z2 z3 z4 z5
  have hp2 := hp
  simp only [Array.getD_eq_getD_getElem?] at hp2
  exact bodyPost_ret (by simp [results, h, hp, hp2, go_sem, z0, z1, z2, z3, z4, z5]) hd hR
end Go.Proofs.YticipgjbgcdccaaDoor
namespace Go.Proofs.YticipgjbgcdccaaDoor
open Go.RowKit

def OwnS (w : World) (S : Nat → Prop) (v : Value) (l : List Ex) : Prop :=
  ∃ cs, w.ownsRow 0 25 6 v l.length cs ∧ (∀ k, v.ownBlock = some k → S k) ∧ RowOk w (fun k => S k ∧ some k ≠ v.ownBlock) l cs

namespace OwnS
variable {w w' : World} {S S' : Nat → Prop} {v : Value} {l : List Ex}
theorem nil (w : World) (S : Nat → Prop) : OwnS w S (.slice none 0 0) [] := ⟨[], ⟨by simp, .inl ⟨rfl, rfl⟩⟩, fun k h => by simp [Value.ownBlock] at h, rfl⟩
theorem lt (h : OwnS w S v l) : ∀ k, v.ownBlock = some k → S k ∧ k < w.heap.size := by
  obtain ⟨cs, ⟨_, h⟩, hS, _⟩ := h
  intro k hk
  refine ⟨hS k hk, ?_⟩
  rcases h with ⟨rfl, _⟩ | ⟨g, cap, cur, rfl, hb, hh, _⟩
  · simp [Value.ownBlock] at hk
  · have : g = k := by simpa [Value.ownBlock] using hk
    subst this
    rcases Nat.lt_or_ge g w.heap.size with q | q
    · exact q
    · rw [Array.getElem?_eq_none q] at hh; cases hh
theorem keep (h : OwnS w S v l) (hw : ∀ k, S k → k < w.heap.size → w'.heap[k]? = w.heap[k]?) (hs : ∀ k, S k → k < w.heap.size → S' k) (hz : w.heap.size ≤ w'.heap.size) : OwnS w' S' v l := by
  have hlt := h.lt
  obtain ⟨cs, ⟨h1, h2⟩, hS, h3⟩ := h
  refine ⟨cs, ⟨h1, ?_⟩, fun k hk => hs k (hlt k hk).1 (hlt k hk).2, h3.keep (fun k hk hz => hw k hk.1 hz) (fun k hk hz => ⟨hs k hk.1 hz, hk.2⟩) hz⟩
  rcases h2 with h2 | ⟨g, cap, cur, rfl, hb, hh, hr⟩
  · exact .inl h2
  · exact .inr ⟨g, cap, cur, rfl, hb, (hw g (hlt g rfl).1 (hlt g rfl).2).trans hh, hr⟩
theorem chg {T : Nat → Prop} (h : OwnS w S v l) (hc : Chg T w w') (hT : ∀ k, S k → k < w.heap.size → ¬ T k) : OwnS w' S v l := h.keep (fun k hk hz => hc.block k hz (hT k hk hz)) (fun _ hk _ => hk) hc.size
theorem chgNo (h : OwnS w S v l) (hc : Chg No w w') : OwnS w' S v l := h.chg hc fun _ _ _ h => h
theorem form (h : OwnS w S v l) : ∃ A c, v = .slice A l.length c ∧ Sl w S A l.length c l := by
  have hlt := h.lt
  obtain ⟨cs, ⟨h1, h2⟩, hS, h3⟩ := h
  rcases h2 with ⟨rfl, h0⟩ | ⟨g, cap, cur, rfl, hb, hh, h4, h5, h6, h7⟩
  · have : l = [] := List.eq_nil_of_length_eq_zero h0
    subst this
    exact ⟨none, 0, rfl, rfl, Nat.le_refl _, by simp, fun h => absurd rfl h⟩
  · refine ⟨some ⟨g, 0, none⟩, cap, rfl, rfl, h4, by simpa [maxLen] using h5, fun _ => ⟨g, 0, rfl, hS g rfl, (hlt g rfl).2, ?_⟩⟩
    have h8 := RowOk.at_ (g := g) 0 h3 (fun j u hu => by
      rw [Nat.zero_add]
      have : cur[j]? = some u := by
        rw [← h7, List.getElem?_take] at hu
        split at hu
        · simpa using hu
        · cases hu
      rw [cell_of_row w g j cur _ _ hh, this])
    exact LsAt.keep' h8 fun k hk => hk.1
/-- a new block of one value -/
theorem one (w : World) (y : Ex) {A : Option Addr} {n c : Nat} (hb : S w.heap.size) (hy : Sl w S A n c y.l) :
    OwnS (w.alloc (.cells #[.int .i64 y.k, .int .i64 y.f, .int .i64 y.t, .int .i64 y.a, .int .i64 y.b, .slice A n c] 25)) S (.slice (some ⟨w.heap.size, 0, none⟩) 1 1) [y] := by
  refine ⟨_, ⟨rfl, .inr ⟨w.heap.size, 1, _, rfl, Nat.zero_le _, heap_alloc_new w _, Nat.le_refl _, by simp [maxLen], rfl, rfl⟩⟩, fun k hk => ?_, A, n, c, [], rfl, ?_, rfl⟩
  · simp [Value.ownBlock] at hk; subst hk; exact hb
  · refine hy.keep (fun k _ hz => Below.heap_alloc w _ k hz) (fun k hk hz => ⟨hk, ?_⟩) (by simp)
    simp [Value.ownBlock]; omega
end OwnS

/-- 'l = append(l, y)' -/
theorem wpList_append_exS {w : World} {ops : Array Oper} {rest : List Oper} {o : Oper} {a : Act} {Q : Exit → Act → World → Prop} (hgd : o.guard = none) (s x : Operand)
    (ho : o.op = .call { callee := .builtin .append, args := #[s, x], argTypes := #[23, 23] })
    (S : Nat → Prop) (v : Value) (l : List Ex) (hs : a.eval s = v) (hown : OwnS w S v l) (g c : Nat) (y : Ex) (A : Option Addr) (n c' : Nat) (hx : a.eval x = .slice (some ⟨g, 0, none⟩) 1 c)
    (hb : Blk w g 25 #[.int .i64 y.k, .int .i64 y.f, .int .i64 y.t, .int .i64 y.a, .int .i64 y.b, .slice A n c']) (hy : Sl w (fun k => S k ∧ some k ≠ v.ownBlock) A n c' y.l)
    (hlen : l.length ≤ 1000000) (hS : S w.heap.size)
    (h : ∀ v' w', OwnS w' S v' (l ++ [y]) → w.grownBy w' v.ownBlock → (v'.ownBlock = v.ownBlock ∨ v'.ownBlock = some w.heap.size) → wpList Tryd.prog ops Q rest (a.put o.dst v') w') :
    wpList Tryd.prog ops Q (o :: rest) a w := by
  obtain ⟨i0, hi, hz0, hz1, hz2⟩ := info_parts info_ex
  have hlt := hown.lt
  obtain ⟨cs, h1, hSv, h2⟩ := hown
  refine wpList_append_own_at _ hgd s x _ ho 0 25 i0 _ 6 64 Tryd.underlying23 hi hz0 hz1 hz2 rfl (by decide) v l.length cs hs h1 ⟨g, 0, none⟩ 1 c
    [.int .i64 y.k, .int .i64 y.f, .int .i64 y.t, .int .i64 y.a, .int .i64 y.b, .slice A n c'] hx rfl ?_ ?_ (by unfold maxLen; omega) (by omega) (Nat.zero_le _) ?_
  · intro j u hu
    rw [add0]
    rw [hb.cell j]
    simpa using hu
  · intro u hu
    simp at hu
    rcases hu with rfl | rfl | rfl | rfl | rfl | rfl <;> rfl
  · intro v' w' ho' hg _ hat
    refine h v' w' ⟨_, by simpa using ho', fun k hk => ?_, ?_⟩ hg hat
    · rcases hat with e | e
      · exact hSv k (e ▸ hk)
      · rw [e] at hk; injection hk with hk; subst hk; exact hS
    · have h3 := RowOk.snoc hy h2
      refine h3.keep (fun k hk hz => hg.block k hz hk.2) (fun k hk hz => ⟨hk.1, ?_⟩) hg.size
      rcases hat with e | e
      · rw [e]; exact hk.2
      · rw [e]; intro he; injection he with he; omega

/-- the same, as a step of a region that draws its order -/
theorem step_append_exS {w : World} {ops : Array Oper} {o : Oper} {a : Act} {K : Act → World → Prop} {Q : Exit → Act → World → Prop} {E : Prop} (hgd : o.guard = none) (s x : Operand)
    (ho : o.op = .call { callee := .builtin .append, args := #[s, x], argTypes := #[23, 23] })
    (S : Nat → Prop) (v : Value) (l : List Ex) (hs : a.eval s = v) (hown : OwnS w S v l) (g c : Nat) (y : Ex) (A : Option Addr) (n c' : Nat) (hx : a.eval x = .slice (some ⟨g, 0, none⟩) 1 c)
    (hb : Blk w g 25 #[.int .i64 y.k, .int .i64 y.f, .int .i64 y.t, .int .i64 y.a, .int .i64 y.b, .slice A n c']) (hy : Sl w (fun k => S k ∧ some k ≠ v.ownBlock) A n c' y.l)
    (hlen : l.length ≤ 1000000) (hS : S w.heap.size)
    (h : ∀ v' w', OwnS w' S v' (l ++ [y]) → w.grownBy w' v.ownBlock → (v'.ownBlock = v.ownBlock ∨ v'.ownBlock = some w.heap.size) → K (a.put o.dst v') w') :
    if Region.wanted o (yielded ops a.tmps) = true then Oper.wp Tryd.prog o a w K Q else E := by
  have hw : Region.wanted o (yielded ops a.tmps) = true := by simp [Region.wanted, hgd]
  rw [if_pos hw]
  obtain ⟨i0, hi, hz0, hz1, hz2⟩ := info_parts info_ex
  have hlt := hown.lt
  obtain ⟨cs, h1, hSv, h2⟩ := hown
  obtain ⟨v', w', hr, ho', hg, _, hat⟩ := run_append_own_at (P := Tryd.prog) w 0 23 o.type 25 i0 _ 6 64 Tryd.underlying23 hi hz0 hz1 hz2 rfl (by decide) v l.length cs h1 ⟨g, 0, none⟩ 1 c
    [.int .i64 y.k, .int .i64 y.f, .int .i64 y.t, .int .i64 y.a, .int .i64 y.b, .slice A n c'] rfl (fun j u hu => by
      rw [add0, hb.cell j]
      simpa using hu) (fun u hu => by
      simp at hu
      rcases hu with rfl | rfl | rfl | rfl | rfl | rfl <;> rfl) (by unfold maxLen; omega) (by omega) (Nat.zero_le _)
  unfold Oper.wp execOp
  simp only [ho, resolve, invoke, builtin, Sem.run_bind, Sem.run_pure, Result.andThen_ok, List.map_toArray, List.map_cons, List.map_nil, hs, hx, hr]
  refine h v' w' ⟨_, by simpa using ho', fun k hk => ?_, ?_⟩ hg hat
  · rcases hat with e | e
    · exact hSv k (e ▸ hk)
    · rw [e] at hk; injection hk with hk; subst hk; exact hS
  · have h3 := RowOk.snoc hy h2
    refine h3.keep (fun k hk hz => hg.block k hz hk.2) (fun k hk hz => ⟨hk.1, ?_⟩) hg.size
    rcases hat with e | e
    · rw [e]; exact hk.2
    · rw [e]; intro he; injection he with he; omega
end Go.Proofs.YticipgjbgcdccaaDoor
