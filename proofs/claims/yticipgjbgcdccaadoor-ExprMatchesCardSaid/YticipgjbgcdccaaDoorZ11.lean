/- The rows that a pattern matches, and that its net takes just these. No condition: lemmas.
   A pattern's net takes just the rows that the pattern matches. No condition: lemmas.
   The net's run: the longest front that the pattern matches, and whether the bytes begin a row of it. No condition: lemmas.
   Package graftlaw2: Hand, small, times: contracts.
   What Match answers of patterns that are put together. No condition: lemmas.
   The least of the shortest rows that a pattern matches, in plain Lean. No condition: lemmas. -/
import Derived.Test.YticipgjbgcdccaaDoorZ5
import Derived.Test.YticipgjbgcdccaaDoorZ9
import Derived.Test.YticipgjbgcdccaaDoorZ8
set_option linter.unusedSimpArgs false
set_option linter.unusedVariables false
namespace Go.Proofs.YticipgjbgcdccaaDoor
open Go.RowKit

/-- n rows of L, one behind the other -/
def powL (L : List Nat → Prop) : Nat → List Nat → Prop
  | 0, w => w = []
  | n + 1, w => ∃ u v, w = u ++ v ∧ L u ∧ powL L n v
def catL (A B : List Nat → Prop) (w : List Nat) : Prop := ∃ u v, w = u ++ v ∧ A u ∧ B v
def catsL : List (List Nat → Prop) → List Nat → Prop
  | [], w => w = []
  | L :: Ls, w => catL L (catsL Ls) w
def orL : List (List Nat → Prop) → List Nat → Prop
  | [], _ => False
  | L :: Ls, w => L w ∨ orL Ls w
mutual
/-- the rows of bytes that a right pattern matches -/
def Lang : Ex → List Nat → Prop
  | .mk k f t a b l => fun w =>
    if k = 1 then ∃ c : Nat, w = [c] ∧ f ≤ c ∧ (c : Int) ≤ t
    else if k = 3 then orL (Langs l) w
    else if k = 4 then ∃ n : Nat, a ≤ n ∧ (b < 0 ∨ (n : Int) ≤ b) ∧ powL ((Langs l).headD fun _ => False) n w
    else catsL (Langs l) w
def Langs : List Ex → List (List Nat → Prop)
  | [] => []
  | x :: xs => Lang x :: Langs xs
end
theorem Langs_eq (l : List Ex) : Langs l = l.map Lang := by
  induction l with
  | nil => simp [Langs]
  | cons x l ih => simp [Langs, ih]

/-- a way through positions that reads a row -/
inductive Pth (T : Nat → Nat → Prop) (E : Nat → Nat → Prop) : Nat → List Nat → Nat → Prop
  | one {p c : Nat} : T p c → Pth T E p [c] p
  | cons {p c q r : Nat} {w : List Nat} : T p c → E p q → Pth T E q w r → Pth T E p (c :: w) r
namespace Pth
variable {T E E' : Nat → Nat → Prop}
theorem ne {p q : Nat} {w : List Nat} (h : Pth T E p w q) : w ≠ [] := by cases h <;> simp
theorem append {p q r s : Nat} {u v : List Nat} (h : Pth T E p u q) (e : E q r) (k : Pth T E r v s) : Pth T E p (u ++ v) s := by
  induction h with
  | one t => exact .cons t e k
  | cons t e' _ ih => exact .cons t e' (ih e)
theorem mono {p q : Nat} {w : List Nat} (h : Pth T E p w q) {T' : Nat → Nat → Prop} {A : Nat → Prop} (hp : A p) (hE : ∀ p q, A p → E p q → E' p q ∧ A q) (hT : ∀ p c, A p → T p c → T' p c) : Pth T' E' p w q := by
  induction h with
  | one t => exact .one (hT _ _ hp t)
  | cons t e _ ih => exact .cons (hT _ _ hp t) (hE _ _ hp e).1 (ih (hE _ _ hp e).2)
theorem stays {p q : Nat} {w : List Nat} (h : Pth T E p w q) {A : Nat → Prop} (hp : A p) (hE : ∀ p q, A p → E p q → A q) : A q := by
  induction h with
  | one t => exact hp
  | cons t e _ ih => exact ih (hE _ _ hp e)
end Pth

/-- a part's rows -/
def Acc (T E : Nat → Nat → Prop) (P : Part) (w : List Nat) : Prop := (w = [] ∧ P.e = true) ∨ ∃ p q, P.F.testBit p = true ∧ P.L.testBit q = true ∧ Pth T E p w q
/-- a part on the positions A: begins and ends there, stays there, reads just the rows of Lg; from each position its end can be come to -/
structure Good (T E : Nat → Nat → Prop) (A : Nat → Prop) (P : Part) (Lg : List Nat → Prop) : Prop where
  F : ∀ p, P.F.testBit p = true → A p
  L : ∀ p, P.L.testBit p = true → A p
  stay : ∀ p q, A p → E p q → A q
  acc : ∀ w, Acc T E P w ↔ Lg w
  out : ∀ p, A p → ∃ w q, P.L.testBit q = true ∧ Pth T E p w q
  some_ : ∃ w, Lg w
namespace Good
variable {T T' E E' Ea Eb : Nat → Nat → Prop} {A B : Nat → Prop} {P Q : Part} {La Lb : List Nat → Prop}
theorem congr (h : Good T E A P La) (hE : ∀ p q, A p → (E' p q ↔ E p q)) (hT : ∀ p c, A p → (T' p c ↔ T p c)) : Good T' E' A P La where
  F := h.F
  L := h.L
  stay := fun p q hp e => h.stay p q hp ((hE p q hp).1 e)
  acc := fun w => by
    rw [← h.acc w]
    unfold Acc
    refine or_congr Iff.rfl ⟨?_, ?_⟩
    · rintro ⟨p, q, h1, h2, k⟩
      exact ⟨p, q, h1, h2, k.mono (h.F p h1) (fun p q hp e => ⟨(hE p q hp).1 e, h.stay p q hp ((hE p q hp).1 e)⟩) fun p c hp t => (hT p c hp).1 t⟩
    · rintro ⟨p, q, h1, h2, k⟩
      exact ⟨p, q, h1, h2, k.mono (h.F p h1) (fun p q hp e => ⟨(hE p q hp).2 e, h.stay p q hp e⟩) fun p c hp t => (hT p c hp).2 t⟩
  out := fun p hp => by
    obtain ⟨w, q, h1, k⟩ := h.out p hp
    exact ⟨w, q, h1, k.mono hp (fun p q hp e => ⟨(hE p q hp).2 e, h.stay p q hp e⟩) fun p c hp t => (hT p c hp).2 t⟩
  some_ := h.some_
theorem lang (h : Good T E A P La) (hl : ∀ w, La w ↔ Lb w) : Good T E A P Lb := ⟨h.F, h.L, h.stay, fun w => (h.acc w).trans (hl w), h.out, by obtain ⟨w, hw⟩ := h.some_; exact ⟨w, (hl w).1 hw⟩⟩
theorem nothing (T E : Nat → Nat → Prop) : Good T E (fun _ => False) ⟨true, 0, 0⟩ (fun w => w = []) where
  F := fun p h => by simp at h
  L := fun p h => by simp at h
  stay := fun _ _ h => h.elim
  acc := fun w => by simp [Acc]
  out := fun _ h => h.elim
  some_ := ⟨[], rfl⟩

/-- where a way that begins in A ends, when A's way out leads to B -/
theorem split {p q : Nat} {w : List Nat} (hEa : ∀ p q, A p → Ea p q → A q) (hEb : ∀ p q, B p → Eb p q → B q) (hd : ∀ p, A p → B p → False)
    (hE : ∀ p q, A p → E p q → Ea p q ∨ (P.L.testBit p = true ∧ Q.F.testBit q = true)) (hB : ∀ p q, B p → E p q → Eb p q) (hF : ∀ p, Q.F.testBit p = true → B p)
    (h : Pth T E p w q) (hp : A p) : (A q ∧ Pth T Ea p w q) ∨ (B q ∧ ∃ u v r s, w = u ++ v ∧ P.L.testBit r = true ∧ Q.F.testBit s = true ∧ Pth T Ea p u r ∧ Pth T Eb s v q) := by
  induction h with
  | one t => exact .inl ⟨hp, .one t⟩
  | @cons p c p2 r w t e k ih =>
    rcases hE _ _ hp e with ea | ⟨e1, e2⟩
    · rcases ih (hEa _ _ hp ea) with ⟨h1, h2⟩ | ⟨h1, u, v, r', s, rfl, h2, h3, h4, h5⟩
      · exact .inl ⟨h1, .cons t ea h2⟩
      · exact .inr ⟨h1, c :: u, v, r', s, rfl, h2, h3, .cons t ea h4, h5⟩
    · have hb := hF _ e2
      exact .inr ⟨k.stays hb (fun p q hp e => hEb p q hp (hB p q hp e)), [c], w, p, p2, rfl, e1, e2, .one t, k.mono hb (fun p q hp e => ⟨hB p q hp e, hEb p q hp (hB p q hp e)⟩) fun _ _ _ t => t⟩

theorem cat (ha : Good T Ea A P La) (hb : Good T Eb B Q Lb) (hd : ∀ p, A p → B p → False)
    (hEA : ∀ p q, A p → (E p q ↔ Ea p q ∨ (P.L.testBit p = true ∧ Q.F.testBit q = true))) (hEB : ∀ p q, B p → (E p q ↔ Eb p q)) : Good T E (fun p => A p ∨ B p) (outP P Q) (catL La Lb) := by
  have up : ∀ {p q w}, A p → Pth T Ea p w q → Pth T E p w q := fun hp k => k.mono hp (fun p q hp e => ⟨(hEA p q hp).2 (.inl e), ha.stay p q hp e⟩) fun _ _ _ t => t
  have uq : ∀ {p q w}, B p → Pth T Eb p w q → Pth T E p w q := fun hp k => k.mono hp (fun p q hp e => ⟨(hEB p q hp).2 e, hb.stay p q hp e⟩) fun _ _ _ t => t
  have tF : ∀ p, (outP P Q).F.testBit p = true ↔ P.F.testBit p = true ∨ (P.e = true ∧ Q.F.testBit p = true) := by
    intro p; simp only [outP]; split <;> simp_all
  have tL : ∀ p, (outP P Q).L.testBit p = true ↔ Q.L.testBit p = true ∨ (Q.e = true ∧ P.L.testBit p = true) := by
    intro p; simp only [outP]; split <;> simp_all
  refine ⟨?_, ?_, ?_, ?_, ?_, ?_⟩
  · intro p h
    rcases (tF p).1 h with h | ⟨_, h⟩
    · exact .inl (ha.F p h)
    · exact .inr (hb.F p h)
  · intro p h
    rcases (tL p).1 h with h | ⟨_, h⟩
    · exact .inr (hb.L p h)
    · exact .inl (ha.L p h)
  · rintro p q (hp | hp) e
    · rcases (hEA p q hp).1 e with e | ⟨_, e⟩
      · exact .inl (ha.stay p q hp e)
      · exact .inr (hb.F q e)
    · exact .inr (hb.stay p q hp ((hEB p q hp).1 e))
  · intro w
    constructor
    · rintro (⟨rfl, he⟩ | ⟨p, q, h1, h2, k⟩)
      · simp only [outP, Bool.and_eq_true] at he
        exact ⟨[], [], rfl, (ha.acc _).1 (.inl ⟨rfl, he.1⟩), (hb.acc _).1 (.inl ⟨rfl, he.2⟩)⟩
      · rcases (tF p).1 h1 with h1 | ⟨e1, h1⟩
        · have hp := ha.F p h1
          rcases split (P := P) (Q := Q) ha.stay hb.stay hd (fun p q hp e => (hEA p q hp).1 e) (fun p q hp e => (hEB p q hp).1 e) hb.F k hp with ⟨hq, k'⟩ | ⟨hq, u, v, r, s, rfl, l1, l2, l3, l4⟩
          · rcases (tL q).1 h2 with h2 | ⟨e2, h2⟩
            · exact (hd q hq (hb.L q h2)).elim
            · exact ⟨w, [], by simp, (ha.acc _).1 (.inr ⟨p, q, h1, h2, k'⟩), (hb.acc _).1 (.inl ⟨rfl, e2⟩)⟩
          · rcases (tL q).1 h2 with h2 | ⟨e2, h2⟩
            · exact ⟨u, v, rfl, (ha.acc _).1 (.inr ⟨p, r, h1, l1, l3⟩), (hb.acc _).1 (.inr ⟨s, q, l2, h2, l4⟩)⟩
            · exact (hd q (ha.L q h2) hq).elim
        · have hp := hb.F p h1
          have hq := k.stays hp fun p q hp e => hb.stay p q hp ((hEB p q hp).1 e)
          have k' : Pth T Eb p w q := k.mono hp (fun p q hp e => ⟨(hEB p q hp).1 e, hb.stay p q hp ((hEB p q hp).1 e)⟩) fun _ _ _ t => t
          rcases (tL q).1 h2 with h2 | ⟨e2, h2⟩
          · exact ⟨[], w, rfl, (ha.acc _).1 (.inl ⟨rfl, e1⟩), (hb.acc _).1 (.inr ⟨p, q, h1, h2, k'⟩)⟩
          · exact (hd q (ha.L q h2) hq).elim
    · rintro ⟨u, v, rfl, hu, hv⟩
      rcases (ha.acc _).2 hu with ⟨rfl, e1⟩ | ⟨p, q, h1, h2, k⟩ <;> rcases (hb.acc _).2 hv with ⟨rfl, e2⟩ | ⟨r, s, h3, h4, k2⟩
      · exact .inl ⟨rfl, by simp [outP, e1, e2]⟩
      · exact .inr ⟨r, s, (tF r).2 (.inr ⟨e1, h3⟩), (tL s).2 (.inl h4), uq (hb.F r h3) k2⟩
      · exact .inr ⟨p, q, (tF p).2 (.inl h1), (tL q).2 (.inr ⟨e2, h2⟩), by rw [List.append_nil]; exact up (ha.F p h1) k⟩
      · exact .inr ⟨p, s, (tF p).2 (.inl h1), (tL s).2 (.inl h4), (up (ha.F p h1) k).append ((hEA q r (ha.L q h2)).2 (.inr ⟨h2, h3⟩)) (uq (hb.F r h3) k2)⟩
  · rintro p (hp | hp)
    · obtain ⟨w, q, h1, k⟩ := ha.out p hp
      obtain ⟨v, hv⟩ := hb.some_
      rcases (hb.acc _).2 hv with ⟨rfl, e2⟩ | ⟨r, s, h3, h4, k2⟩
      · exact ⟨w, q, (tL q).2 (.inr ⟨e2, h1⟩), up hp k⟩
      · exact ⟨w ++ v, s, (tL s).2 (.inl h4), (up hp k).append ((hEA q r (ha.L q h1)).2 (.inr ⟨h1, h3⟩)) (uq (hb.F r h3) k2)⟩
    · obtain ⟨w, q, h1, k⟩ := hb.out p hp
      exact ⟨w, q, (tL q).2 (.inl h1), uq hp k⟩
  · obtain ⟨u, hu⟩ := ha.some_
    obtain ⟨v, hv⟩ := hb.some_
    exact ⟨u ++ v, u, v, rfl, hu, hv⟩

theorem alt (ha : Good T Ea A P La) (hb : Good T Eb B Q Lb) (hd : ∀ p, A p → B p → False)
    (hEA : ∀ p q, A p → (E p q ↔ Ea p q)) (hEB : ∀ p q, B p → (E p q ↔ Eb p q)) : Good T E (fun p => A p ∨ B p) ⟨P.e || Q.e, P.F ||| Q.F, P.L ||| Q.L⟩ (fun w => La w ∨ Lb w) := by
  have ga := ha.congr (E' := E) (T' := T) hEA fun _ _ _ => Iff.rfl
  have gb := hb.congr (E' := E) (T' := T) hEB fun _ _ _ => Iff.rfl
  refine ⟨?_, ?_, ?_, ?_, ?_, ?_⟩
  · intro p h
    rw [Nat.testBit_or, Bool.or_eq_true] at h
    exact h.imp (ha.F p) (hb.F p)
  · intro p h
    rw [Nat.testBit_or, Bool.or_eq_true] at h
    exact h.imp (ha.L p) (hb.L p)
  · rintro p q (hp | hp) e
    · exact .inl (ga.stay p q hp e)
    · exact .inr (gb.stay p q hp e)
  · intro w
    rw [← ga.acc w, ← gb.acc w]
    unfold Acc
    simp only [Nat.testBit_or, Bool.or_eq_true]
    constructor
    · rintro (⟨rfl, h | h⟩ | ⟨p, q, h1, h2, k⟩)
      · exact .inl (.inl ⟨rfl, h⟩)
      · exact .inr (.inl ⟨rfl, h⟩)
      · rcases h1 with h1 | h1
        · have hq := k.stays (ga.F p h1) ga.stay
          rcases h2 with h2 | h2
          · exact .inl (.inr ⟨p, q, h1, h2, k⟩)
          · exact (hd q hq (gb.L q h2)).elim
        · have hq := k.stays (gb.F p h1) gb.stay
          rcases h2 with h2 | h2
          · exact (hd q (ga.L q h2) hq).elim
          · exact .inr (.inr ⟨p, q, h1, h2, k⟩)
    · rintro ((⟨rfl, h⟩ | ⟨p, q, h1, h2, k⟩) | (⟨rfl, h⟩ | ⟨p, q, h1, h2, k⟩))
      · exact .inl ⟨rfl, .inl h⟩
      · exact .inr ⟨p, q, .inl h1, .inl h2, k⟩
      · exact .inl ⟨rfl, .inr h⟩
      · exact .inr ⟨p, q, .inr h1, .inr h2, k⟩
  · rintro p (hp | hp)
    · obtain ⟨w, q, h1, k⟩ := ga.out p hp
      exact ⟨w, q, by simp [h1], k⟩
    · obtain ⟨w, q, h1, k⟩ := gb.out p hp
      exact ⟨w, q, by simp [h1], k⟩
  · obtain ⟨u, hu⟩ := ha.some_
    exact ⟨u, .inl hu⟩

/-- a way through a part whose end leads to its begin -/
theorem plus_split {p q : Nat} {w : List Nat} (ha : Good T Ea A P La) (hE : ∀ p q, A p → (E p q ↔ Ea p q ∨ (P.L.testBit p = true ∧ P.F.testBit q = true)))
    (h : Pth T E p w q) (hp : A p) (hq : P.L.testBit q = true) : ∃ u v r n, w = u ++ v ∧ P.L.testBit r = true ∧ Pth T Ea p u r ∧ powL La n v := by
  induction h with
  | @one p c t => exact ⟨[c], [], p, 0, rfl, hq, .one t, rfl⟩
  | @cons p c p2 r w t e k ih =>
    rcases (hE _ _ hp).1 e with ea | ⟨e1, e2⟩
    · obtain ⟨u, v, r', n, rfl, h1, h2, h3⟩ := ih (ha.stay _ _ hp ea) hq
      exact ⟨c :: u, v, r', n, rfl, h1, .cons t ea h2, h3⟩
    · obtain ⟨u, v, r', n, rfl, h1, h2, h3⟩ := ih (ha.F _ e2) hq
      exact ⟨[c], u ++ v, p, n + 1, rfl, e1, .one t, u, v, rfl, (ha.acc u).1 (.inr ⟨p2, r', e2, h1, h2⟩), h3⟩
theorem plus_join (ha : Good T Ea A P La) (hE : ∀ p q, A p → (E p q ↔ Ea p q ∨ (P.L.testBit p = true ∧ P.F.testBit q = true))) : ∀ (n : Nat) (w : List Nat), powL La n w → w = [] ∨ ∃ p q, P.F.testBit p = true ∧ P.L.testBit q = true ∧ Pth T E p w q
  | 0, w, h => .inl h
  | n + 1, w, h => by
    obtain ⟨u, v, e, hu, hv⟩ := h
    have up : ∀ {p q w}, A p → Pth T Ea p w q → Pth T E p w q := fun hp k => k.mono hp (fun p q hp e => ⟨(hE p q hp).2 (.inl e), ha.stay p q hp e⟩) fun _ _ _ t => t
    subst e
    rcases (ha.acc u).2 hu with ⟨rfl, _⟩ | ⟨p, q, h1, h2, k⟩
    · exact plus_join ha hE n v hv
    · rcases plus_join ha hE n v hv with rfl | ⟨r, s, h3, h4, k2⟩
      · exact .inr ⟨p, q, h1, h2, by rw [List.append_nil]; exact up (ha.F p h1) k⟩
      · exact .inr ⟨p, s, h1, h4, (up (ha.F p h1) k).append ((hE q r (ha.L q h2)).2 (.inr ⟨h2, h3⟩)) k2⟩
theorem plus (ha : Good T Ea A P La) (hE : ∀ p q, A p → (E p q ↔ Ea p q ∨ (P.L.testBit p = true ∧ P.F.testBit q = true))) : Good T E A P (fun w => ∃ n, 0 < n ∧ powL La n w) := by
  have up : ∀ {p q w}, A p → Pth T Ea p w q → Pth T E p w q := fun hp k => k.mono hp (fun p q hp e => ⟨(hE p q hp).2 (.inl e), ha.stay p q hp e⟩) fun _ _ _ t => t
  refine ⟨ha.F, ha.L, ?_, ?_, ?_, ?_⟩
  · intro p q hp e
    rcases (hE p q hp).1 e with e | ⟨_, e⟩
    · exact ha.stay p q hp e
    · exact ha.F q e
  · intro w
    constructor
    · rintro (⟨rfl, he⟩ | ⟨p, q, h1, h2, k⟩)
      · exact ⟨1, by omega, [], [], rfl, (ha.acc _).1 (.inl ⟨rfl, he⟩), rfl⟩
      · obtain ⟨u, v, r, n, rfl, l1, l2, l3⟩ := plus_split ha hE k (ha.F p h1) h2
        exact ⟨n + 1, by omega, u, v, rfl, (ha.acc _).1 (.inr ⟨p, r, h1, l1, l2⟩), l3⟩
    · rintro ⟨n, hn, h⟩
      rcases plus_join ha hE n w h with rfl | h'
      · obtain ⟨m, rfl⟩ : ∃ m, n = m + 1 := ⟨n - 1, by omega⟩
        obtain ⟨u, v, e, hu, _⟩ := h
        obtain rfl : u = [] := by cases u <;> simp_all
        rcases (ha.acc _).2 hu with ⟨_, he⟩ | ⟨p, q, _, _, k⟩
        · exact .inl ⟨rfl, he⟩
        · exact absurd rfl k.ne
      · exact .inr h'
  · intro p hp
    obtain ⟨w, q, h1, k⟩ := ha.out p hp
    exact ⟨w, q, h1, up hp k⟩
  · obtain ⟨w, hw⟩ := ha.some_
    exact ⟨w, 1, by omega, w, [], by simp, hw, rfl⟩
end Good
end Go.Proofs.YticipgjbgcdccaaDoor
namespace Go.Proofs.YticipgjbgcdccaaDoor
open Go.RowKit

def nT (n : Nt) (p c : Nat) : Prop := (n.tk.getD p (0, 0)).1 ≤ (c : Int) ∧ (c : Int) ≤ (n.tk.getD p (0, 0)).2
def nE (n : Nt) (p q : Nat) : Prop := (n.fo.getD p 0).testBit q = true
def Rg (lo hi p : Nat) : Prop := lo ≤ p ∧ p < hi
/-- the first k positions are as they were -/
def Same (k : Nat) (n n' : Nt) : Prop := ∀ p, p < k → n'.tk[p]? = n.tk[p]? ∧ n'.fo[p]? = n.fo[p]?
theorem Same.refl (k : Nat) (n : Nt) : Same k n n := fun _ _ => ⟨rfl, rfl⟩
theorem Same.trans {k : Nat} {n n' n'' : Nt} (h : Same k n n') (h' : Same k n' n'') : Same k n n'' := fun p hp => ⟨(h' p hp).1.trans (h p hp).1, (h' p hp).2.trans (h p hp).2⟩
theorem Same.le {k j : Nat} {n n' : Nt} (h : Same k n n') (hj : j ≤ k) : Same j n n' := fun p hp => h p (by omega)
theorem Same.nE {k : Nat} {n n' : Nt} (h : Same k n n') {p q : Nat} (hp : p < k) : nE n' p q ↔ nE n p q := by
  unfold Proofs.YticipgjbgcdccaaDoor.nE
  rw [List.getD_eq_getElem?_getD, List.getD_eq_getElem?_getD, (h p hp).2]
theorem Same.nT {k : Nat} {n n' : Nt} (h : Same k n n') {p c : Nat} (hp : p < k) : nT n' p c ↔ nT n p c := by
  unfold Proofs.YticipgjbgcdccaaDoor.nT
  rw [List.getD_eq_getElem?_getD, List.getD_eq_getElem?_getD, (h p hp).1]
theorem Good.same {n n' : Nt} {lo hi : Nat} {P : Part} {La : List Nat → Prop} (h : Good (nT n) (nE n) (Rg lo hi) P La) (hs : Same hi n n') : Good (nT n') (nE n') (Rg lo hi) P La :=
  h.congr (fun _ _ hp => hs.nE hp.2) fun _ _ hp => hs.nT hp.2
theorem Good.set_ {T E : Nat → Nat → Prop} {A B : Nat → Prop} {P : Part} {La : List Nat → Prop} (h : Good T E A P La) (hAB : ∀ p, A p ↔ B p) : Good T E B P La := by
  obtain rfl : A = B := funext fun p => propext (hAB p)
  exact h
theorem Good.opt {T E : Nat → Nat → Prop} {A : Nat → Prop} {P : Part} {La : List Nat → Prop} (h : Good T E A P La) (d : Bool) : Good T E A ⟨P.e || d, P.F, P.L⟩ (fun w => La w ∨ (w = [] ∧ d = true)) := by
  refine ⟨h.F, h.L, h.stay, ?_, h.out, ?_⟩
  · intro w
    rw [← h.acc w]
    unfold Acc
    simp only [Bool.or_eq_true]
    constructor
    · rintro (⟨rfl, e | e⟩ | k)
      · exact .inl (.inl ⟨rfl, e⟩)
      · exact .inr ⟨rfl, e⟩
      · exact .inl (.inr k)
    · rintro ((⟨rfl, e⟩ | k) | ⟨rfl, e⟩)
      · exact .inl ⟨rfl, .inl e⟩
      · exact .inr k
      · exact .inl ⟨rfl, .inr e⟩
  · obtain ⟨w, hw⟩ := h.some_
    exact ⟨w, .inl hw⟩

theorem nE_link (tk : List (Int × Int)) (a b : Nat) (fo : List Nat) (p q : Nat) (hp : p < fo.length) : nE ⟨tk, linkP a b 0 fo⟩ p q ↔ nE ⟨tk, fo⟩ p q ∨ (a.testBit p = true ∧ b.testBit q = true) := by
  unfold nE
  simp only [List.getD_eq_getElem?_getD, linkP_get, Nat.zero_add, List.getElem?_eq_getElem hp, Option.map_some, Option.getD_some]
  split
  · rename_i h; rw [Nat.testBit_or, Bool.or_eq_true]; simp [h]
  · rename_i h; simp [h]
theorem same_link (tk : List (Int × Int)) (a b : Nat) (fo : List Nat) (k : Nat) (h : ∀ p, p < k → a.testBit p = false) : Same k ⟨tk, fo⟩ ⟨tk, linkP a b 0 fo⟩ := by
  intro p hp
  refine ⟨rfl, ?_⟩
  show (linkP a b 0 fo)[p]? = fo[p]?
  rw [linkP_get, Nat.zero_add, h p hp]
  simp

/-- what a function that lays down positions does -/
def Laid (g : Nt → Nt × Part) (Lg : List Nat → Prop) : Prop := ∀ n, n.fo.length = n.tk.length →
  Same n.tk.length n (g n).1 ∧ n.tk.length ≤ (g n).1.tk.length ∧ (g n).1.fo.length = (g n).1.tk.length ∧ Good (nT (g n).1) (nE (g n).1) (Rg n.tk.length (g n).1.tk.length) (g n).2 Lg

/-- one part behind another, over a net that has both -/
theorem cat_good {n : Nt} {lo mid hi : Nat} {a b : Part} {La Lb : List Nat → Prop} (h1 : lo ≤ mid) (h2 : mid ≤ hi) (hhi : hi ≤ n.fo.length) (ha : Good (nT n) (nE n) (Rg lo mid) a La) (hb : Good (nT n) (nE n) (Rg mid hi) b Lb) :
    Same lo n ⟨n.tk, linkP a.L b.F 0 n.fo⟩ ∧ Good (nT ⟨n.tk, linkP a.L b.F 0 n.fo⟩) (nE ⟨n.tk, linkP a.L b.F 0 n.fo⟩) (Rg lo hi) (outP a b) (catL La Lb) := by
  have hL : ∀ p, ¬ Rg lo mid p → a.L.testBit p = false := fun p hp => by
    rw [← Bool.not_eq_true]; exact fun h => hp (ha.L p h)
  refine ⟨same_link n.tk _ _ n.fo lo fun p hp => hL p fun h => by unfold Rg at h; omega, ?_⟩
  refine (Good.cat (T := nT ⟨n.tk, linkP a.L b.F 0 n.fo⟩) (E := nE ⟨n.tk, linkP a.L b.F 0 n.fo⟩) ha hb ?_ ?_ ?_).set_ ?_
  · intro p h h'; unfold Rg at h h'; omega
  · intro p q hp
    exact nE_link n.tk _ _ n.fo p q (by unfold Rg at hp; omega)
  · intro p q hp
    rw [nE_link n.tk _ _ n.fo p q (by unfold Rg at hp; omega), hL p fun h => by unfold Rg at h hp; omega]
    simp
  · intro p; unfold Rg; omega

theorem seqP_good : ∀ (gs : List (Nt → Nt × Part)) (Ls : List (List Nat → Prop)), gs.length = Ls.length → (∀ (i : Nat) (g : Nt → Nt × Part) (L : List Nat → Prop), gs[i]? = some g → Ls[i]? = some L → Laid g L) →
    ∀ (n : Nt) (lo : Nat) (o : Part) (Lo : List Nat → Prop), n.fo.length = n.tk.length → lo ≤ n.tk.length → Good (nT n) (nE n) (Rg lo n.tk.length) o Lo →
    Same lo n (seqP gs n o).1 ∧ n.tk.length ≤ (seqP gs n o).1.tk.length ∧ (seqP gs n o).1.fo.length = (seqP gs n o).1.tk.length ∧
      Good (nT (seqP gs n o).1) (nE (seqP gs n o).1) (Rg lo (seqP gs n o).1.tk.length) (seqP gs n o).2 (catL Lo (catsL Ls))
  | [], [], _, _, n, lo, o, Lo, hn, _, ho => ⟨Same.refl _ _, Nat.le_refl _, hn, ho.lang fun w => ⟨fun h => ⟨w, [], by simp, h, rfl⟩, by rintro ⟨u, v, rfl, h, rfl⟩; simpa using h⟩⟩
  | [], _ :: _, h, _, _, _, _, _, _, _, _ => by simp at h
  | _ :: _, [], h, _, _, _, _, _, _, _, _ => by simp at h
  | g :: gs, L :: Ls, h, hl, n, lo, o, Lo, hn, hlo, ho => by
    obtain ⟨g1, g2, g3, g4⟩ := hl 0 g L rfl rfl n hn
    obtain ⟨c1, c2⟩ := cat_good hlo g2 (by omega) (ho.same g1) g4
    obtain ⟨r1, r2, r3, r4⟩ := seqP_good gs Ls (by simpa using h) (fun i g' L' hg hL => hl (i + 1) g' L' (by simpa using hg) (by simpa using hL)) (catP (g n).1 o (g n).2).1 lo (catP (g n).1 o (g n).2).2 (catL Lo L)
      (by simp only [catP, linkP_length]; exact g3) (by simp only [catP]; omega) c2
    refine ⟨((g1.le hlo).trans c1).trans r1, ?_, r3, r4.lang fun w => ?_⟩
    · exact Nat.le_trans g2 r2
    · constructor
      · rintro ⟨_, v, rfl, ⟨u1, u2, rfl, h1, h2⟩, h3⟩
        exact ⟨u1, u2 ++ v, by simp, h1, u2, v, rfl, h2, h3⟩
      · rintro ⟨u, _, rfl, h1, v1, v2, rfl, h2, h3⟩
        exact ⟨u ++ v1, v2, by simp, ⟨u, v1, rfl, h1, h2⟩, h3⟩

theorem alt_good {n : Nt} {lo mid hi : Nat} {a b : Part} {La Lb : List Nat → Prop} (h1 : lo ≤ mid) (h2 : mid ≤ hi) (ha : Good (nT n) (nE n) (Rg lo mid) a La) (hb : Good (nT n) (nE n) (Rg mid hi) b Lb) :
    Good (nT n) (nE n) (Rg lo hi) ⟨a.e || b.e, a.F ||| b.F, a.L ||| b.L⟩ (fun w => La w ∨ Lb w) := by
  refine (Good.alt ha hb ?_ (fun _ _ _ => Iff.rfl) fun _ _ _ => Iff.rfl).set_ ?_
  · intro p h h'; unfold Rg at h h'; omega
  · intro p; unfold Rg; omega
theorem altP_good : ∀ (gs : List (Nt → Nt × Part)) (Ls : List (List Nat → Prop)), gs.length = Ls.length → (∀ (i : Nat) (g : Nt → Nt × Part) (L : List Nat → Prop), gs[i]? = some g → Ls[i]? = some L → Laid g L) →
    ∀ (n : Nt) (lo : Nat) (o : Part) (Lo : List Nat → Prop), n.fo.length = n.tk.length → lo ≤ n.tk.length → Good (nT n) (nE n) (Rg lo n.tk.length) o Lo →
    Same lo n (altP gs n o).1 ∧ n.tk.length ≤ (altP gs n o).1.tk.length ∧ (altP gs n o).1.fo.length = (altP gs n o).1.tk.length ∧
      Good (nT (altP gs n o).1) (nE (altP gs n o).1) (Rg lo (altP gs n o).1.tk.length) (altP gs n o).2 (fun w => Lo w ∨ orL Ls w)
  | [], [], _, _, n, lo, o, Lo, hn, _, ho => ⟨Same.refl _ _, Nat.le_refl _, hn, ho.lang fun w => by simp [orL]⟩
  | [], _ :: _, h, _, _, _, _, _, _, _, _ => by simp at h
  | _ :: _, [], h, _, _, _, _, _, _, _, _ => by simp at h
  | g :: gs, L :: Ls, h, hl, n, lo, o, Lo, hn, hlo, ho => by
    obtain ⟨g1, g2, g3, g4⟩ := hl 0 g L rfl rfl n hn
    obtain ⟨r1, r2, r3, r4⟩ := altP_good gs Ls (by simpa using h) (fun i g' L' hg hL => hl (i + 1) g' L' (by simpa using hg) (by simpa using hL)) (g n).1 lo ⟨o.e || (g n).2.e, o.F ||| (g n).2.F, o.L ||| (g n).2.L⟩ (fun w => Lo w ∨ L w)
      g3 (by omega) (alt_good hlo g2 (ho.same g1) g4)
    refine ⟨(g1.le hlo).trans r1, by exact Nat.le_trans g2 r2, r3, r4.lang fun w => ?_⟩
    rw [or_assoc]; rfl
/-- an alternative begins with nothing at all, which is no part: the first one is laid beside it -/
theorem altP_first (T E : Nat → Nat → Prop) (P : Part) : (⟨false || P.e, 0 ||| P.F, 0 ||| P.L⟩ : Part) = P := by simp

/-- parts that lie one behind the other, each of the rows of La -/
def Consec (n : Nt) (La : List Nat → Prop) : Nat → List Part → Prop
  | lo, [] => lo = n.tk.length
  | lo, p :: ps => ∃ mid, lo ≤ mid ∧ mid ≤ n.tk.length ∧ Good (nT n) (nE n) (Rg lo mid) p La ∧ Consec n La mid ps
theorem Consec.lo_le {n : Nt} {La : List Nat → Prop} : ∀ {ps : List Part} {lo : Nat}, Consec n La lo ps → lo ≤ n.tk.length
  | [], _, h => by unfold Consec at h; omega
  | _ :: _, _, ⟨mid, h1, h2, _⟩ => by omega
/-- one more at the end -/
theorem Consec.snoc {n n' : Nt} {La : List Nat → Prop} {p : Part} (hs : Same n.tk.length n n') (hle : n.tk.length ≤ n'.tk.length) (hp : Good (nT n') (nE n') (Rg n.tk.length n'.tk.length) p La) :
    ∀ {ps : List Part} {lo : Nat}, Consec n La lo ps → Consec n' La lo (ps ++ [p])
  | [], lo, h => by
    unfold Consec at h
    subst h
    exact ⟨n'.tk.length, hle, Nat.le_refl _, hp, rfl⟩
  | q :: ps, lo, ⟨mid, h1, h2, h3, h4⟩ => ⟨mid, h1, by omega, h3.same (hs.le h2), Consec.snoc hs hle hp h4⟩
theorem iterP_good {g : Nt → Nt × Part} {La : List Nat → Prop} (hg : Laid g La) (n : Nt) (hn : n.fo.length = n.tk.length) : ∀ i,
    Same n.tk.length n (iterP g n i).1 ∧ n.tk.length ≤ (iterP g n i).1.tk.length ∧ (iterP g n i).1.fo.length = (iterP g n i).1.tk.length ∧ Consec (iterP g n i).1 La n.tk.length (iterP g n i).2
  | 0 => ⟨Same.refl _ _, Nat.le_refl _, hn, rfl⟩
  | i + 1 => by
    obtain ⟨h1, h2, h3, h4⟩ := iterP_good hg n hn i
    obtain ⟨g1, g2, g3, g4⟩ := hg _ h3
    exact ⟨h1.trans (g1.le h2), Nat.le_trans h2 g2, g3, h4.snoc g1 g2 g4⟩

/-- the rows of what is laid from copy i on -/
def backL (La : List Nat → Prop) (a b : Int) (i : Nat) (ps : List Part) (w : List Nat) : Prop := ∃ k : Nat, powL La k w ∧ a ≤ (i : Int) + k ∧ ((b < 0 ∧ ps ≠ []) ∨ k ≤ ps.length)
theorem backP_good (a b : Int) (tk : List (Int × Int)) (La : List Nat → Prop) : ∀ (ps : List Part) (i : Nat) (lo : Nat) (fo : List Nat), fo.length = tk.length → a ≤ (i : Int) + ps.length → Consec ⟨tk, fo⟩ La lo ps →
    Same lo ⟨tk, fo⟩ ⟨tk, (backP a b i ps fo).1⟩ ∧ (backP a b i ps fo).1.length = tk.length ∧
      Good (nT ⟨tk, (backP a b i ps fo).1⟩) (nE ⟨tk, (backP a b i ps fo).1⟩) (Rg lo tk.length) (backP a b i ps fo).2 (backL La a b i ps)
  | [], i, lo, fo, hf, ha, hc => by
    unfold Consec at hc
    refine ⟨Same.refl _ _, hf, ((Good.nothing _ _).set_ ?_).lang ?_⟩
    · intro p; simp only at hc; exact ⟨fun h => h.elim, fun h => by unfold Rg at h; omega⟩
    · intro w
      constructor
      · rintro rfl; exact ⟨0, rfl, by simpa using ha, .inr (Nat.le_refl _)⟩
      · rintro ⟨k, h1, _, h3⟩
        obtain rfl : k = 0 := by simpa using h3
        exact h1
  | p :: ps, i, lo, fo, hf, ha, ⟨mid, m1, m2, m3, m4⟩ => by
    simp only [List.length_cons] at ha
    simp only at m2
    obtain ⟨r1, r2, r3⟩ := backP_good a b tk La ps (i + 1) mid fo hf (by push_cast; omega) m4
    have hp := m3.same r1
    have hb : backP a b i (p :: ps) fo = backStep a b ps.isEmpty i p (backP a b (i + 1) ps fo) := rfl
    rw [hb]
    generalize backP a b (i + 1) ps fo = R at r1 r2 r3 hp
    have hpL : ∀ q, ¬ Rg lo mid q → p.L.testBit q = false := fun q hq => by
      rw [← Bool.not_eq_true]; exact fun h => hq (hp.L q h)
    obtain ⟨fo1, hfo1, s1, s2, s3, s4⟩ : ∃ fo1, (if b < 0 ∧ ps.isEmpty = true then linkP p.L p.F 0 R.1 else R.1) = fo1 ∧ fo1.length = tk.length ∧ Same lo ⟨tk, R.1⟩ ⟨tk, fo1⟩ ∧
        Good (nT ⟨tk, fo1⟩) (nE ⟨tk, fo1⟩) (Rg lo mid) p (fun w => if b < 0 ∧ ps = [] then ∃ n, 0 < n ∧ powL La n w else La w) ∧ Good (nT ⟨tk, fo1⟩) (nE ⟨tk, fo1⟩) (Rg mid tk.length) R.2 (backL La a b (i + 1) ps) := by
      by_cases hs : b < 0 ∧ ps = []
      · have hs' : b < 0 ∧ ps.isEmpty = true := ⟨hs.1, by simp [hs.2]⟩
        refine ⟨linkP p.L p.F 0 R.1, by rw [if_pos hs'], by rw [linkP_length]; exact r2, same_link tk _ _ _ lo fun q hq => hpL q fun h => by unfold Rg at h; omega, ?_, ?_⟩
        · have hg := Good.plus (T := nT ⟨tk, R.1⟩) (E := nE ⟨tk, linkP p.L p.F 0 R.1⟩) hp fun q q' hq => nE_link tk _ _ R.1 q q' (by unfold Rg at hq; omega)
          refine hg.lang fun w => ?_
          rw [if_pos hs]
        · refine r3.congr (fun q q' hq => ?_) fun _ _ _ => Iff.rfl
          rw [nE_link tk _ _ R.1 q q' (by unfold Rg at hq; omega), hpL q fun h => by unfold Rg at h hq; omega]
          simp
      · have hs' : ¬ (b < 0 ∧ ps.isEmpty = true) := fun h => hs ⟨h.1, by simpa using h.2⟩
        refine ⟨R.1, by rw [if_neg hs'], r2, Same.refl _ _, hp.lang fun w => ?_, r3⟩
        rw [if_neg hs]
    obtain ⟨c1, c2⟩ := cat_good (n := ⟨tk, fo1⟩) m1 m2 (by show tk.length ≤ fo1.length; omega) s3 s4
    have hbs : backStep a b ps.isEmpty i p R = (linkP p.L R.2.F 0 fo1, ⟨(p.e && R.2.e) || decide (a ≤ (i : Int)), (outP p R.2).F, (outP p R.2).L⟩) := by
      unfold backStep
      simp only [hfo1]
    rw [hbs]
    refine ⟨((r1.le m1).trans s2).trans c1, by simp only [linkP_length]; exact s1, (c2.opt (decide (a ≤ (i : Int)))).lang fun w => ?_⟩
    unfold backL
    constructor
    · rintro (⟨u, v, rfl, hu, k, k1, k2, k3⟩ | ⟨rfl, h⟩)
      · by_cases hs : b < 0 ∧ ps = []
        · rw [if_pos hs] at hu
          obtain ⟨j, j1, j2⟩ := hu
          obtain ⟨hs1, rfl⟩ := hs
          obtain rfl : k = 0 := by simpa using k3
          unfold powL at k1
          subst k1
          refine ⟨j, by simpa using j2, ?_, .inl ⟨hs1, by simp⟩⟩
          simp only [List.length_nil] at ha; omega
        · rw [if_neg hs] at hu
          refine ⟨k + 1, ⟨u, v, rfl, hu, k1⟩, by push_cast at k2 ⊢; omega, ?_⟩
          rcases k3 with k3 | k3
          · exact .inl ⟨k3.1, by simp⟩
          · exact .inr (by simp only [List.length_cons]; omega)
      · exact ⟨0, rfl, by have := of_decide_eq_true h; push_cast; omega, .inr (Nat.zero_le _)⟩
    · rintro ⟨k, k1, k2, k3⟩
      cases k with
      | zero => exact .inr ⟨k1, decide_eq_true (by push_cast at k2; omega)⟩
      | succ k =>
        refine .inl ?_
        by_cases hs : b < 0 ∧ ps = []
        · refine ⟨w, [], by simp, by simp only [if_pos hs]; exact ⟨k + 1, by omega, k1⟩, 0, rfl, ?_, .inr (Nat.zero_le _)⟩
          rw [hs.2] at ha
          simp only [List.length_nil] at ha; push_cast; omega
        · obtain ⟨u, v, rfl, hu, hv⟩ := k1
          refine ⟨u, v, rfl, by simp only [if_neg hs]; exact hu, k, hv, by push_cast at k2 ⊢; omega, ?_⟩
          by_cases hb0 : b < 0
          · exact .inl ⟨hb0, fun e => hs ⟨hb0, e⟩⟩
          · refine .inr ?_
            rcases k3 with k3 | k3
            · exact absurd k3.1 hb0
            · simp only [List.length_cons] at k3; omega

theorem orL_iff (Ls : List (List Nat → Prop)) (w : List Nat) : orL Ls w ↔ ∃ L ∈ Ls, L w := by
  induction Ls with
  | nil => simp [orL]
  | cons L Ls ih => simp [orL, ih]
theorem powL_nil {La : List Nat → Prop} (h : ∀ w, La w ↔ w = []) : ∀ n w, powL La n w ↔ w = []
  | 0, w => Iff.rfl
  | n + 1, w => by
    unfold powL
    simp only [powL_nil h n, h]
    constructor
    · rintro ⟨u, v, rfl, rfl, rfl⟩; rfl
    · rintro rfl; exact ⟨[], [], rfl, rfl, rfl⟩
theorem catsL_nil : ∀ (Ls : List (List Nat → Prop)), (∀ L ∈ Ls, ∀ w, L w ↔ w = []) → ∀ w, catsL Ls w ↔ w = []
  | [], _, w => Iff.rfl
  | L :: Ls, h, w => by
    unfold catsL catL
    simp only [catsL_nil Ls fun L' hL' => h L' (by simp [hL']), h L (by simp)]
    constructor
    · rintro ⟨u, v, rfl, rfl, rfl⟩; rfl
    · rintro rfl; exact ⟨[], [], rfl, rfl, rfl⟩
/-- a pattern of no positions matches the empty row alone -/
theorem Lang_none : ∀ (z : Nat) (x : Ex), SizeOf.sizeOf x < z → rightP x = true → positionsP x = 0 → ∀ w, Lang x w ↔ w = [] := by
  intro z
  induction z with
  | zero => intro _ h; omega
  | succ z ih =>
    intro x hz hR hp w
    obtain ⟨k, f, t, a, b, l⟩ := x
    obtain ⟨hh, hr⟩ := rightP_head hR
    have hs := positionsS_le l hr
    unfold positionsP at hp
    by_cases k1 : k = 1
    · rw [if_pos k1] at hp; omega
    · rw [if_neg k1] at hp
      unfold Lang
      rw [if_neg k1, Langs_eq]
      by_cases k4 : k = 4
      · rw [if_pos k4] at hp
        have hc := copiesP_le hh k4
        rw [if_neg (by omega), if_pos k4]
        subst k4
        simp [headOk] at hh
        obtain ⟨y, rfl⟩ := List.length_eq_one_iff.1 (by omega : l.length = 1)
        have ey : positionsS [y] = positionsP y := by simp [positionsS]
        rw [ey] at hp hs
        simp only [List.map_cons, List.headD_cons]
        have h0 : positionsP y * copiesP a b = 0 := by
          have := Int.mul_nonneg hs.1 hc.1; omega
        rcases Int.mul_eq_zero.1 h0 with h0 | h0
        · have hy := ih y (by have := Ex.lt_of_mem (l := [y]) (x := y) (by simp) 4 f t a b; omega) (hr y (by simp)) h0
          simp only [powL_nil hy]
          constructor
          · rintro ⟨_, _, _, h⟩; exact h
          · rintro rfl; exact ⟨a.toNat, by omega, by omega, rfl⟩
        · have hb : b = 0 ∧ a = 0 := by unfold copiesP at h0; split at h0 <;> omega
          constructor
          · rintro ⟨n, h1, h2, h3⟩
            obtain rfl : n = 0 := by omega
            exact h3
          · rintro rfl; exact ⟨0, by omega, by omega, rfl⟩
      · rw [if_neg k4] at hp
        have hS : positionsS l = 0 := by omega
        have hx : ∀ x ∈ l, ∀ w, Lang x w ↔ w = [] := fun x hx => ih x (by have := Ex.lt_of_mem hx k f t a b; omega) (hr x hx) (by have := positionsP_le_S l hr x hx; have := (positionsP_le x (hr x hx)).1; omega)
        have hL : ∀ L ∈ l.map Lang, ∀ w, L w ↔ w = [] := by
          intro L hL
          obtain ⟨x, h1, rfl⟩ := List.mem_map.1 hL
          exact hx x h1
        by_cases k3 : k = 3
        · rw [if_pos k3, orL_iff]
          constructor
          · rintro ⟨L, h1, h2⟩; exact (hL L h1 w).1 h2
          · rintro rfl
            subst k3
            simp [headOk] at hh
            obtain ⟨y, hy⟩ := List.exists_mem_of_length_pos (by omega : 0 < l.length)
            exact ⟨Lang y, List.mem_map_of_mem hy, (hx y hy []).2 rfl⟩
        · rw [if_neg k3, if_neg k4]
          exact catsL_nil _ hL w

/-- a right pattern's net takes the rows that the pattern matches -/
theorem addP_good : ∀ (z : Nat) (x : Ex), SizeOf.sizeOf x < z → rightP x = true → Laid (addP x) (Lang x) := by
  intro z
  induction z with
  | zero => intro _ h; omega
  | succ z ih =>
    intro x hz hR n hn
    obtain ⟨k, f, t, a, b, l⟩ := x
    obtain ⟨hh, hr⟩ := rightP_head hR
    have hl : ∀ (i : Nat) (g : Nt → Nt × Part) (L : List Nat → Prop), (addsP l)[i]? = some g → (Langs l)[i]? = some L → Laid g L := by
      intro i g L hg hL
      rw [addsP_eq, List.getElem?_map] at hg
      rw [Langs_eq, List.getElem?_map] at hL
      cases hx : l[i]? with
      | none => rw [hx] at hg; simp at hg
      | some x =>
        rw [hx] at hg hL
        simp only [Option.map_some, Option.some.injEq] at hg hL
        subst hg hL
        have hm : x ∈ l := List.mem_of_getElem? hx
        exact ih x (by have := Ex.lt_of_mem hm k f t a b; omega) (hr x hm)
    have hlen : (addsP l).length = (Langs l).length := by simp [addsP_eq, Langs_eq]
    have hnil : Good (nT n) (nE n) (Rg n.tk.length n.tk.length) ⟨true, 0, 0⟩ (fun w => w = []) := (Good.nothing _ _).set_ fun p => ⟨fun h => h.elim, fun h => by unfold Rg at h; omega⟩
    unfold addP Lang
    by_cases k1 : k = 1
    · rw [if_pos k1]
      simp only [if_pos k1]
      subst k1
      simp [headOk] at hh
      refine ⟨?_, by simp, by simp [hn], ?_, ?_, ?_, ?_, ?_, ?_⟩
      · intro p hp
        exact ⟨by simp only; rw [List.getElem?_append_left hp], by simp only; rw [List.getElem?_append_left (by omega)]⟩
      · intro p hp
        simp only [Nat.testBit_two_pow, decide_eq_true_eq] at hp
        subst hp; unfold Rg; simp
      · intro p hp
        simp only [Nat.testBit_two_pow, decide_eq_true_eq] at hp
        subst hp; unfold Rg; simp
      · intro p q hp e
        unfold Rg at hp
        simp at hp
        obtain rfl : p = n.tk.length := by omega
        unfold nE at e
        rw [← hn] at e
        simp at e
      · intro w
        have hT : ∀ c, nT ⟨n.tk ++ [(f, t)], n.fo ++ [0]⟩ n.tk.length c ↔ f ≤ (c : Int) ∧ (c : Int) ≤ t := by intro c; unfold nT; simp
        have hE : ∀ q, ¬ nE ⟨n.tk ++ [(f, t)], n.fo ++ [0]⟩ n.tk.length q := by intro q; unfold nE; rw [← hn]; simp
        constructor
        · rintro (⟨_, h⟩ | ⟨p, q, h1, h2, k⟩)
          · simp at h
          · simp only [Nat.testBit_two_pow, decide_eq_true_eq] at h1 h2
            subst h1
            cases k with
            | one t => exact ⟨_, rfl, (hT _).1 t⟩
            | cons _ e _ => exact (hE _ e).elim
        · rintro ⟨c, rfl, h⟩
          exact .inr ⟨n.tk.length, n.tk.length, by simp, by simp, .one ((hT c).2 h)⟩
      · intro p hp
        unfold Rg at hp
        simp at hp
        obtain rfl : p = n.tk.length := by omega
        refine ⟨[f.toNat], n.tk.length, by simp, .one ?_⟩
        unfold nT; simp; omega
      · exact ⟨[f.toNat], f.toNat, rfl, by omega, by omega⟩
    · rw [if_neg k1]
      simp only [if_neg k1]
      by_cases k3 : k = 3
      · rw [if_pos k3]
        simp only [if_pos k3]
        subst k3
        simp [headOk] at hh
        obtain ⟨y, ys, rfl⟩ : ∃ y ys, l = y :: ys := by cases l with | nil => simp at hh | cons y ys => exact ⟨y, ys, rfl⟩
        simp only [addsP, Langs] at hl hlen ⊢
        obtain ⟨g1, g2, g3, g4⟩ := hl 0 _ _ rfl rfl n hn
        have hA := altP_good (addsP ys) (Langs ys) (by simpa using hlen) (fun i g L hg hL => hl (i + 1) g L (by simpa using hg) (by simpa using hL)) (addP y n).1 n.tk.length (addP y n).2 (Lang y) g3 g2 g4
        have e : altP (addP y :: addsP ys) n ⟨false, 0, 0⟩ = altP (addsP ys) (addP y n).1 (addP y n).2 := by
          conv => lhs; unfold altP
          simp
        rw [e]
        exact ⟨g1.trans hA.1, Nat.le_trans g2 hA.2.1, hA.2.2.1, hA.2.2.2⟩
      · rw [if_neg k3]
        simp only [if_neg k3]
        by_cases k4 : k = 4
        · rw [if_pos k4]
          simp only [if_pos k4]
          have hc := copiesP_le hh k4
          subst k4
          simp [headOk] at hh
          obtain ⟨y, rfl⟩ := List.length_eq_one_iff.1 (by omega : l.length = 1)
          have ey : positionsS [y] = positionsP y := by simp [positionsS]
          rw [ey]
          unfold repP
          simp only [addsP, Langs, List.headD_cons] at hl ⊢
          by_cases p0 : positionsP y = 0
          · rw [if_pos p0]
            refine ⟨Same.refl _ _, Nat.le_refl _, hn, hnil.lang fun w => ?_⟩
            simp only [powL_nil (Lang_none _ y (Nat.lt_succ_self _) (hr y (by simp)) p0)]
            constructor
            · rintro rfl; exact ⟨a.toNat, by omega, by omega, rfl⟩
            · rintro ⟨_, _, _, h⟩; exact h
          · rw [if_neg p0]
            obtain ⟨i1, i2, i3, i4⟩ := iterP_good (hl 0 _ _ rfl rfl) n hn (copiesP a b).toNat
            have hlen2 : (iterP (addP y) n (copiesP a b).toNat).2.length = (copiesP a b).toNat := by
              generalize (copiesP a b).toNat = c
              clear i1 i2 i3 i4
              induction c with
              | zero => rfl
              | succ c ihc => simp [iterP, ihc]
            have hca : a ≤ copiesP a b := by unfold copiesP; split <;> omega
            obtain ⟨b1, b2, b3⟩ := backP_good a b (iterP (addP y) n (copiesP a b).toNat).1.tk (Lang y) (iterP (addP y) n (copiesP a b).toNat).2 0 n.tk.length (iterP (addP y) n (copiesP a b).toNat).1.fo i3 (by rw [hlen2]; omega) i4
            refine ⟨i1.trans b1, i2, b2, b3.lang fun w => ?_⟩
            unfold backL
            rw [hlen2]
            have hne : b < 0 → (iterP (addP y) n (copiesP a b).toNat).2 ≠ [] := by
              intro hb e
              rw [e] at hlen2
              unfold copiesP at hlen2
              rw [if_pos hb] at hlen2
              simp at hlen2; omega
            constructor
            · rintro ⟨k, k1, k2, k3⟩
              refine ⟨k, by push_cast at k2; omega, ?_, k1⟩
              rcases k3 with k3 | k3
              · exact .inl k3.1
              · by_cases hb : b < 0
                · exact .inl hb
                · unfold copiesP at k3; rw [if_neg hb] at k3; exact .inr (by omega)
            · rintro ⟨k, k1, k2, k3⟩
              refine ⟨k, k3, by push_cast; omega, ?_⟩
              rcases k2 with k2 | k2
              · exact .inl ⟨k2, hne k2⟩
              · refine .inr ?_
                unfold copiesP; rw [if_neg (by omega)]; omega
        · rw [if_neg k4]
          simp only [if_neg k4]
          have hS := seqP_good (addsP l) (Langs l) hlen hl n n.tk.length ⟨true, 0, 0⟩ (fun w => w = []) hn (Nat.le_refl _) hnil
          refine ⟨hS.1, hS.2.1, hS.2.2.1, hS.2.2.2.lang fun w => ?_⟩
          constructor
          · rintro ⟨u, v, rfl, rfl, h⟩; exact h
          · intro h; exact ⟨[], w, rfl, rfl, h⟩
end Go.Proofs.YticipgjbgcdccaaDoor
namespace Go.Proofs.YticipgjbgcdccaaDoor
open Go.RowKit

theorem Pth.snoc_iff {T E : Nat → Nat → Prop} {c : Nat} : ∀ {u : List Nat} {p q : Nat}, Pth T E p (u ++ [c]) q ↔ (u = [] ∧ p = q ∧ T q c) ∨ ∃ r, Pth T E p u r ∧ E r q ∧ T q c
  | [], p, q => by
    constructor
    · intro h
      cases h with
      | one t => exact .inl ⟨rfl, rfl, t⟩
      | cons _ _ k => exact absurd rfl k.ne
    · rintro (⟨_, rfl, t⟩ | ⟨r, k, _, _⟩)
      · exact .one t
      · exact absurd rfl k.ne
  | a :: u, p, q => by
    constructor
    · intro h
      have h' : Pth T E p (a :: (u ++ [c])) q := h
      generalize hw : u ++ [c] = w at h'
      cases h' with
      | one t => simp at hw
      | @cons _ _ s _ _ t e k =>
        subst hw
        rcases Pth.snoc_iff.1 k with ⟨rfl, rfl, t2⟩ | ⟨r, k2, e2, t2⟩
        · exact .inr ⟨p, .one t, e, t2⟩
        · exact .inr ⟨r, .cons t e k2, e2, t2⟩
    · rintro (⟨h, _⟩ | ⟨r, k, e, t⟩)
      · cases h
      · exact k.append e (.one t)

/-- which positions may come behind the bytes u -/
def Nx (T E : Nat → Nat → Prop) (P : Part) (u : List Nat) (p : Nat) : Prop := (u = [] ∧ P.F.testBit p = true) ∨ ∃ p0 q, P.F.testBit p0 = true ∧ Pth T E p0 u q ∧ E q p
/-- a way through the part reads just u -/
def En (T E : Nat → Nat → Prop) (P : Part) (u : List Nat) : Prop := ∃ p0 q, P.F.testBit p0 = true ∧ P.L.testBit q = true ∧ Pth T E p0 u q
theorem Nx_snoc {T E : Nat → Nat → Prop} {P : Part} {u : List Nat} {c q : Nat} : Nx T E P (u ++ [c]) q ↔ ∃ p, Nx T E P u p ∧ T p c ∧ E p q := by
  unfold Nx
  constructor
  · rintro (⟨h, _⟩ | ⟨p0, r, h1, k, e⟩)
    · simp at h
    · rcases Pth.snoc_iff.1 k with ⟨rfl, rfl, t⟩ | ⟨s, k2, e2, t⟩
      · exact ⟨p0, .inl ⟨rfl, h1⟩, t, e⟩
      · exact ⟨r, .inr ⟨p0, s, h1, k2, e2⟩, t, e⟩
  · rintro ⟨p, ⟨rfl, h1⟩ | ⟨p0, r, h1, k, e2⟩, t, e⟩
    · exact .inr ⟨p, p, h1, .one t, e⟩
    · exact .inr ⟨p0, p, h1, Pth.snoc_iff.2 (.inr ⟨r, k, e2, t⟩), e⟩
theorem En_snoc {T E : Nat → Nat → Prop} {P : Part} {u : List Nat} {c : Nat} : En T E P (u ++ [c]) ↔ ∃ p, Nx T E P u p ∧ T p c ∧ P.L.testBit p = true := by
  unfold En Nx
  constructor
  · rintro ⟨p0, q, h1, h2, k⟩
    rcases Pth.snoc_iff.1 k with ⟨rfl, rfl, t⟩ | ⟨s, k2, e2, t⟩
    · exact ⟨p0, .inl ⟨rfl, h1⟩, t, h2⟩
    · exact ⟨q, .inr ⟨p0, s, h1, k2, e2⟩, t, h2⟩
  · rintro ⟨p, ⟨rfl, h1⟩ | ⟨p0, r, h1, k, e2⟩, t, h2⟩
    · exact ⟨p, p, h1, h2, .one t⟩
    · exact ⟨p0, p, h1, h2, Pth.snoc_iff.2 (.inr ⟨r, k, e2, t⟩)⟩
/-- what goes on behind u goes on through a position that may come behind it -/
theorem En_append {T E : Nat → Nat → Prop} {P : Part} : ∀ {v u : List Nat}, v ≠ [] → En T E P (u ++ v) → ∃ p, Nx T E P u p
  | [], _, h, _ => absurd rfl h
  | [c], u, _, h => by
    obtain ⟨p, h1, _⟩ := En_snoc.1 h
    exact ⟨p, h1⟩
  | c :: d :: v, u, _, h => by
    rw [show u ++ c :: d :: v = (u ++ [c]) ++ (d :: v) by simp] at h
    obtain ⟨q, hq⟩ := En_append (by simp) h
    obtain ⟨p, h1, _⟩ := Nx_snoc.1 hq
    exact ⟨p, h1⟩

theorem step_spec (n : Nt) (P : Part) (c : Nat) (ps : List Nat) : (∀ q, (stepP n P.L c ps).1.testBit q = true ↔ ∃ p ∈ ps, nT n p c ∧ nE n p q) ∧ ((stepP n P.L c ps).2 = true ↔ ∃ p ∈ ps, nT n p c ∧ P.L.testBit p = true) := by
  have gen : ∀ (ps : List Nat) (r : Nat × Bool),
      (∀ q, (ps.foldl (fun r p => if (c : Int) < (n.tk.getD p (0, 0)).1 ∨ (n.tk.getD p (0, 0)).2 < (c : Int) then r else (r.1 ||| n.fo.getD p 0, r.2 || P.L.testBit p)) r).1.testBit q = true ↔ r.1.testBit q = true ∨ ∃ p ∈ ps, nT n p c ∧ nE n p q) ∧
      ((ps.foldl (fun r p => if (c : Int) < (n.tk.getD p (0, 0)).1 ∨ (n.tk.getD p (0, 0)).2 < (c : Int) then r else (r.1 ||| n.fo.getD p 0, r.2 || P.L.testBit p)) r).2 = true ↔ r.2 = true ∨ ∃ p ∈ ps, nT n p c ∧ P.L.testBit p = true) := by
    intro ps
    induction ps with
    | nil => intro r; simp
    | cons p ps ih =>
      intro r
      simp only [List.foldl_cons]
      obtain ⟨h1, h2⟩ := ih (if (c : Int) < (n.tk.getD p (0, 0)).1 ∨ (n.tk.getD p (0, 0)).2 < (c : Int) then r else (r.1 ||| n.fo.getD p 0, r.2 || P.L.testBit p))
      by_cases q : (c : Int) < (n.tk.getD p (0, 0)).1 ∨ (n.tk.getD p (0, 0)).2 < (c : Int)
      · have hn : ¬ nT n p c := by unfold nT; omega
        rw [if_pos q] at h1 h2 ⊢
        exact ⟨fun q' => by rw [h1]; simp [hn], by rw [h2]; simp [hn]⟩
      · have hn : nT n p c := by unfold nT; omega
        rw [if_neg q] at h1 h2 ⊢
        refine ⟨fun q' => ?_, ?_⟩
        · rw [h1, Nat.testBit_or, Bool.or_eq_true]
          simp [hn, nE, or_assoc]
        · rw [h2, Bool.or_eq_true]
          simp [hn, or_assoc]
  obtain ⟨h1, h2⟩ := gen ps (0, false)
  exact ⟨fun q => (h1 q).trans (by simp), h2.trans (by simp)⟩

/-- the longest front up to place i of the row b that L holds of, as a number; -1: of none -/
def LongAt (Lg : List Nat → Prop) (b : List Nat) (i : Nat) (lo : Int) : Prop :=
  (lo = -1 ∧ ∀ j, j ≤ i → ¬ Lg (b.take j)) ∨ ∃ k : Nat, k ≤ i ∧ lo = k ∧ Lg (b.take k) ∧ ∀ j, k < j → j ≤ i → ¬ Lg (b.take j)

theorem run_spec {n : Nt} {P : Part} {A : Nat → Prop} {Lg : List Nat → Prop} {sz : Nat} (hG : Good (nT n) (nE n) A P Lg) (hA : ∀ p, A p → p < 64 * sz) (b : List Nat) : ∀ (cs u : List Nat) (next : Nat) (lo : Int), b = u ++ cs → next < 2 ^ (64 * sz) →
    (∀ p, next.testBit p = true ↔ Nx (nT n) (nE n) P u p) → LongAt Lg b u.length lo → (∃ v, Lg (u ++ v)) →
    LongAt Lg b b.length (runP n P.L sz u.length cs next lo).1 ∧ ((runP n P.L sz u.length cs next lo).2 = true ↔ ∃ v, Lg (b ++ v))
  | [], u, next, lo, hb, _, _, hlo, hv => by
    rw [List.append_nil] at hb
    subst hb
    exact ⟨hlo, by simp [runP]; exact hv⟩
  | c :: cs, u, next, lo, hb, hnx, hN, hlo, hv => by
    have hEn : ∀ w, w ≠ [] → (Lg w ↔ En (nT n) (nE n) P w) := fun w hw => by
      rw [← hG.acc w]
      unfold Acc En
      simp [hw]
    obtain ⟨s1, s2⟩ := step_spec n P c (eachP sz next)
    have hq : ∀ q, (stepP n P.L c (eachP sz next)).1.testBit q = true ↔ Nx (nT n) (nE n) P (u ++ [c]) q := fun q => by
      rw [s1, Nx_snoc]
      simp only [mem_eachP hnx, hN]
    have he : (stepP n P.L c (eachP sz next)).2 = true ↔ Lg (u ++ [c]) := by
      rw [s2, hEn _ (by simp), En_snoc]
      simp only [mem_eachP hnx, hN]
    have hNA : ∀ q, Nx (nT n) (nE n) P (u ++ [c]) q → A q := by
      intro q h
      unfold Nx at h
      rcases h with ⟨h, _⟩ | ⟨p0, r, h1, k, e⟩
      · simp at h
      · exact hG.stay _ _ (k.stays (hG.F p0 h1) hG.stay) e
    have hlt : (stepP n P.L c (eachP sz next)).1 < 2 ^ (64 * sz) := by
      apply Nat.lt_pow_two_of_testBit
      intro i hi
      rw [← Bool.not_eq_true]
      intro h
      have := hA i (hNA i ((hq i).1 h))
      omega
    have hb' : b = (u ++ [c]) ++ cs := by rw [hb]; simp
    have htk : b.take (u.length + 1) = u ++ [c] := by
      rw [hb', List.take_append_of_le_length (by simp)]
      exact List.take_of_length_le (by simp)
    have hlen : (u ++ [c]).length = u.length + 1 := by simp
    have hrun : runP n P.L sz u.length (c :: cs) next lo = if (stepP n P.L c (eachP sz next)).2 = true then runP n P.L sz (u.length + 1) cs (stepP n P.L c (eachP sz next)).1 ((u.length : Int) + 1)
        else if (stepP n P.L c (eachP sz next)).1 = 0 then (lo, false) else runP n P.L sz (u.length + 1) cs (stepP n P.L c (eachP sz next)).1 lo := rfl
    rw [hrun]
    clear hrun s1 s2
    generalize stepP n P.L c (eachP sz next) = r at hq he hlt ⊢
    by_cases e1 : r.2 = true
    · rw [if_pos e1]
      have hL := he.1 e1
      have := run_spec hG hA b cs (u ++ [c]) r.1 ((u.length : Int) + 1) hb' hlt hq (.inr ⟨u.length + 1, by rw [hlen]; exact Nat.le_refl _, by push_cast; rfl, by rw [htk]; exact hL, fun j h1 h2 => by rw [hlen] at h2; omega⟩) ⟨[], by simpa using hL⟩
      rw [hlen] at this
      exact this
    · rw [if_neg e1]
      have hL : ¬ Lg (u ++ [c]) := fun h => e1 (he.2 h)
      by_cases e2 : r.1 = 0
      · rw [if_pos e2]
        have hdead : ∀ w, ¬ Lg ((u ++ [c]) ++ w) := by
          intro w h
          by_cases hw : w = []
          · subst hw; simp at h; exact hL (by simpa using h)
          · obtain ⟨p, hp⟩ := En_append hw ((hEn _ (by simp)).1 h)
            have := (hq p).2 hp
            rw [e2] at this
            simp at this
        have htake : ∀ j, u.length < j → ∃ w, b.take j = (u ++ [c]) ++ w := fun j hj => by
          refine ⟨cs.take (j - (u.length + 1)), ?_⟩
          rw [hb', List.take_append, hlen, List.take_of_length_le (by rw [hlen]; omega)]
        refine ⟨?_, ?_⟩
        · rcases hlo with ⟨rfl, h⟩ | ⟨k, h1, rfl, h2, h3⟩
          · refine .inl ⟨rfl, fun j hj => ?_⟩
            by_cases q : j ≤ u.length
            · exact h j q
            · obtain ⟨w, hw⟩ := htake j (by omega)
              rw [hw]; exact hdead w
          · refine .inr ⟨k, ?_, rfl, h2, fun j h4 h5 => ?_⟩
            · rw [hb]; simp; omega
            · by_cases q : j ≤ u.length
              · exact h3 j h4 q
              · obtain ⟨w, hw⟩ := htake j (by omega)
                rw [hw]; exact hdead w
        · constructor
          · intro h; cases h
          · rintro ⟨v, h⟩
            rw [hb', List.append_assoc] at h
            exact absurd h (hdead _)
      · rw [if_neg e2]
        have hv2 : ∃ v, Lg ((u ++ [c]) ++ v) := by
          have hex : ∃ p, r.1.testBit p = true := Nat.exists_testBit_of_ne_zero e2
          obtain ⟨p, hp⟩ := hex
          have hnx2 := (hq p).1 hp
          obtain ⟨w, q', h1, k1⟩ := hG.out p (hNA p hnx2)
          rcases hnx2 with ⟨h, _⟩ | ⟨p0, q, h2, k2, e⟩
          · simp at h
          · exact ⟨w, (hEn _ (by simp)).2 ⟨p0, q', h2, h1, k2.append e k1⟩⟩
        have hlo2 : LongAt Lg b (u ++ [c]).length lo := by
          rcases hlo with ⟨rfl, h⟩ | ⟨k, h1, rfl, h2, h3⟩
          · refine .inl ⟨rfl, fun j hj => ?_⟩
            rw [hlen] at hj
            by_cases q : j ≤ u.length
            · exact h j q
            · obtain rfl : j = u.length + 1 := by omega
              rw [htk]; exact hL
          · refine .inr ⟨k, by rw [hlen]; omega, rfl, h2, fun j h4 h5 => ?_⟩
            rw [hlen] at h5
            by_cases q : j ≤ u.length
            · exact h3 j h4 q
            · obtain rfl : j = u.length + 1 := by omega
              rw [htk]; exact hL
        have := run_spec hG hA b cs (u ++ [c]) r.1 lo hb' hlt hq hlo2 hv2
        rw [hlen] at this
        exact this

/-- what run answers of a right pattern: its longest front of the bytes; whether they begin a row of it -/
theorem ran_spec (x : Ex) (hR : rightP x = true) (hp : positionsP x ≤ 4096) (b : List Nat) : LongAt (Lang x) b b.length (ranP x b).1 ∧ ((ranP x b).2 = true ↔ ∃ v, Lang x (b ++ v)) := by
  obtain ⟨_, _, hl3, hG⟩ := addP_good _ x (Nat.lt_succ_self _) hR ⟨[], []⟩ rfl
  have hps := positionsP_le x hR
  obtain ⟨n1, n2, n3⟩ := addP_lays (positionsP x).toNat _ x (Nat.lt_succ_self _) hR hp ⟨[], []⟩ ⟨rfl, by simp, by simp⟩ (by simp)
  have hsz : (positionsP x).toNat ≤ 64 * sizeP x := by unfold sizeP; omega
  have hA : ∀ p, Rg (⟨[], []⟩ : Nt).tk.length (addP x ⟨[], []⟩).1.tk.length p → p < 64 * sizeP x := fun p hp => by
    have := hp.2
    simp at n3
    omega
  have hF : (addP x ⟨[], []⟩).2.F < 2 ^ (64 * sizeP x) := Nat.lt_of_lt_of_le n2.F (Nat.pow_le_pow_right (by decide) hsz)
  have h0 : Lang x [] ↔ (addP x ⟨[], []⟩).2.e = true := by
    rw [← hG.acc []]
    unfold Acc
    constructor
    · rintro (⟨_, h⟩ | ⟨_, _, _, _, k⟩)
      · exact h
      · exact absurd rfl k.ne
    · exact fun h => .inl ⟨rfl, h⟩
  refine run_spec hG hA b b [] (newP x).2.F (if (newP x).2.e = true then 0 else -1) rfl hF (fun p => ?_) ?_ ?_
  · unfold Nx
    constructor
    · exact fun h => .inl ⟨rfl, h⟩
    · rintro (⟨_, h⟩ | ⟨_, _, _, k, _⟩)
      · exact h
      · exact absurd rfl k.ne
  · by_cases e : (newP x).2.e = true
    · rw [if_pos e]
      exact .inr ⟨0, Nat.le_refl _, rfl, by simpa using h0.2 e, fun j h1 h2 => by simp at h2; omega⟩
    · rw [if_neg e]
      refine .inl ⟨rfl, fun j hj => ?_⟩
      obtain rfl : j = 0 := by simpa using hj
      simpa using fun h => e (h0.1 h)
  · obtain ⟨v, hv⟩ := hG.some_
    exact ⟨v, by simpa using hv⟩
end Go.Proofs.YticipgjbgcdccaaDoor
namespace Go.Proofs.YticipgjbgcdccaaDoor
open Go.RowKit

def byteV (x : Nat) : Value := .int .u8 (x : Int)
/-- a copy of bytes in block g, two marks behind them -/
def HandAt (w : World) (g : Nat) (bs : List Nat) : Prop := Blk w g 5 (bs.map byteV ++ [Value.int .u8 171, Value.int .u8 205]).toArray ∧ ∀ x ∈ bs, x < 256
theorem HandAt.chg {S : Nat → Prop} {w w' : World} {g : Nat} {bs : List Nat} (h : HandAt w g bs) (hc : Chg S w w') (hn : ¬ S g) : HandAt w' g bs := ⟨h.1.chg hc hn, h.2⟩
theorem HandAt.chgNo {w w' : World} {g : Nat} {bs : List Nat} (h : HandAt w g bs) (hc : Chg No w w') : HandAt w' g bs := h.chg hc id
theorem HandAt.byt {w : World} {g : Nat} {bs : List Nat} (h : HandAt w g bs) (hl : bs.length ≤ 140737488355328) : Byt w (some ⟨g, 0, none⟩) bs.length (bs.length + 2) bs := by
  refine ⟨rfl, by omega, by omega, fun _ => ⟨g, 0, rfl, h.1.lt, fun i x hx => ⟨?_, h.2 x (List.mem_of_getElem? hx)⟩⟩⟩
  have hlt := (List.getElem?_eq_some_iff.1 hx).1
  rw [Nat.zero_add, h.1.cell]
  simp only [List.getElem?_toArray]
  rw [List.getElem?_append_left (by simpa using hlt), List.getElem?_map, hx]; rfl

/-- one cell of a row is written -/
theorem blk_put {w : World} {g : Nat} {t : TypeId} {cs tail : List Value} {i : Nat} (h : Blk w g t (cs ++ tail).toArray) (hi : i = cs.length) (ht : tail ≠ []) (v : Value) : Blk (w.setCell ⟨g, i, none⟩ v) g t ((cs ++ [v]) ++ tail.drop 1).toArray := by
  have := h.set_ i v
  subst hi
  have e : (cs ++ tail).toArray.setIfInBounds cs.length v = ((cs ++ [v]) ++ tail.drop 1).toArray := by
    obtain ⟨x, r, rfl⟩ := List.exists_cons_of_ne_nil ht
    simp [List.set_append]
  rwa [e] at this

def zerosB (n : Nat) : List Value := (madeCells (Value.int .u8 0).cells (n * 1)).toList
theorem zerosB_length (n : Nat) : (zerosB n).length = n := by unfold zerosB; rw [Array.length_toList, size_madeCells, Nat.mul_one]
theorem info_byte : (Tryd.prog.info? 5).map (fun i => (i.zero, i.size, i.bytes)) = some (some (.int .u8 0), 1, 1) := by kernel_rfl
theorem make_bytes (w : World) (n : Nat) (hn : n ≤ 140737488355330) : (Instr.makeSlice 41 (.int .i64 (n : Int)) (.int .i64 (n : Int))).run Tryd.prog w = .ok (.slice (some ⟨w.heap.size, 0, none⟩) n n) (w.alloc (.cells (zerosB n).toArray 5)) := by
  obtain ⟨i, hi, hz'⟩ := Option.map_eq_some_iff.1 info_byte
  simp only [Prod.mk.injEq] at hz'
  obtain ⟨h1, h2, h3⟩ := hz'
  have := run_make (P := Tryd.prog) w 41 5 i _ Tryd.underlying41 hi h1 .i64 .i64 (n : Int) (n : Int) (by omega) (by omega) (by rw [h3]; omega) (by omega)
  rw [h2] at this
  simp only [Int.toNat_natCast] at this
  unfold zerosB
  rw [Array.toArray_toList]; exact this

set_option maxHeartbeats 1000000 in
set_option maxRecDepth 100000 in
theorem Hand_any (B : Option Addr) (m cb : Nat) (bs : List Nat) (w : World) (hB : Byt w B m cb bs) (hlen : bs.length ≤ 140737488355328) :
    Calls Tryd.prog 22 #[.slice B m cb] w fun e w' => ∃ g, e = .returned (.slice (some ⟨g, 0, none⟩) bs.length (bs.length + 2)) ∧ w.heap.size ≤ g ∧ HandAt w' g bs ∧ Chg No w w' := by
  obtain ⟨rfl, hc1, hc2, hB4⟩ := hB
  have HB := Lib.hid (show Byt w B bs.length cb bs from ⟨rfl, hc1, hc2, hB4⟩)
  clear hB4
  have hmk := fun w => make_bytes w (bs.length + 2) (by omega)
  simp only [Int.natCast_add, Int.cast_ofNat_Int] at hmk
  have hb := Blk.new w 5 (zerosB (bs.length + 2)).toArray
  have hc0 : Chg No w (w.alloc (.cells (zerosB (bs.length + 2)).toArray 5)) := (Chg.refl _ _).alloc _
  have hzl := zerosB_length (bs.length + 2)
  have h256 : Hid (∀ x ∈ bs, x < 256) := Lib.hid fun x hx => by
    obtain ⟨i, hi, rfl⟩ := List.getElem_of_mem hx
    obtain ⟨g, o, _, _, h⟩ := HB.out.2.2.2 (by rintro rfl; simp at hi)
    exact (h i _ (List.getElem?_eq_getElem hi)).2
  go_enter Tryd.func22, Tryd.ntmps22
  go_wp2_with fail
  go_loopw [4] (fun v4 wr => ∃ (i : Nat) (tail : List Value), i ≤ bs.length ∧ v4 = .int .i64 (i : Int) ∧ Chg No w wr ∧ Blk wr w.heap.size 5 (((bs.take i).map byteV) ++ tail).toArray ∧ Hid (tail.length = bs.length + 2 - i)) (fun v _ => bs.length - (intOf v).toNat)
  case atStart => exact ⟨0, zerosB (bs.length + 2), Nat.zero_le _, rfl, hc0, by simpa using hb, Lib.hid (by rw [hzl]; rfl)⟩
  case round =>
    clear hb hzl
    obtain ⟨i, tail, hi, rfl, hc, hba, HT⟩ := hrel
    have hltb := hba.lt
    by_cases hlt : i < bs.length
    · obtain ⟨g, o, hBe, hg, hcell⟩ := HB.out.2.2.2 (by rintro rfl; simp at hlt)
      subst hBe
      obtain ⟨x, hx⟩ : ∃ x, bs[i]? = some x := ⟨_, List.getElem?_eq_getElem hlt⟩
      have hy := (hc.below.cell (p := ⟨g, o + i, none⟩) hg).trans (hcell i x hx).1
      have hput := blk_put (i := i) hba (by simp; omega) (by intro e; have := HT.out; rw [e] at this; simp at this; omega) (byteV x)
      have hdst : i < (((bs.take i).map byteV) ++ tail).length := by have := HT.out; simp; omega
      have z0 := hba.cell i
      have f0 := hba.frozen i
      simp only [List.getElem?_toArray] at z0
      rw [List.getElem?_eq_getElem hdst] at z0
      generalize (((bs.take i).map byteV) ++ tail)[i] = old at z0
      have hrow : ((bs.take i).map byteV ++ [byteV x]) = (bs.take (i + 1)).map byteV := by
        rw [List.take_add_one, hx]; simp
      rw [hrow] at hput
      have hcw : Chg No w (wr.setCell ⟨w.heap.size, i, none⟩ (byteV x)) := hc.setCell _ fun h => absurd h (by simp)
      have HP := Lib.hid hput
      have hlt2 : i < bs.length + 2 := by omega
      have hlt3 : (i : Int) ≤ (bs.length : Int) + 1 := by omega
      have hlt4 : (i : Int) < (bs.length : Int) + 2 := by omega
      clear hput hrow hdst hx hcell
      unfold byteV at HP hcw
      go_wp2
      exact ⟨⟨i + 1, tail.drop 1, by omega, by go_num, hcw, HP.out, Lib.hid (by have := HT.out; rw [List.length_drop]; omega)⟩, by simp [intOf]; omega⟩
    · obtain rfl : i = bs.length := by omega
      rw [List.take_length] at hba
      obtain ⟨u, v, rfl⟩ : ∃ u v, tail = [u, v] := by
        have := HT.out
        rcases tail with _ | ⟨u, _ | ⟨v, _ | ⟨x, r⟩⟩⟩
        · simp at this
        · simp at this
        · exact ⟨u, v, rfl⟩
        · simp at this
      have hml : (bs.map byteV).length = bs.length := List.length_map _
      have z0 := hba.cell bs.length
      have z1 := hba.cell (bs.length + 1)
      have f0 := hba.frozen bs.length
      have f1 := hba.frozen (bs.length + 1)
      simp only [List.getElem?_toArray] at z0 z1
      rw [List.getElem?_append_right (by omega), hml, Nat.sub_self] at z0
      rw [List.getElem?_append_right (by omega), hml, show bs.length + 1 - bs.length = 1 by omega] at z1
      simp only [List.getElem?_cons_zero, List.getElem?_cons_succ] at z0 z1
      have p1 := blk_put (i := bs.length) hba hml.symm (by simp) (.int .u8 171)
      have p2 := blk_put (i := bs.length + 1) p1 (by rw [List.length_append, hml]; rfl) (by simp) (.int .u8 205)
      have hcw : Chg No w ((wr.setCell ⟨w.heap.size, bs.length, none⟩ (.int .u8 171)).setCell ⟨w.heap.size, bs.length + 1, none⟩ (.int .u8 205)) := (hc.setCell _ fun h => absurd h (by simp)).setCell _ fun h => absurd h (by simp)
      have hH : HandAt ((wr.setCell ⟨w.heap.size, bs.length, none⟩ (.int .u8 171)).setCell ⟨w.heap.size, bs.length + 1, none⟩ (.int .u8 205)) w.heap.size bs := ⟨by simpa using p2, h256.out⟩
      clear p1 p2 hml HT
      have e1 : bs.length + 1 < bs.length + 2 := by omega
      have e2 : bs.length < bs.length + 2 := by omega
      go_wp2
      go_ret
      exact ⟨w.heap.size, rfl, Nat.le_refl _, hH, hcw⟩

/-- a number from 0 to 4 -/
def smallP (n : Int) : Int := if n.tmod 5 < 0 then n.tmod 5 + 5 else n.tmod 5
theorem tmod5_bd (n : Int) : -5 < n.tmod 5 ∧ n.tmod 5 < 5 := by
  have h1 : n.tmod 5 < 5 := Int.tmod_lt_of_pos n (by omega)
  refine ⟨?_, h1⟩
  rcases Int.le_total 0 n with h | h
  · have := Int.tmod_nonneg 5 h; omega
  · have h3 : (-n).tmod 5 < 5 := Int.tmod_lt_of_pos (-n) (by omega)
    rw [Int.neg_tmod] at h3; omega
theorem smallP_bd (n : Int) : 0 ≤ smallP n ∧ smallP n ≤ 4 := by
  unfold smallP
  have := tmod5_bd n
  split <;> omega
set_option maxHeartbeats 400000 in
theorem small_any (n : Int) (w : World) : Calls Tryd.prog 24 #[.int .i64 n] w fun e w' => e = .returned (.int .i64 (smallP n)) ∧ w = w' := by
  have hF : smallP n = if n.tmod 5 < 0 then n.tmod 5 + 5 else n.tmod 5 := rfl
  obtain ⟨h2, h1⟩ := tmod5_bd n
  obtain ⟨M, hM⟩ : ∃ M, n.tmod 5 = M := ⟨_, rfl⟩
  rw [hM] at hF h1 h2
  by_cases q : M < 0
  · rw [if_pos q] at hF
    have HF := Lib.hid hF
    clear hF
    go_enter Tryd.func24, Tryd.ntmps24
    go_wp2
    go_ret
    exact ⟨by rw [HF.out]; rfl, rfl⟩
  · rw [if_neg q] at hF
    have HF := Lib.hid hF
    clear hF
    go_enter Tryd.func24, Tryd.ntmps24
    go_wp2
    go_ret
    exact ⟨by rw [HF.out]; rfl, rfl⟩

/-- what 'times' answers -/
def TimesPost (w : World) (x : Ex) (a b : Int) (e : Ending) (w' : World) : Prop :=
  ∃ A n c, e = .returned (.agg #[.int .i64 4, .int .i64 0, .int .i64 0, .int .i64 a, .int .i64 b, .slice A n c]) ∧ Sl w' (fun _ => True) A n c [x] ∧ Chg No w w'
set_option maxHeartbeats 1000000 in
set_option maxRecDepth 100000 in
theorem lawTimes_any (x : Ex) (a b : Int) (A : Option Addr) (n c : Nat) (S : Nat → Prop) (w : World) (hl : Sl w S A n c x.l) (hf : flatB x = true) :
    Calls Tryd.prog 59 #[.agg #[.int .i64 x.k, .int .i64 x.f, .int .i64 x.t, .int .i64 x.a, .int .i64 x.b, .slice A n c], .int .i64 a, .int .i64 b] w (TimesPost w x a b) := by
  have hb := (Blk.new w 25 #[.int .i64 x.k, .int .i64 x.f, .int .i64 x.t, .int .i64 x.a, .int .i64 x.b, .slice A n c]).alloc (.cells #[.int .i64 0, .int .i64 0, .int .i64 0, .int .i64 0, .int .i64 0, .slice none 0 0] 25)
  have hb2 := Blk.new' (w := w.alloc (.cells #[.int .i64 x.k, .int .i64 x.f, .int .i64 x.t, .int .i64 x.a, .int .i64 x.b, .slice A n c] 25)) (g := w.heap.size + 1) (t := 25) (cs := #[.int .i64 0, .int .i64 0, .int .i64 0, .int .i64 0, .int .i64 0, .slice none 0 0]) (by simp)
  have hc0 : Chg No w ((w.alloc (.cells #[.int .i64 x.k, .int .i64 x.f, .int .i64 x.t, .int .i64 x.a, .int .i64 x.b, .slice A n c] 25)).alloc (.cells #[.int .i64 0, .int .i64 0, .int .i64 0, .int .i64 0, .int .i64 0, .slice none 0 0] 25)) := ((Chg.refl _ _).alloc _).alloc _
  have htw := TwinExpr_any x A n c S _ (hl.chgNo hc0) (lenOk_nodes x (flatB_nodes hf))
  obtain ⟨y0, y1, y2, y3, y4, y5⟩ := ex_cells hb
  go_enter Tryd.func59, Tryd.ntmps59
  go_wp2_with fail
  refine htw.mono ?_
  rintro e w1 ⟨A2, c2, rfl, hM, hc1⟩
  have hr1 := (hb2.chg hc1 id).alloc (.cells #[.int .i64 x.k, .int .i64 x.f, .int .i64 x.t, .int .i64 x.a, .int .i64 x.b, .slice A2 x.l.length c2] 25)
  have hs1 := Sl.one (S := fun k => w.heap.size + 2 ≤ k) (y := x) ((hM.1 hf).sl.mono fun k hk => by simpa using hk) (by have := hc1.size; simpa using this)
  have k1 := (hc0.trans hc1).alloc (.cells #[.int .i64 x.k, .int .i64 x.f, .int .i64 x.t, .int .i64 x.a, .int .i64 x.b, .slice A2 x.l.length c2] 25)
  have hlt1 := (hb2.chg hc1 id).lt
  go_wp2_with (refine wpList_store_ex rfl _ _ rfl (w.heap.size + 1) _ _ _ _ _ _ hr1 rfl 4 0 0 a b (some ⟨w1.heap.size, 0, none⟩) 1 1 rfl ?_; intro w4 hB4 hC4)
  have hs4 : Sl w4 (fun _ => True) (some ⟨w1.heap.size, 0, none⟩) 1 1 [x] := (hs1.chg hC4 fun k hk e => by have e' : k = w.heap.size + 1 := e; omega).mono fun _ _ => trivial
  refine bodyPost_ret_ex rfl rfl rfl hB4 ⟨_, _, _, rfl, hs4, k1.then_ hC4 fun j hj e => by have e' : j = w.heap.size + 1 := e; omega⟩
end Go.Proofs.YticipgjbgcdccaaDoor
namespace Go.Proofs.YticipgjbgcdccaaDoor
open Go.RowKit

theorem matchP_snd (x : Ex) (bs : List Nat) : (matchP x bs).2 = askedP x bs.length := by
  unfold matchP
  by_cases h : askedP x bs.length = 0
  · rw [if_neg (by simpa using h), h]
  · rw [if_pos h]
theorem matchP_lang {x : Ex} {bs : List Nat} (h : askedP x bs.length = 0) : (matchP x bs).1 = true ↔ Lang x bs := by
  obtain ⟨hck, _⟩ := askedP_zero h
  obtain ⟨hR, _, hp⟩ := checkP_nodes x hck
  have hs := (ran_spec x hR hp bs).1
  unfold matchP
  rw [if_neg (by simpa using h)]
  simp only [decide_eq_true_eq]
  rcases hs with ⟨h1, h2⟩ | ⟨k, hk, h1, h2, h3⟩
  · have := h2 bs.length (Nat.le_refl _)
    rw [List.take_length] at this
    exact ⟨fun h => by omega, fun h => absurd h this⟩
  · constructor
    · intro h
      have : k = bs.length := by omega
      subst this
      rw [List.take_length] at h2; exact h2
    · intro h
      rcases Nat.lt_or_ge k bs.length with q | q
      · exact absurd (by rw [List.take_length]; exact h) (h3 bs.length q (Nat.le_refl _))
      · omega
theorem Lang_three (f t a b : Int) (l : List Ex) (w : List Nat) : Lang (.mk 3 f t a b l) w = orL (l.map Lang) w := by
  conv => lhs; unfold Lang
  rw [if_neg (by omega), if_pos rfl, Langs_eq]
theorem Lang_two (f t a b : Int) (l : List Ex) (w : List Nat) : Lang (.mk 2 f t a b l) w = catsL (l.map Lang) w := by
  conv => lhs; unfold Lang
  rw [if_neg (by omega), if_neg (by omega), if_neg (by omega), Langs_eq]
theorem Lang_alt (x y : Ex) (w : List Nat) : Lang (.mk 3 0 0 0 0 [x, y]) w ↔ Lang x w ∨ Lang y w := by
  rw [Lang_three]
  simp [orL]
theorem Lang_seq (x y : Ex) (w : List Nat) : Lang (.mk 2 0 0 0 0 [x, y]) w ↔ ∃ k, k ≤ w.length ∧ Lang x (w.take k) ∧ Lang y (w.drop k) := by
  rw [Lang_two]
  simp only [List.map_cons, List.map_nil, catsL, catL]
  constructor
  · rintro ⟨u, v, rfl, hu, v1, v2, rfl, hv, rfl⟩
    exact ⟨u.length, by simp, by simpa using hu, by simpa using hv⟩
  · rintro ⟨k, hk, h1, h2⟩
    exact ⟨w.take k, w.drop k, by rw [List.take_append_drop], h1, w.drop k, [], by simp, h2, rfl⟩
def repX (x : Ex) (a b : Int) : Ex := .mk 4 0 0 a b [x]
theorem Lang_rep (x : Ex) (a b : Int) (w : List Nat) : Lang (repX x a b) w ↔ ∃ n : Nat, a ≤ n ∧ (b < 0 ∨ (n : Int) ≤ b) ∧ powL (Lang x) n w := by
  unfold repX
  conv => lhs; unfold Lang
  simp [Langs]
/-- a row of copies that is not empty: its first copy that is not empty -/
theorem powL_first {L : List Nat → Prop} : ∀ (n : Nat) (w : List Nat), w ≠ [] → powL L n w → ∃ k m, 0 < k ∧ k ≤ w.length ∧ L (w.take k) ∧ powL L m (w.drop k)
  | 0, w, hw, h => absurd h hw
  | n + 1, w, hw, h => by
    obtain ⟨u, v, rfl, hu, hv⟩ := h
    by_cases e : u = []
    · subst e
      simpa using powL_first n v (by simpa using hw) hv
    · exact ⟨u.length, n, List.length_pos_iff.2 e, by simp, by simpa using hu, by simpa using hv⟩
/-- the row is one copy and behind it one time less -/
theorem Lang_rep_step (x : Ex) (a b : Int) (ha : 0 ≤ a) (hb : b = -1 ∨ a ≤ b) (w : List Nat) :
    Lang (repX x a b) w ↔ (a = 0 ∧ w = []) ∨ (b ≠ 0 ∧ ∃ k, k ≤ w.length ∧ Lang x (w.take k) ∧ ¬ (k = 0 ∧ 0 < w.length ∧ b < 0 ∧ a = 0) ∧ Lang (repX x (if a - 1 < 0 then 0 else a - 1) (if b = -1 then -1 else b - 1)) (w.drop k)) := by
  rw [Lang_rep]
  constructor
  · rintro ⟨n, h1, h2, h3⟩
    cases n with
    | zero => exact .inl ⟨by omega, h3⟩
    | succ n =>
      by_cases hst : b < 0 ∧ a = 0
      · by_cases hw : w = []
        · exact .inl ⟨hst.2, hw⟩
        · obtain ⟨k, m, hk, hkl, h4, h5⟩ := powL_first _ _ hw h3
          refine .inr ⟨by omega, k, hkl, h4, fun h => by omega, ?_⟩
          rw [Lang_rep]
          refine ⟨m, by split <;> omega, .inl (by split <;> omega), h5⟩
      · obtain ⟨u, v, rfl, hu, hv⟩ := h3
        refine .inr ⟨by omega, u.length, by simp, by simpa using hu, fun h => hst ⟨h.2.2.1, h.2.2.2⟩, ?_⟩
        rw [Lang_rep]
        refine ⟨n, by split <;> omega, ?_, by simpa using hv⟩
        split
        · exact .inl (by omega)
        · rcases h2 with h2 | h2
          · omega
          · exact .inr (by omega)
  · rintro (⟨h1, h2⟩ | ⟨h0, k, hk, h1, _, h2⟩)
    · exact ⟨0, by omega, by omega, h2⟩
    · rw [Lang_rep] at h2
      obtain ⟨n, h3, h4, h5⟩ := h2
      refine ⟨n + 1, ?_, ?_, w.take k, w.drop k, by rw [List.take_append_drop], h1, h5⟩
      · split at h3 <;> omega
      · split at h4
        · exact .inl (by omega)
        · rcases h4 with h4 | h4
          · omega
          · exact .inr (by omega)

theorem rep_check (x : Ex) (hx : checkP x = 0) (a b : Int) (h0 : 0 ≤ a) (h1 : a ≤ 1000) (hb : b = -1 ∨ a ≤ b ∧ b ≤ 1000) : rightP (repX x a b) = true ∧ guardP (repX x a b) = guardP (repX x 0 0) ∧ positionsP (repX x a b) = min (positionsP x * copiesP a b) 4097 := by
  obtain ⟨hR, _, _⟩ := checkP_nodes x hx
  refine ⟨?_, ?_, ?_⟩
  · unfold repX rightP
    rw [rightsP_all]
    simp [headOk, hR]; omega
  · unfold guardP repX nodesP depthP; rfl
  · unfold repX
    conv => lhs; unfold positionsP
    simp [positionsS]
/-- the errors of a repetition of a right pattern -/
theorem rep_err (x : Ex) (hx : checkP x = 0) (a b : Int) (h0 : 0 ≤ a) (h1 : a ≤ 1000) (hb : b = -1 ∨ a ≤ b ∧ b ≤ 1000) : checkP (repX x a b) = 0 ∨ checkP (repX x a b) = 21 ∨ checkP (repX x a b) = 5 ∨ checkP (repX x a b) = 2 := by
  obtain ⟨r1, _, _⟩ := rep_check x hx a b h0 h1 hb
  rw [checkP_guard, r1, if_neg (by simp : ¬ (true = false))]
  unfold guardP
  by_cases q1 : 4096 < nodesP (repX x a b)
  · rw [if_pos q1]; simp
  · rw [if_neg q1]
    by_cases q2 : 64 < depthP (repX x a b)
    · rw [if_pos q2]; simp
    · rw [if_neg q2]
      by_cases q3 : 4096 < positionsP (repX x a b)
      · rw [if_pos q3]; simp
      · rw [if_neg q3]; simp
/-- one that takes no more copies is right, too -/
theorem rep_less (x : Ex) (hx : checkP x = 0) (a b a' b' : Int) (h0 : 0 ≤ a) (h1 : a ≤ 1000) (hb : b = -1 ∨ a ≤ b ∧ b ≤ 1000) (h0' : 0 ≤ a') (h1' : a' ≤ 1000) (hb' : b' = -1 ∨ a' ≤ b' ∧ b' ≤ 1000) (hc : copiesP a' b' ≤ copiesP a b) (h : checkP (repX x a b) = 0) : checkP (repX x a' b') = 0 := by
  obtain ⟨r1, r2, r3⟩ := rep_check x hx a b h0 h1 hb
  obtain ⟨s1, s2, s3⟩ := rep_check x hx a' b' h0' h1' hb'
  obtain ⟨hR, _, _⟩ := checkP_nodes x hx
  have hp := positionsP_le x hR
  rw [checkP_guard, r1, r2] at h
  rw [checkP_guard, s1, s2]
  split at h
  · exact absurd h ‹_›
  · rename_i q
    rw [if_neg q]
    simp only [Bool.true_eq_false, if_false] at h ⊢
    have h2 : positionsP (repX x a b) ≤ 4096 := by split at h <;> omega
    have h3 : positionsP x * copiesP a' b' ≤ positionsP x * copiesP a b := Int.mul_le_mul_of_nonneg_left hc hp.1
    rw [if_neg (by rw [s3]; rw [r3] at h2; omega)]
theorem Byt.take {w : World} {B : Option Addr} {m cb : Nat} {bs : List Nat} (h : Byt w B m cb bs) {k : Nat} (hk : k ≤ bs.length) : Byt w B k cb (bs.take k) := by
  obtain ⟨h1, h2, h3, h4⟩ := h
  refine ⟨by rw [List.length_take]; omega, by rw [List.length_take]; omega, h3, fun hne => ?_⟩
  obtain ⟨g, o, e, hg, hx⟩ := h4 (by rintro rfl; simp at hne)
  exact ⟨g, o, e, hg, fun i x hi => by
    rw [List.getElem?_take] at hi
    split at hi
    · exact hx i x hi
    · cases hi⟩
theorem Byt.drop {w : World} {g o : Nat} {m cb : Nat} {bs : List Nat} (h : Byt w (some ⟨g, o, none⟩) m cb bs) {k : Nat} (hk : k ≤ bs.length) (o' : Nat) (ho : k < bs.length → o' = o + k) : Byt w (some ⟨g, o', none⟩) (bs.length - k) (cb - k) (bs.drop k) := by
  obtain ⟨h1, h2, h3, h4⟩ := h
  refine ⟨by rw [List.length_drop], by rw [List.length_drop]; omega, by omega, fun hne => ?_⟩
  have hlt : k < bs.length := by
    rcases Nat.lt_or_ge k bs.length with q | q
    · exact q
    · rw [List.drop_eq_nil_of_le q] at hne; exact absurd rfl hne
  obtain ⟨g', o'', e, hg, hx⟩ := h4 (by rintro rfl; simp at hlt)
  injection e with e
  injection e with e1 e2
  subst e1 e2
  refine ⟨g, o', rfl, hg, fun i x hi => ?_⟩
  rw [List.getElem?_drop] at hi
  have := hx (k + i) x hi
  rw [ho hlt, Nat.add_assoc]; exact this
end Go.Proofs.YticipgjbgcdccaaDoor
namespace Go.Proofs.YticipgjbgcdccaaDoor
open Go.RowKit

/-- ahead of it, byte by byte -/
def ltB : List Nat → List Nat → Bool
  | [], [] => false
  | [], _ :: _ => true
  | _ :: _, [] => false
  | a :: r, b :: s => decide (a < b) || (decide (a = b) && ltB r s)
/-- shorter, or of the same length and ahead of it -/
def lessB (a b : List Nat) : Bool := decide (a.length < b.length) || (decide (a.length = b.length) && ltB a b)
def repsL (n : Nat) (s : List Nat) : List Nat := (List.replicate n s).flatten
/-- the least of rows -/
def leastP : List (List Nat) → List Nat
  | [] => []
  | s :: ss => ss.foldl (fun o x => if lessB x o = true then x else o) s
mutual
/-- the least of the shortest rows of a right pattern -/
def shortP : Ex → List Nat
  | .mk k f _ a _ l => if k = 1 then [f.toNat] else if k = 4 then (if 0 < a then repsL a.toNat ((shortsP l).headD []) else []) else if k = 2 then (shortsP l).flatten else leastP (shortsP l)
def shortsP : List Ex → List (List Nat)
  | [] => []
  | x :: xs => shortP x :: shortsP xs
end
theorem headOk_cases {k f t a b n : Int} (h : headOk k f t a b n = true) : k = 1 ∨ k = 2 ∨ k = 3 ∨ k = 4 := by
  unfold headOk at h
  by_cases k1 : k = 1
  · exact .inl k1
  by_cases k2 : k = 2
  · exact .inr (.inl k2)
  by_cases k3 : k = 3
  · exact .inr (.inr (.inl k3))
  by_cases k4 : k = 4
  · exact .inr (.inr (.inr k4))
  rw [if_neg k1, if_neg k2, if_neg k3, if_neg k4] at h; cases h
theorem shortsP_eq (l : List Ex) : shortsP l = l.map shortP := by
  induction l with
  | nil => simp [shortsP]
  | cons x l ih => simp [shortsP, ih]

theorem ltB_irrefl : ∀ a, ltB a a = false
  | [] => rfl
  | a :: r => by simp [ltB, ltB_irrefl r]
theorem ltB_total : ∀ a b, ltB a b = false → ltB b a = false → a = b
  | [], [], _, _ => rfl
  | [], _ :: _, h, _ => by simp [ltB] at h
  | _ :: _, [], _, h => by simp [ltB] at h
  | a :: r, b :: s, h1, h2 => by
    simp only [ltB, Bool.or_eq_false_iff, decide_eq_false_iff_not, Bool.and_eq_false_iff] at h1 h2
    have e : a = b := by omega
    subst e
    have h3 : ltB r s = false := by rcases h1.2 with h | h; exact absurd rfl h; exact h
    have h4 : ltB s r = false := by rcases h2.2 with h | h; exact absurd rfl h; exact h
    rw [ltB_total r s h3 h4]
/-- 'not ahead' goes on -/
theorem ltB_trans : ∀ a b c, ltB b a = false → ltB c b = false → ltB c a = false
  | [], _, [], _, _ => rfl
  | [], _, _ :: _, _, _ => rfl
  | a :: r, [], c, h, _ => by simp [ltB] at h
  | a :: r, b :: s, [], _, h => by simp [ltB] at h
  | a :: r, b :: s, c :: u, h1, h2 => by
    simp only [ltB, Bool.or_eq_false_iff, decide_eq_false_iff_not, Bool.and_eq_false_iff] at h1 h2 ⊢
    refine ⟨by omega, ?_⟩
    by_cases e : c = a
    · right
      have e1 : b = a := by omega
      have e2 : c = b := by omega
      exact ltB_trans r s u (by rcases h1.2 with h | h; exact absurd e1 h; exact h) (by rcases h2.2 with h | h; exact absurd e2 h; exact h)
    · exact .inl e
theorem ltB_append : ∀ (a u b v : List Nat), u.length = a.length → ltB u a = false → ltB v b = false → ltB (u ++ v) (a ++ b) = false
  | [], [], b, v, _, _, h => by simpa using h
  | [], _ :: _, _, _, h, _, _ => by simp at h
  | _ :: _, [], _, _, h, _, _ => by simp at h
  | a :: r, u :: us, b, v, hl, h1, h2 => by
    simp only [List.cons_append, ltB, Bool.or_eq_false_iff, decide_eq_false_iff_not, Bool.and_eq_false_iff] at h1 ⊢
    refine ⟨h1.1, ?_⟩
    rcases h1.2 with h | h
    · exact .inl h
    · exact .inr (ltB_append r us b v (by simpa using hl) h h2)

theorem lessB_false {a b : List Nat} : lessB a b = false ↔ b.length ≤ a.length ∧ (a.length = b.length → ltB a b = false) := by
  unfold lessB
  rw [Bool.or_eq_false_iff, Bool.and_eq_false_iff, decide_eq_false_iff_not, decide_eq_false_iff_not]
  constructor
  · rintro ⟨h1, h2⟩
    refine ⟨by omega, fun e => ?_⟩
    rcases h2 with h | h
    · exact absurd e h
    · exact h
  · rintro ⟨h1, h2⟩
    refine ⟨by omega, ?_⟩
    by_cases e : a.length = b.length
    · exact .inr (h2 e)
    · exact .inl e
theorem lessB_irrefl (a : List Nat) : lessB a a = false := lessB_false.2 ⟨Nat.le_refl _, fun _ => ltB_irrefl a⟩
theorem lessB_trans {a b c : List Nat} (h1 : lessB b a = false) (h2 : lessB c b = false) : lessB c a = false := by
  obtain ⟨h1, h3⟩ := lessB_false.1 h1
  obtain ⟨h2, h4⟩ := lessB_false.1 h2
  exact lessB_false.2 ⟨by omega, fun e => ltB_trans _ _ _ (h3 (by omega)) (h4 (by omega))⟩
theorem lessB_asymm {a b : List Nat} (h : lessB a b = true) : lessB b a = false := by
  rw [lessB_false]
  unfold lessB at h
  simp only [Bool.or_eq_true, Bool.and_eq_true, decide_eq_true_eq] at h
  refine ⟨by omega, fun e => ?_⟩
  rcases h with h | ⟨_, h⟩
  · omega
  · cases q : ltB b a with
    | false => rfl
    | true =>
      have hh : ∀ (x y : List Nat), ltB x y = true → ltB y x = true → False := by
        intro x
        induction x with
        | nil => intro y _ h2; cases y <;> simp [ltB] at h2
        | cons x xs ih =>
          intro y h1 h2
          cases y with
          | nil => simp [ltB] at h1
          | cons y ys =>
            simp only [ltB, Bool.or_eq_true, Bool.and_eq_true, decide_eq_true_eq] at h1 h2
            rcases h1 with h1 | ⟨h1, h3⟩
            · rcases h2 with h2 | ⟨h2, _⟩ <;> omega
            · rcases h2 with h2 | ⟨_, h4⟩
              · omega
              · exact ih ys h3 h4
      exact (hh _ _ h q).elim
theorem lessB_append {a u b v : List Nat} (h1 : lessB u a = false) (h2 : lessB v b = false) : lessB (u ++ v) (a ++ b) = false := by
  obtain ⟨h1, h3⟩ := lessB_false.1 h1
  obtain ⟨h2, h4⟩ := lessB_false.1 h2
  rw [lessB_false, List.length_append, List.length_append]
  exact ⟨by omega, fun e => ltB_append _ _ _ _ (by omega) (h3 (by omega)) (h4 (by omega))⟩
theorem lessB_nil (a : List Nat) : lessB a [] = false := lessB_false.2 ⟨Nat.zero_le _, fun e => by cases a <;> simp_all [ltB]⟩

inductive All2 {α β : Type} (R : α → β → Prop) : List α → List β → Prop
  | nil : All2 R [] []
  | cons {a : α} {b : β} {l₁ : List α} {l₂ : List β} : R a b → All2 R l₁ l₂ → All2 R (a :: l₁) (b :: l₂)
/-- a row of L that no row of L is less than -/
def Least (L : List Nat → Prop) (s : List Nat) : Prop := L s ∧ ∀ w, L w → lessB w s = false
theorem Least.cat {A B : List Nat → Prop} {a b : List Nat} (ha : Least A a) (hb : Least B b) : Least (catL A B) (a ++ b) :=
  ⟨⟨a, b, rfl, ha.1, hb.1⟩, fun w ⟨u, v, e, hu, hv⟩ => by rw [e]; exact lessB_append (ha.2 u hu) (hb.2 v hv)⟩
theorem Least.nothing : Least (fun w => w = []) [] := ⟨rfl, fun w h => by rw [h]; rfl⟩
theorem Least.cats : ∀ (Ls : List (List Nat → Prop)) (ss : List (List Nat)), All2 Least Ls ss → Least (catsL Ls) ss.flatten
  | _, _, .nil => Least.nothing
  | _, _, .cons h hs => by
    rw [List.flatten_cons]
    exact Least.cat h (Least.cats _ _ hs)
theorem repsL_succ (n : Nat) (s : List Nat) : repsL (n + 1) s = s ++ repsL n s := by simp [repsL, List.replicate_succ]
theorem Least.pow {L : List Nat → Prop} {s : List Nat} (h : Least L s) : ∀ n, Least (powL L n) (repsL n s)
  | 0 => Least.nothing
  | n + 1 => by rw [repsL_succ]; exact Least.cat h (Least.pow h n)
theorem lessB_reps (s : List Nat) : ∀ (n m : Nat), m ≤ n → lessB (repsL n s) (repsL m s) = false
  | n, 0, _ => lessB_nil _
  | 0, m + 1, h => by omega
  | n + 1, m + 1, h => by
    rw [repsL_succ, repsL_succ]
    exact lessB_append (lessB_irrefl s) (lessB_reps s n m (by omega))
theorem Least.rep {L : List Nat → Prop} {s : List Nat} (h : Least L s) (a b : Int) (h0 : 0 ≤ a) (hb : b < 0 ∨ a ≤ b) : Least (fun w => ∃ n : Nat, a ≤ n ∧ (b < 0 ∨ (n : Int) ≤ b) ∧ powL L n w) (repsL a.toNat s) :=
  ⟨⟨a.toNat, by omega, by omega, (h.pow _).1⟩, fun w ⟨n, h1, _, h2⟩ => lessB_trans (lessB_reps s n a.toNat (by omega)) ((h.pow n).2 w h2)⟩
/-- the least of the least ones -/
theorem Least.or : ∀ (Ls : List (List Nat → Prop)) (ss : List (List Nat)), All2 Least Ls ss → ∀ (L : List Nat → Prop) (s : List Nat), Least L s → Least (fun w => L w ∨ orL Ls w) (ss.foldl (fun o x => if lessB x o = true then x else o) s)
  | _, _, .nil, L, s, h => ⟨.inl h.1, fun w hw => by
    rcases hw with hw | hw
    · exact h.2 w hw
    · exact hw.elim⟩
  | _, _, .cons (a := M) (b := t) (l₁ := Ls) (l₂ := ss) hM hs, L, s, h => by
    have h2 : Least (fun w => L w ∨ M w) (if lessB t s = true then t else s) := by
      by_cases q : lessB t s = true
      · rw [if_pos q]
        refine ⟨.inr hM.1, fun w hw => ?_⟩
        rcases hw with hw | hw
        · exact lessB_trans (lessB_asymm q) (h.2 w hw)
        · exact hM.2 w hw
      · rw [if_neg q]
        have q : lessB t s = false := by simpa using q
        refine ⟨.inl h.1, fun w hw => ?_⟩
        rcases hw with hw | hw
        · exact h.2 w hw
        · exact lessB_trans q (hM.2 w hw)
    have h3 := Least.or Ls ss hs _ _ h2
    simp only [List.foldl_cons]
    refine ⟨?_, fun w hw => h3.2 w ?_⟩
    · rcases h3.1 with (h | h) | h
      · exact .inl h
      · exact .inr (.inl h)
      · exact .inr (.inr h)
    · rcases hw with h | h | h
      · exact .inl (.inl h)
      · exact .inl (.inr h)
      · exact .inr h

/-- THE LEAST ROW of a right pattern -/
theorem shortP_least : ∀ (N : Nat) (x : Ex), SizeOf.sizeOf x < N → rightP x = true → Least (Lang x) (shortP x) := by
  intro N
  induction N with
  | zero => intro _ h; omega
  | succ N ih =>
    intro x hN hR
    obtain ⟨k, f, t, a, b, l⟩ := x
    obtain ⟨hh, hr⟩ := rightP_head hR
    have IH : ∀ y ∈ l, Least (Lang y) (shortP y) := fun y hy => ih y (by have := Ex.lt_of_mem hy k f t a b; omega) (hr y hy)
    have F2 : ∀ m : List Ex, (∀ y ∈ m, Least (Lang y) (shortP y)) → All2 Least (m.map Lang) (m.map shortP) := by
      intro m
      induction m with
      | nil => intro _; exact .nil
      | cons y m ihm => intro h; exact .cons (h y (by simp)) (ihm fun z hz => h z (by simp [hz]))
    have hL : Lang (.mk k f t a b l) = fun w => if k = 1 then ∃ c : Nat, w = [c] ∧ f ≤ c ∧ (c : Int) ≤ t
        else if k = 3 then orL (Langs l) w
        else if k = 4 then ∃ n : Nat, a ≤ n ∧ (b < 0 ∨ (n : Int) ≤ b) ∧ powL ((Langs l).headD fun _ => False) n w
        else catsL (Langs l) w := by conv => lhs; unfold Lang
    have hS : shortP (.mk k f t a b l) = if k = 1 then [f.toNat] else if k = 4 then (if 0 < a then repsL a.toNat ((shortsP l).headD []) else []) else if k = 2 then (shortsP l).flatten else leastP (shortsP l) := by conv => lhs; unfold shortP
    rw [hL, hS, Langs_eq, shortsP_eq]
    by_cases k1 : k = 1
    · subst k1
      simp only [if_true]
      have : 0 ≤ f ∧ f ≤ t := by simp [headOk] at hh; omega
      refine ⟨⟨f.toNat, rfl, by omega, by omega⟩, ?_⟩
      rintro w ⟨c, rfl, h1, h2⟩
      rw [lessB_false]
      refine ⟨by simp, fun _ => ?_⟩
      simp [ltB]; omega
    simp only [if_neg k1]
    by_cases k4 : k = 4
    · subst k4
      simp only [if_true, show ¬ ((4 : Int) = 3) by omega, if_false]
      have hab : 0 ≤ a ∧ l.length = 1 ∧ (b < 0 ∨ a ≤ b) := by simp [headOk] at hh; omega
      obtain ⟨y, rfl⟩ : ∃ y, l = [y] := List.length_eq_one_iff.1 hab.2.1
      have h := (IH y (by simp)).rep a b hab.1 hab.2.2
      simp only [List.map_cons, List.map_nil, List.headD_cons]
      by_cases q : 0 < a
      · rw [if_pos q]; exact h
      · rw [if_neg q]
        have : a = 0 := by omega
        subst this
        exact h
    simp only [if_neg k4]
    by_cases k2 : k = 2
    · subst k2
      simp only [if_true, show ¬ ((2 : Int) = 3) by omega, if_false]
      exact Least.cats _ _ (F2 l IH)
    simp only [if_neg k2]
    have k3 : k = 3 := by rcases headOk_cases hh with h | h | h | h <;> first | exact h | contradiction
    subst k3
    simp only [if_true]
    have hne : 2 ≤ l.length := by simp [headOk] at hh; omega
    obtain ⟨y, m, rfl⟩ : ∃ y m, l = y :: m := by cases l with | nil => simp at hne | cons y m => exact ⟨y, m, rfl⟩
    have h := Least.or _ _ (F2 m fun z hz => IH z (by simp [hz])) _ _ (IH y (by simp))
    simp only [List.map_cons, leastP, orL]
    exact h

theorem foldl_mem : ∀ (ss : List (List Nat)) (s : List Nat), ss.foldl (fun o x => if lessB x o = true then x else o) s = s ∨ ss.foldl (fun o x => if lessB x o = true then x else o) s ∈ ss
  | [], s => .inl rfl
  | x :: ss, s => by
    simp only [List.foldl_cons]
    rcases foldl_mem ss (if lessB x s = true then x else s) with h | h
    · rw [h]
      by_cases q : lessB x s = true
      · rw [if_pos q]; exact .inr (by simp)
      · rw [if_neg q]; exact .inl rfl
    · exact .inr (by simp [h])
theorem leastP_mem : ∀ (ss : List (List Nat)), ss ≠ [] → leastP ss ∈ ss
  | [], h => absurd rfl h
  | s :: ss, _ => by
    show ss.foldl (fun o x => if lessB x o = true then x else o) s ∈ s :: ss
    rcases foldl_mem ss s with h | h
    · rw [h]; simp
    · simp [h]
theorem repsL_len (n : Nat) (s : List Nat) : (repsL n s).length = n * s.length := by
  induction n with
  | zero => simp [repsL]
  | succ n ih => rw [repsL_succ, List.length_append, ih, Nat.succ_mul]; omega
theorem repsL_mem (n : Nat) (s : List Nat) : ∀ c ∈ repsL n s, c ∈ s := by
  induction n with
  | zero => intro c h; simp [repsL] at h
  | succ n ih =>
    intro c h
    rw [repsL_succ, List.mem_append] at h
    rcases h with h | h
    · exact h
    · exact ih c h
theorem positionsS_mem : ∀ (l : List Ex), (∀ x ∈ l, rightP x = true) → ∀ y ∈ l, positionsP y ≤ positionsS l
  | [], _, y, h => by simp at h
  | x :: l, hr, y, h => by
    have h1 := (positionsP_le x (hr x (by simp))).1
    have h2 := (positionsS_le l fun z hz => hr z (by simp [hz])).1
    simp only [positionsS]
    simp only [List.mem_cons] at h
    rcases h with rfl | h
    · omega
    · have := positionsS_mem l (fun z hz => hr z (by simp [hz])) y h; omega
theorem flatten_len : ∀ (l : List Ex), (∀ y ∈ l, ((shortP y).length : Int) ≤ positionsP y) → ((l.map shortP).flatten.length : Int) ≤ positionsS l
  | [], _ => by simp [positionsS]
  | x :: l, h => by
    have h1 := h x (by simp)
    have h2 := flatten_len l fun y hy => h y (by simp [hy])
    simp only [List.map_cons, List.flatten_cons, List.length_append, positionsS]
    omega
/-- it is no longer than the pattern has positions -/
theorem shortP_len : ∀ (N : Nat) (x : Ex), SizeOf.sizeOf x < N → rightP x = true → positionsP x ≤ 4096 → ((shortP x).length : Int) ≤ positionsP x ∧ ∀ c ∈ shortP x, c < 256 := by
  intro N
  induction N with
  | zero => intro _ h; omega
  | succ N ih =>
    intro x hN hR hp
    obtain ⟨k, f, t, a, b, l⟩ := x
    obtain ⟨hh, hr⟩ := rightP_head hR
    have IH : ∀ y ∈ l, positionsP y ≤ 4096 → ((shortP y).length : Int) ≤ positionsP y ∧ ∀ c ∈ shortP y, c < 256 := fun y hy => ih y (by have := Ex.lt_of_mem hy k f t a b; omega) (hr y hy)
    have hS : shortP (.mk k f t a b l) = if k = 1 then [f.toNat] else if k = 4 then (if 0 < a then repsL a.toNat ((shortsP l).headD []) else []) else if k = 2 then (shortsP l).flatten else leastP (shortsP l) := by conv => lhs; unfold shortP
    have hP : positionsP (.mk k f t a b l) = if k = 1 then 1 else min (if k = 4 then positionsS l * copiesP a b else positionsS l) 4097 := by conv => lhs; unfold positionsP
    rw [hS, shortsP_eq]
    rw [hP] at hp ⊢
    by_cases k1 : k = 1
    · subst k1
      have : 0 ≤ f ∧ f ≤ t ∧ t ≤ 255 := by simp [headOk] at hh; omega
      simp only [if_true]
      exact ⟨by simp, fun c hc => by simp at hc; omega⟩
    simp only [if_neg k1] at hp ⊢
    by_cases k4 : k = 4
    · subst k4
      simp only [if_true] at hp ⊢
      have hab : 0 ≤ a ∧ l.length = 1 ∧ (b < 0 ∨ a ≤ b) := by simp [headOk] at hh; omega
      obtain ⟨y, rfl⟩ : ∃ y, l = [y] := List.length_eq_one_iff.1 hab.2.1
      simp only [positionsS, Int.add_zero] at hp ⊢
      have hy := (positionsP_le y (hr y (by simp))).1
      have hc0 : 0 ≤ copiesP a b := (copiesP_le hh rfl).1
      have hm0 : 0 ≤ positionsP y * copiesP a b := Int.mul_nonneg hy hc0
      by_cases q : 0 < a
      · rw [if_pos q]
        simp only [List.map_cons, List.map_nil, List.headD_cons]
        have hac : a ≤ copiesP a b := by unfold copiesP; split <;> omega
        have h1 : positionsP y * 1 ≤ positionsP y * copiesP a b := Int.mul_le_mul_of_nonneg_left (by omega) hy
        obtain ⟨h2, h3⟩ := IH y (by simp) (by omega)
        refine ⟨?_, fun c hc => h3 c (repsL_mem _ _ c hc)⟩
        rw [repsL_len]
        have h4 : a * ((shortP y).length : Int) ≤ copiesP a b * positionsP y := Int.mul_le_mul hac h2 (by omega) hc0
        rw [Int.mul_comm (copiesP a b)] at h4
        have h5 : ((a.toNat * (shortP y).length : Nat) : Int) = a * ((shortP y).length : Int) := by rw [Int.natCast_mul, Int.toNat_of_nonneg hab.1]
        rw [h5]; omega
      · rw [if_neg q]
        exact ⟨by simp; omega, fun c hc => by simp at hc⟩
    simp only [if_neg k4] at hp ⊢
    have hps : positionsS l ≤ 4096 := by omega
    have IH2 : ∀ y ∈ l, ((shortP y).length : Int) ≤ positionsP y ∧ ∀ c ∈ shortP y, c < 256 := fun y hy => IH y hy (by have := positionsS_mem l hr y hy; omega)
    have hps0 := (positionsS_le l hr).1
    by_cases k2 : k = 2
    · rw [if_pos k2]
      refine ⟨by have := flatten_len l fun y hy => (IH2 y hy).1; omega, fun c hc => ?_⟩
      rw [List.mem_flatten] at hc
      obtain ⟨s, hs, hc⟩ := hc
      rw [List.mem_map] at hs
      obtain ⟨y, hy, rfl⟩ := hs
      exact (IH2 y hy).2 c hc
    · rw [if_neg k2]
      have k3 : k = 3 := by rcases headOk_cases hh with h | h | h | h <;> first | exact h | contradiction
      have hne : l ≠ [] := by subst k3; rintro rfl; simp [headOk] at hh
      have hm := leastP_mem (l.map shortP) (by simpa using hne)
      rw [List.mem_map] at hm
      obtain ⟨y, hy, e⟩ := hm
      rw [← e]
      refine ⟨?_, (IH2 y hy).2⟩
      have h1 := (IH2 y hy).1
      have h2 := positionsS_mem l hr y hy
      omega

theorem powL_emp {L : List Nat → Prop} (h : L []) : ∀ n, powL L n []
  | 0 => rfl
  | n + 1 => ⟨[], [], rfl, h, powL_emp h n⟩
theorem loopE_two : ∀ l : List Ex, (∀ y ∈ l, (emptyP y = true ↔ Lang y [])) → (loopE 2 (l.map emptyP) = true ↔ catsL (l.map Lang) [])
  | [], _ => by simp [loopE, catsL]
  | x :: l, h => by
    have h1 := h x (by simp)
    have h2 := loopE_two l fun y hy => h y (by simp [hy])
    simp only [List.map_cons, loopE, catsL, catL]
    cases q : emptyP x with
    | true =>
      rw [q] at h1
      simp only [show ((2 : Int) == 2) = true from rfl, bne_self_eq_false, Bool.false_eq_true, if_false]
      rw [h2]
      constructor
      · intro h; exact ⟨[], [], rfl, h1.1 rfl, h⟩
      · rintro ⟨u, v, e, hu, hv⟩
        obtain ⟨rfl, rfl⟩ : u = [] ∧ v = [] := by simpa using e.symm
        exact hv
    | false =>
      rw [q] at h1
      simp only [show ((2 : Int) == 2) = true from rfl, show (false != true) = true from rfl, if_true, show ((2 : Int) == 3) = false from rfl, Bool.false_eq_true, false_iff]
      rintro ⟨u, v, e, hu, hv⟩
      obtain ⟨rfl, rfl⟩ : u = [] ∧ v = [] := by simpa using e.symm
      exact absurd (h1.2 hu) (by simp)
theorem loopE_three : ∀ l : List Ex, (∀ y ∈ l, (emptyP y = true ↔ Lang y [])) → (loopE 3 (l.map emptyP) = true ↔ orL (l.map Lang) [])
  | [], _ => by simp [loopE, orL]
  | x :: l, h => by
    have h1 := h x (by simp)
    have h2 := loopE_three l fun y hy => h y (by simp [hy])
    simp only [List.map_cons, loopE, orL]
    cases q : emptyP x with
    | true =>
      rw [q] at h1
      simp only [show ((3 : Int) == 2) = false from rfl, show (true != false) = true from rfl, if_true, show ((3 : Int) == 3) = true from rfl, true_iff]
      exact .inl (h1.1 rfl)
    | false =>
      rw [q] at h1
      simp only [show ((3 : Int) == 2) = false from rfl, bne_self_eq_false, Bool.false_eq_true, if_false]
      rw [h2]
      exact ⟨.inr, fun h => h.elim (fun h => absurd (h1.2 h) (by simp)) id⟩
/-- Empty tells whether the empty row is one of its rows -/
theorem emptyP_lang : ∀ (N : Nat) (x : Ex), SizeOf.sizeOf x < N → rightP x = true → (emptyP x = true ↔ Lang x []) := by
  intro N
  induction N with
  | zero => intro _ h; omega
  | succ N ih =>
    intro x hN hR
    obtain ⟨k, f, t, a, b, l⟩ := x
    obtain ⟨hh, hr⟩ := rightP_head hR
    have IH : ∀ y ∈ l, (emptyP y = true ↔ Lang y []) := fun y hy => ih y (by have := Ex.lt_of_mem hy k f t a b; omega) (hr y hy)
    have hL : Lang (.mk k f t a b l) [] = if k = 1 then ∃ c : Nat, ([] : List Nat) = [c] ∧ f ≤ c ∧ (c : Int) ≤ t
        else if k = 3 then orL (Langs l) []
        else if k = 4 then ∃ n : Nat, a ≤ n ∧ (b < 0 ∨ (n : Int) ≤ b) ∧ powL ((Langs l).headD fun _ => False) n []
        else catsL (Langs l) [] := by conv => lhs; unfold Lang
    have hE : emptyP (.mk k f t a b l) = if k = 1 then false else if k = 4 then a == 0 || (emptiesP l).headD false else loopE k (emptiesP l) := by conv => lhs; unfold emptyP
    rw [hL, hE, Langs_eq, emptiesP_eq]
    by_cases k1 : k = 1
    · rw [if_pos k1, if_pos k1]; simp
    rw [if_neg k1, if_neg k1]
    by_cases k4 : k = 4
    · subst k4
      rw [if_pos rfl, if_neg (by omega), if_pos rfl]
      have hab : 0 ≤ a ∧ l.length = 1 ∧ (b < 0 ∨ a ≤ b) := by simp [headOk] at hh; omega
      obtain ⟨y, rfl⟩ : ∃ y, l = [y] := List.length_eq_one_iff.1 hab.2.1
      have h := IH y (by simp)
      simp only [List.map_cons, List.map_nil, List.headD_cons, Bool.or_eq_true, beq_iff_eq]
      rw [h]
      constructor
      · rintro (h | h)
        · exact ⟨0, by omega, by omega, rfl⟩
        · exact ⟨a.toNat, by omega, by omega, powL_emp h _⟩
      · rintro ⟨n, h1, _, h3⟩
        cases n with
        | zero => exact .inl (by omega)
        | succ n =>
          obtain ⟨u, v, e, hu, _⟩ := h3
          obtain ⟨rfl, _⟩ : u = [] ∧ v = [] := by simpa using e.symm
          exact .inr hu
    rw [if_neg k4]
    by_cases k3 : k = 3
    · subst k3
      rw [if_pos rfl]
      exact loopE_three l IH
    · rw [if_neg k3, if_neg k4]
      have k2 : k = 2 := by rcases headOk_cases hh with h | h | h | h <;> first | exact h | contradiction
      subst k2
      exact loopE_two l IH
end Go.Proofs.YticipgjbgcdccaaDoor
