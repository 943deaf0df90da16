/- The reference's net in plain words: from which place to which a part's row leads. No condition: lemmas.
   The reference's net in plain words: does the text end within a row that begins at a place. No condition: lemmas.
   Lists of places and marks in memory; marked, same of the reference: contracts.
   The reference's net in memory: what lies where, and what a step keeps. No condition: lemmas.
   The reference's net: step, must: contracts.
   The reference's net: must: contract.
   The reference's net while it is made: what lies where. No condition: lemmas.
   The reference's net while it is made: what add does to it. No condition: lemmas. -/
import Derived.Test.YticipgjbgcdccaaDoorZ11
import Derived.Test.YticipgjbgcdccaaDoorZ9
import Derived.Deep.OwnRows
set_option linter.unusedSimpArgs false
set_option linter.unusedVariables false
namespace Go.Proofs.YticipgjbgcdccaaDoor

/-- does a row of L lead from place i to place j? -/
def At (L : List Nat → Prop) (b : List Nat) (i j : Nat) : Prop := i ≤ j ∧ j ≤ b.length ∧ L ((b.drop i).take (j - i))
/-- one part further -/
def St (L : List Nat → Prop) (b : List Nat) (P : Nat → Prop) (j : Nat) : Prop := ∃ i, P i ∧ At L b i j
/-- so many copies further -/
def Pw (L : List Nat → Prop) (b : List Nat) (P : Nat → Prop) : Nat → Nat → Prop
  | 0 => P
  | m + 1 => St L b (Pw L b P m)
/-- parts, one behind the other -/
def Sts (b : List Nat) (P : Nat → Prop) (Ls : List (List Nat → Prop)) : Nat → Prop := Ls.foldl (fun P L => St L b P) P
def Lv (L : List Nat → Prop) (b : List Nat) (i : Nat) : Prop := ∃ v, L (b.drop i ++ v)

section
variable {L A B : List Nat → Prop} {b : List Nat} {P Q : Nat → Prop}
theorem At.le {i j : Nat} (h : At L b i j) : j ≤ b.length := h.2.1
theorem At_self {i j : Nat} (hi : i ≤ b.length) : At (fun w => w = []) b i j ↔ j = i := by
  unfold At
  constructor
  · rintro ⟨h1, h2, h3⟩
    have := congrArg List.length h3
    simp at this; omega
  · rintro rfl
    exact ⟨Nat.le_refl _, hi, by simp⟩
theorem seg_cat {i j k : Nat} (h1 : i ≤ j) (h2 : j ≤ k) : (b.drop i).take (k - i) = (b.drop i).take (j - i) ++ (b.drop j).take (k - j) := by
  rw [show k - i = (j - i) + (k - j) by omega, List.take_add, List.drop_drop, show i + (j - i) = j by omega]
theorem At_cat {i k : Nat} : At (catL A B) b i k ↔ ∃ j, At A b i j ∧ At B b j k := by
  constructor
  · rintro ⟨h1, h2, u, v, h3, h4, h5⟩
    have hl := congrArg List.length h3
    simp at hl
    have hu : i + u.length ≤ k := by omega
    have e := seg_cat (b := b) (i := i) (j := i + u.length) (k := k) (by omega) hu
    rw [h3, show i + u.length - i = u.length by omega] at e
    have el : ((b.drop i).take u.length).length = u.length := by simp; omega
    obtain ⟨e1, e2⟩ := List.append_inj e el.symm
    exact ⟨i + u.length, ⟨by omega, by omega, by rw [show i + u.length - i = u.length by omega, ← e1]; exact h4⟩, hu, h2, by rw [← e2]; exact h5⟩
  · rintro ⟨j, ⟨h1, h2, h3⟩, h4, h5, h6⟩
    exact ⟨by omega, h5, _, _, seg_cat h1 h4, h3, h6⟩
theorem St_cat {k : Nat} : St B b (St A b P) k ↔ St (catL A B) b P k := by
  unfold St
  constructor
  · rintro ⟨j, ⟨i, h1, h2⟩, h3⟩
    exact ⟨i, h1, At_cat.2 ⟨j, h2, h3⟩⟩
  · rintro ⟨i, h1, h2⟩
    obtain ⟨j, h3, h4⟩ := At_cat.1 h2
    exact ⟨j, ⟨i, h1, h3⟩, h4⟩
theorem St_one {i j : Nat} : St L b (fun a => a = i) j ↔ At L b i j := by
  unfold St
  constructor
  · rintro ⟨_, rfl, h⟩; exact h
  · intro h; exact ⟨i, rfl, h⟩
theorem St_congr (h : ∀ i, P i ↔ Q i) (j : Nat) : St L b P j ↔ St L b Q j := by
  unfold St
  exact exists_congr fun i => and_congr_left fun _ => h i
theorem St_le {j : Nat} (h : St L b P j) : j ≤ b.length := by obtain ⟨i, _, h⟩ := h; exact h.le
theorem Pw_congr (h : ∀ i, P i ↔ Q i) : ∀ (m j : Nat), Pw L b P m j ↔ Pw L b Q m j
  | 0, j => h j
  | m + 1, j => St_congr (Pw_congr h m) j
theorem Pw_shift : ∀ (m : Nat), Pw L b P (m + 1) = Pw L b (St L b P) m
  | 0 => rfl
  | m + 1 => by
    show St L b (Pw L b P (m + 1)) = St L b (Pw L b (St L b P) m)
    rw [Pw_shift m]
theorem Pw_add : ∀ (m n : Nat), Pw L b P (m + n) = Pw L b (Pw L b P m) n
  | m, 0 => rfl
  | m, n + 1 => by
    show St L b (Pw L b P (m + n)) = St L b (Pw L b (Pw L b P m) n)
    rw [Pw_add m n]
theorem Pw_le (hP : ∀ i, P i → i ≤ b.length) : ∀ (m : Nat) {j : Nat}, Pw L b P m j → j ≤ b.length
  | 0, _, h => hP _ h
  | _ + 1, _, h => St_le h
theorem Pw_pow : ∀ (m : Nat) (P : Nat → Prop), (∀ i, P i → i ≤ b.length) → ∀ j, Pw L b P m j ↔ ∃ i, P i ∧ At (powL L m) b i j
  | 0, P, hP, j => by
    constructor
    · intro h; exact ⟨j, h, (At_self (hP j h)).2 rfl⟩
    · rintro ⟨i, h1, h2⟩
      have := (At_self (hP i h1)).1 h2
      subst this; exact h1
  | m + 1, P, hP, j => by
    rw [Pw_shift, Pw_pow m (St L b P) (fun i h => St_le h) j]
    constructor
    · rintro ⟨k, ⟨i, h1, h2⟩, h3⟩
      exact ⟨i, h1, At_cat.2 ⟨k, h2, h3⟩⟩
    · rintro ⟨i, h1, h2⟩
      obtain ⟨k, h3, h4⟩ := At_cat.1 (show At (catL L (powL L m)) b i j from h2)
      exact ⟨k, ⟨i, h1, h3⟩, h4⟩
theorem Sts_cats : ∀ (Ls : List (List Nat → Prop)) (P : Nat → Prop), (∀ i, P i → i ≤ b.length) → ∀ j, Sts b P Ls j ↔ ∃ i, P i ∧ At (catsL Ls) b i j
  | [], P, hP, j => by
    constructor
    · intro h; exact ⟨j, h, (At_self (hP j h)).2 rfl⟩
    · rintro ⟨i, h1, h2⟩
      have := (At_self (hP i h1)).1 h2
      subst this; exact h1
  | L :: Ls, P, hP, j => by
    show Sts b (St L b P) Ls j ↔ _
    rw [Sts_cats Ls (St L b P) (fun i h => St_le h) j]
    constructor
    · rintro ⟨k, ⟨i, h1, h2⟩, h3⟩
      exact ⟨i, h1, At_cat.2 ⟨k, h2, h3⟩⟩
    · rintro ⟨i, h1, h2⟩
      obtain ⟨k, h3, h4⟩ := At_cat.1 (show At (catL L (catsL Ls)) b i j from h2)
      exact ⟨k, ⟨i, h1, h3⟩, h4⟩
theorem Sts_snoc (Ls : List (List Nat → Prop)) : Sts b P (Ls ++ [L]) = St L b (Sts b P Ls) := by simp [Sts]
theorem Sts_le (hP : ∀ i, P i → i ≤ b.length) (Ls : List (List Nat → Prop)) {j : Nat} (h : Sts b P Ls j) : j ≤ b.length := by
  obtain ⟨i, _, h⟩ := (Sts_cats Ls P hP j).1 h; exact h.le
theorem At_or {Ls : List (List Nat → Prop)} {i j : Nat} : At (orL Ls) b i j ↔ ∃ L ∈ Ls, At L b i j := by
  unfold At
  rw [orL_iff]
  constructor
  · rintro ⟨h1, h2, L, h3, h4⟩; exact ⟨L, h3, h1, h2, h4⟩
  · rintro ⟨L, h3, h1, h2, h4⟩; exact ⟨h1, h2, L, h3, h4⟩
theorem At_rep {a c : Int} {i j : Nat} (hi : i ≤ b.length) : At (fun w => ∃ m : Nat, a ≤ m ∧ (c < 0 ∨ (m : Int) ≤ c) ∧ powL L m w) b i j ↔ ∃ m : Nat, a ≤ m ∧ (c < 0 ∨ (m : Int) ≤ c) ∧ Pw L b (fun x => x = i) m j := by
  have e : ∀ m, Pw L b (fun x => x = i) m j ↔ At (powL L m) b i j := fun m => by
    rw [Pw_pow m _ (fun x hx => by omega)]
    constructor
    · rintro ⟨_, rfl, h⟩; exact h
    · intro h; exact ⟨i, rfl, h⟩
  unfold At at e ⊢
  constructor
  · rintro ⟨h1, h2, m, h3, h4, h5⟩
    exact ⟨m, h3, h4, (e m).2 ⟨h1, h2, h5⟩⟩
  · rintro ⟨m, h3, h4, h5⟩
    obtain ⟨h1, h2, h6⟩ := (e m).1 h5
    exact ⟨h1, h2, m, h3, h4, h6⟩
theorem At_byte {f t : Int} {i j : Nat} : At (fun w => ∃ c : Nat, w = [c] ∧ f ≤ c ∧ (c : Int) ≤ t) b i j ↔ ∃ h : i < b.length, f ≤ b[i] ∧ (b[i] : Int) ≤ t ∧ j = i + 1 := by
  constructor
  · rintro ⟨h1, h2, c, h3, h4, h5⟩
    have hl := congrArg List.length h3
    simp at hl
    have hi : i < b.length := by omega
    have hj : j = i + 1 := by omega
    subst hj
    rw [show i + 1 - i = 1 by omega, List.drop_eq_getElem_cons hi] at h3
    simp only [List.take_succ_cons, List.take_zero, List.cons.injEq, and_true] at h3
    exact ⟨hi, by rw [h3]; exact h4, by rw [h3]; exact h5, rfl⟩
  · rintro ⟨hi, h1, h2, rfl⟩
    refine ⟨by omega, hi, b[i], ?_, h1, h2⟩
    rw [show i + 1 - i = 1 by omega, List.drop_eq_getElem_cons hi, List.take_succ_cons, List.take_zero]

/-- no more copies lead further -/
theorem Pw_stable {k : Nat} (h : ∀ j, Pw L b P (k + 1) j ↔ Pw L b P k j) : ∀ (m j : Nat), Pw L b P (k + m) j ↔ Pw L b P k j
  | 0, _ => Iff.rfl
  | m + 1, j => (St_congr (Pw_stable h m) j).trans (h j)
theorem Pw_none {k : Nat} (h : ∀ j, ¬ Pw L b P k j) : ∀ (m j : Nat), ¬ Pw L b P (k + m) j
  | 0, j => h j
  | m + 1, j => by rintro ⟨i, h1, _⟩; exact Pw_none h m i h1

/-- what was come to with at most k copies; what was come to at last -/
structure Bfs (L : List Nat → Prop) (b : List Nat) (F0 : Nat → Prop) (k : Nat) (M F : Nat → Prop) : Prop where
  M : ∀ j, M j ↔ ∃ r, r ≤ k ∧ Pw L b F0 r j
  F : ∀ j, F j ↔ Pw L b F0 k j ∧ ∀ r, r < k → ¬ Pw L b F0 r j
theorem Bfs.start (F0 : Nat → Prop) : Bfs L b F0 0 F0 F0 where
  M := fun j => ⟨fun h => ⟨0, Nat.le_refl _, h⟩, fun ⟨r, h1, h2⟩ => by have e := Nat.le_zero.1 h1; subst e; exact h2⟩
  F := fun j => ⟨fun h => ⟨h, fun r hr => by omega⟩, fun h => h.1⟩
theorem Bfs.next {F0 M F M' F' : Nat → Prop} {k : Nat} (h : Bfs L b F0 k M F) (hF : ∀ j, F' j ↔ St L b F j ∧ ¬ M j) (hM : ∀ j, M' j ↔ M j ∨ F' j) : Bfs L b F0 (k + 1) M' F' := by
  have key : ∀ j, Pw L b F0 (k + 1) j → ¬ M j → St L b F j := by
    rintro j ⟨i, h1, h2⟩ hn
    refine ⟨i, (h.F i).2 ⟨h1, fun r hr hp => hn ((h.M j).2 ⟨r + 1, by omega, i, hp, h2⟩)⟩, h2⟩
  have back : ∀ j, St L b F j → Pw L b F0 (k + 1) j := by
    rintro j ⟨i, h1, h2⟩
    exact ⟨i, ((h.F i).1 h1).1, h2⟩
  constructor
  · intro j
    rw [hM, hF, h.M]
    constructor
    · rintro (⟨r, h1, h2⟩ | ⟨h1, _⟩)
      · exact ⟨r, by omega, h2⟩
      · exact ⟨k + 1, Nat.le_refl _, back j h1⟩
    · rintro ⟨r, h1, h2⟩
      by_cases q : ∃ r, r ≤ k ∧ Pw L b F0 r j
      · exact .inl q
      · right
        have hr : r = k + 1 := by
          rcases Nat.lt_or_ge r (k + 1) with h3 | h3
          · exact absurd ⟨r, by omega, h2⟩ q
          · omega
        subst hr
        exact ⟨key j h2 fun hm => q ((h.M j).1 hm), fun ⟨r, h3, h4⟩ => q ⟨r, h3, h4⟩⟩
  · intro j
    rw [hF]
    constructor
    · rintro ⟨h1, h2⟩
      exact ⟨back j h1, fun r hr hp => h2 ((h.M j).2 ⟨r, by omega, hp⟩)⟩
    · rintro ⟨h1, h2⟩
      have hn : ¬ M j := fun hm => by obtain ⟨r, h3, h4⟩ := (h.M j).1 hm; exact h2 r (by omega) h4
      exact ⟨key j h1 hn, hn⟩
theorem Bfs.done {F0 M F : Nat → Prop} {k : Nat} (h : Bfs L b F0 k M F) (hF : ∀ j, ¬ F j) : ∀ (r j : Nat), Pw L b F0 r j → M j := by
  intro r
  induction r with
  | zero => intro j hp; exact (h.M j).2 ⟨0, by omega, hp⟩
  | succ r ih =>
    rintro j ⟨i, h1, h2⟩
    obtain ⟨q, h3, h4⟩ := (h.M i).1 (ih i h1)
    rcases Nat.lt_or_ge q k with h5 | h5
    · exact (h.M j).2 ⟨q + 1, by omega, i, h4, h2⟩
    · obtain rfl : q = k := by omega
      by_cases h6 : ∃ q', q' < q ∧ Pw L b F0 q' i
      · obtain ⟨q', h7, h8⟩ := h6
        exact (h.M j).2 ⟨q' + 1, by omega, i, h8, h2⟩
      · exact absurd ((h.F i).2 ⟨h4, fun r hr hp => h6 ⟨r, hr, hp⟩⟩) (hF i)
/-- a repetition's places, when the loop is at its end -/
theorem Bfs.rep {F0 M F : Nat → Prop} {k mn i : Nat} {c : Int} (hi : i ≤ b.length) (h0 : ∀ j, F0 j ↔ Pw L b (fun x => x = i) mn j) (h : Bfs L b F0 k M F) (hk : c < 0 ∨ (mn : Int) + k ≤ c) (he : (¬ (c < 0 ∨ (mn : Int) + k < c)) ∨ ∀ j, ¬ F j) (j : Nat) :
    M j ↔ At (fun w => ∃ m : Nat, (mn : Int) ≤ m ∧ (c < 0 ∨ (m : Int) ≤ c) ∧ powL L m w) b i j := by
  rw [At_rep hi]
  have hp : ∀ r j, Pw L b F0 r j ↔ Pw L b (fun x => x = i) (mn + r) j := fun r j => by rw [Pw_add]; exact Pw_congr h0 r j
  constructor
  · intro hm
    obtain ⟨r, h1, h2⟩ := (h.M j).1 hm
    exact ⟨mn + r, by omega, by omega, (hp r j).1 h2⟩
  · rintro ⟨m, h1, h2, h3⟩
    have h4 := (hp (m - mn) j).2 (by rw [show mn + (m - mn) = m by omega]; exact h3)
    rcases he with he | he
    · exact (h.M j).2 ⟨m - mn, by omega, h4⟩
    · exact h.done he _ j h4
end
end Go.Proofs.YticipgjbgcdccaaDoor
namespace Go.Proofs.YticipgjbgcdccaaDoor

section
variable {L A B : List Nat → Prop} {b : List Nat} {P : Nat → Prop}
theorem Lv_end {i : Nat} (hi : b.length ≤ i) : Lv L b i ↔ ∃ v, L v := by
  unfold Lv; rw [List.drop_eq_nil_of_le hi]; rfl
theorem Lv_byte {f t : Int} {i : Nat} (hi : i < b.length) : Lv (fun w => ∃ c : Nat, w = [c] ∧ f ≤ c ∧ (c : Int) ≤ t) b i ↔ i + 1 = b.length ∧ f ≤ b[i] ∧ (b[i] : Int) ≤ t := by
  constructor
  · rintro ⟨v, c, h1, h2, h3⟩
    have hl := congrArg List.length h1
    simp at hl
    rw [List.drop_eq_getElem_cons hi] at h1
    simp only [List.cons_append, List.cons.injEq] at h1
    exact ⟨by omega, by rw [h1.1]; exact h2, by rw [h1.1]; exact h3⟩
  · rintro ⟨h1, h2, h3⟩
    refine ⟨[], b[i], ?_, h2, h3⟩
    rw [List.drop_eq_getElem_cons hi, List.drop_eq_nil_of_le (by omega)]; rfl
theorem Lv_or {Ls : List (List Nat → Prop)} {i : Nat} : Lv (orL Ls) b i ↔ ∃ L ∈ Ls, Lv L b i := by
  unfold Lv
  constructor
  · rintro ⟨v, h⟩
    obtain ⟨L, h1, h2⟩ := (orL_iff _ _).1 h
    exact ⟨L, h1, v, h2⟩
  · rintro ⟨L, h1, v, h2⟩
    exact ⟨v, (orL_iff _ _).2 ⟨L, h1, h2⟩⟩
theorem Lv_at {i j : Nat} (hj : b.length ≤ j) (h : At L b i j) : Lv L b i := by
  obtain ⟨h1, h2, h3⟩ := h
  refine ⟨[], ?_⟩
  rw [List.append_nil]
  rwa [List.take_of_length_le (by simp; omega)] at h3
theorem Lv_cat {i : Nat} (hi : i ≤ b.length) (hB : ∃ w, B w) : Lv (catL A B) b i ↔ Lv A b i ∨ ∃ j, At A b i j ∧ Lv B b j := by
  constructor
  · rintro ⟨v, u, w, h1, h2, h3⟩
    rcases Nat.lt_or_ge (b.length - i) u.length with hu | hu
    · left
      obtain ⟨r, hr⟩ := List.append_eq_append_iff.1 h1 |>.elim (fun ⟨r, h, _⟩ => (⟨r, h⟩ : ∃ r, u = b.drop i ++ r)) (fun ⟨r, h, _⟩ => by
        have := congrArg List.length h
        simp at this; omega)
      exact ⟨r, hr ▸ h2⟩
    · right
      have hl : i + u.length ≤ b.length := by omega
      have e : b.drop i = (b.drop i).take u.length ++ b.drop (i + u.length) := by
        rw [← List.drop_drop, List.take_append_drop]
      rw [e, List.append_assoc] at h1
      obtain ⟨e1, e2⟩ := List.append_inj h1 (by simp; omega)
      exact ⟨i + u.length, ⟨by omega, hl, by rw [show i + u.length - i = u.length by omega, e1]; exact h2⟩, v, by rw [e2]; exact h3⟩
  · rintro (⟨v, h⟩ | ⟨j, ⟨h1, h2, h3⟩, v, h4⟩)
    · obtain ⟨w, hw⟩ := hB
      exact ⟨v ++ w, _, w, (List.append_assoc _ _ _).symm, h, hw⟩
    · refine ⟨v, _, _, ?_, h3, h4⟩
      rw [← List.append_assoc]
      congr 1
      rw [show b.drop j = (b.drop i).drop (j - i) by rw [List.drop_drop]; congr 1; omega, List.take_append_drop]
theorem catsL_ne : ∀ (Ls : List (List Nat → Prop)), (∀ L ∈ Ls, ∃ w, L w) → ∃ w, catsL Ls w
  | [], _ => ⟨[], rfl⟩
  | L :: Ls, h => by
    obtain ⟨u, hu⟩ := h L (by simp)
    obtain ⟨v, hv⟩ := catsL_ne Ls fun M hM => h M (by simp [hM])
    exact ⟨u ++ v, u, v, rfl, hu, hv⟩
theorem Lv_cats0 : ∀ (Ls : List (List Nat → Prop)) (P : Nat → Prop), (∀ i, P i → i ≤ b.length) → (∀ L ∈ Ls, ∃ w, L w) →
    ((∃ i, P i ∧ Lv (catsL Ls) b i) ↔ (∃ (k : Nat) (L : List Nat → Prop) (j : Nat), Ls[k]? = some L ∧ Sts b P (Ls.take k) j ∧ Lv L b j) ∨ Sts b P Ls b.length)
  | [], P, hP, _ => by
    constructor
    · rintro ⟨i, h1, v, h2⟩
      have := congrArg List.length h2
      simp at this
      have hi := hP i h1
      have : i = b.length := by omega
      subst this
      exact .inr h1
    · rintro (⟨k, L, j, h, _⟩ | h)
      · simp at h
      · exact ⟨_, h, [], by simp [catsL]⟩
  | L :: Ls, P, hP, hn => by
    have hne := catsL_ne Ls fun M hM => hn M (by simp [hM])
    have ih := Lv_cats0 Ls (St L b P) (fun i h => St_le h) fun M hM => hn M (by simp [hM])
    constructor
    · rintro ⟨i, h1, h2⟩
      rcases (Lv_cat (A := L) (B := catsL Ls) (hP i h1) hne).1 h2 with h3 | ⟨j, h3, h4⟩
      · exact .inl ⟨0, L, i, rfl, h1, h3⟩
      · rcases ih.1 ⟨j, ⟨i, h1, h3⟩, h4⟩ with ⟨k, M, j', h5, h6, h7⟩ | h5
        · exact .inl ⟨k + 1, M, j', h5, h6, h7⟩
        · exact .inr h5
    · have back : (∃ i, St L b P i ∧ Lv (catsL Ls) b i) → ∃ i, P i ∧ Lv (catsL (L :: Ls)) b i := by
        rintro ⟨j, ⟨i, h1, h2⟩, h3⟩
        exact ⟨i, h1, (Lv_cat (A := L) (B := catsL Ls) (hP i h1) hne).2 (.inr ⟨j, h2, h3⟩)⟩
      rintro (⟨k, M, j, h1, h2, h3⟩ | h1)
      · cases k with
        | zero =>
          obtain rfl : L = M := by simpa using h1
          exact ⟨j, h2, (Lv_cat (A := L) (B := catsL Ls) (hP j h2) hne).2 (.inl h3)⟩
        | succ k => exact back (ih.2 (.inl ⟨k, M, j, by simpa using h1, h2, h3⟩))
      · exact back (ih.2 (.inr h1))
/-- the text ends within a part, or nothing does -/
theorem Lv_cats {Ls : List (List Nat → Prop)} {i : Nat} (hi : i < b.length) (hn : ∀ L ∈ Ls, ∃ w, L w) :
    Lv (catsL Ls) b i ↔ ∃ (k : Nat) (L : List Nat → Prop) (j : Nat), Ls[k]? = some L ∧ Sts b (fun x => x = i) (Ls.take k) j ∧ Lv L b j := by
  have h0 := Lv_cats0 (b := b) Ls (fun x => x = i) (fun x hx => by omega) hn
  have h1 : (∃ x, x = i ∧ Lv (catsL Ls) b x) ↔ Lv (catsL Ls) b i := ⟨fun ⟨x, e, h⟩ => e ▸ h, fun h => ⟨i, rfl, h⟩⟩
  rw [← h1, h0]
  constructor
  · rintro (h | h)
    · exact h
    · rcases List.eq_nil_or_concat Ls with rfl | ⟨Ms, L, rfl⟩
      · have e : b.length = i := h
        omega
      · rw [List.concat_eq_append, Sts_snoc] at h
        obtain ⟨j, h2, h3⟩ := h
        exact ⟨Ms.length, L, j, by simp, by simpa using h2, Lv_at (Nat.le_refl _) h3⟩
  · exact .inl
theorem powL_cats : ∀ m : Nat, powL L m = catsL (List.replicate m L)
  | 0 => rfl
  | m + 1 => by
    funext w
    rw [List.replicate_succ]
    show (∃ u v, w = u ++ v ∧ L u ∧ powL L m v) = (∃ u v, w = u ++ v ∧ L u ∧ catsL (List.replicate m L) v)
    rw [powL_cats m]
theorem Sts_rep : ∀ (m : Nat) (P : Nat → Prop), Sts b P (List.replicate m L) = Pw L b P m
  | 0, _ => rfl
  | m + 1, P => by
    rw [List.replicate_succ, Pw_shift, ← Sts_rep m (St L b P)]; rfl
theorem powL_ne (hL : ∃ w, L w) (m : Nat) : ∃ w, powL L m w := by
  rw [powL_cats]; exact catsL_ne _ fun M hM => by rw [List.eq_of_mem_replicate hM]; exact hL
theorem powL_add : ∀ (m n : Nat) (u v : List Nat), powL L m u → powL L n v → powL L (m + n) (u ++ v)
  | 0, n, u, v, hu, hv => by
    have hu : u = [] := hu
    subst hu; simpa using hv
  | m + 1, n, u, v, hu, hv => by
    obtain ⟨x, y, rfl, h1, h2⟩ := hu
    rw [show m + 1 + n = (m + n) + 1 by omega, List.append_assoc]
    exact ⟨x, y ++ v, rfl, h1, powL_add m n y v h2 hv⟩
theorem Lv_rep {a c : Int} {i : Nat} (hi : i < b.length) (hL : ∃ w, L w) (ha : 0 ≤ a) (hc : c < 0 ∨ a ≤ c) :
    Lv (fun w => ∃ m : Nat, a ≤ m ∧ (c < 0 ∨ (m : Int) ≤ c) ∧ powL L m w) b i ↔
      (∃ r : Nat, (c < 0 ∨ (r : Int) < c) ∧ ∃ j, Pw L b (fun x => x = i) r j ∧ Lv L b j) ∨ ∃ r : Nat, (c < 0 ∨ (r : Int) ≤ c) ∧ Pw L b (fun x => x = i) r b.length := by
  have hpw : ∀ r j, Pw L b (fun x => x = i) r j ↔ At (powL L r) b i j := fun r j => by
    rw [Pw_pow r _ (fun x hx => by omega)]
    constructor
    · rintro ⟨_, rfl, h⟩; exact h
    · intro h; exact ⟨i, rfl, h⟩
  constructor
  · rintro ⟨v, m, h1, h2, h3⟩
    left
    have h4 : Lv (catsL (List.replicate m L)) b i := ⟨v, by rw [← powL_cats]; exact h3⟩
    obtain ⟨k, M, j, h5, h6, h7⟩ := (Lv_cats hi fun M hM => by rw [List.eq_of_mem_replicate hM]; exact hL).1 h4
    have hk : k < m := by have := (List.getElem?_eq_some_iff.1 h5).1; simpa using this
    have hM : M = L := by
      have := List.mem_of_getElem? h5
      exact List.eq_of_mem_replicate this
    subst hM
    rw [List.take_replicate, Nat.min_eq_left (by omega), Sts_rep] at h6
    exact ⟨k, by omega, j, h6, h7⟩
  · have more : ∀ (r : Nat), (c < 0 ∨ (r : Int) ≤ c) → (∃ v, powL L r (b.drop i ++ v)) → Lv (fun w => ∃ m : Nat, a ≤ m ∧ (c < 0 ∨ (m : Int) ≤ c) ∧ powL L m w) b i := by
      rintro r h1 ⟨v, h2⟩
      obtain ⟨w, hw⟩ := powL_ne hL (a.toNat - r)
      refine ⟨v ++ w, r + (a.toNat - r), by omega, by omega, ?_⟩
      rw [← List.append_assoc]
      exact powL_add _ _ _ _ h2 hw
    rintro (⟨r, h1, j, h2, v, h3⟩ | ⟨r, h1, h2⟩)
    · refine more (r + 1) (by omega) ⟨v, ?_⟩
      obtain ⟨h4, h5, h6⟩ := (hpw r j).1 h2
      have e : b.drop i ++ v = (b.drop i).take (j - i) ++ (b.drop j ++ v) := by
        rw [← List.append_assoc]
        congr 1
        rw [show b.drop j = (b.drop i).drop (j - i) by rw [List.drop_drop]; congr 1; omega, List.take_append_drop]
      rw [e]
      exact powL_add r 1 _ _ h6 ⟨b.drop j ++ v, [], by simp, h3, rfl⟩
    · obtain ⟨v, hv⟩ := Lv_at (Nat.le_refl _) ((hpw r _).1 h2)
      exact more r h1 ⟨v, hv⟩
/-- a repetition, when the loop over its copies is at its end -/
theorem Bfs.lives {M F : Nat → Prop} {k i : Nat} {a c : Int} (hi : i < b.length) (hL : ∃ w, L w) (ha : 0 ≤ a) (hc : c < 0 ∨ a ≤ c) (h : Bfs L b (fun x => x = i) k M F) (hk : c < 0 ∨ (k : Int) ≤ c) (hd : ∀ j, M j → ¬ F j → ¬ Lv L b j)
    (he : (¬ (c < 0 ∨ (k : Int) < c)) ∨ ∀ j, ¬ F j) : M b.length ↔ Lv (fun w => ∃ m : Nat, a ≤ m ∧ (c < 0 ∨ (m : Int) ≤ c) ∧ powL L m w) b i := by
  rw [Lv_rep hi hL ha hc]
  constructor
  · intro hm
    obtain ⟨r, h1, h2⟩ := (h.M _).1 hm
    exact .inr ⟨r, by omega, h2⟩
  · rintro (⟨r, h1, j, h2, h3⟩ | ⟨r, h1, h2⟩)
    · exfalso
      by_cases hr : r < k
      · exact hd j ((h.M j).2 ⟨r, by omega, h2⟩) (fun hf => ((h.F j).1 hf).2 r hr h2) h3
      · rcases he with he | he
        · omega
        · exact hd j (h.done he r j h2) (he j) h3
    · rcases he with he | he
      · exact (h.M _).2 ⟨r, by omega, h2⟩
      · exact h.done he r _ h2
end
theorem Lang_ne {x : Ex} (h : rightP x = true) : ∃ w, Lang x w := ⟨_, (shortP_least _ x (Nat.lt_succ_self _) h).1⟩
end Go.Proofs.YticipgjbgcdccaaDoor
namespace Go.Proofs.YticipgjbgcdccaaDoor
open Go.RowKit

/-- a list of places in memory, in a block of kind p -/
def IntsV (w : World) (p : Nat → Prop) (u : Value) (l : List Nat) : Prop :=
  ∃ A c, u = .slice A l.length c ∧ l.length ≤ c ∧ c ≤ 9223372036854775807 ∧ (l ≠ [] → ∃ g o, A = some ⟨g, o, none⟩ ∧ g < w.heap.size ∧ p g ∧ ∀ (i : Nat) (x : Nat), l[i]? = some x → w.cell? ⟨g, o + i, none⟩ = some (.int .i64 (x : Int)))
namespace IntsV
variable {w w' : World} {p p' : Nat → Prop} {u : Value} {l : List Nat}
theorem nil (w : World) (p : Nat → Prop) : IntsV w p (.slice none 0 0) [] := ⟨none, 0, rfl, Nat.le_refl _, by omega, fun h => absurd rfl h⟩
theorem keep {S : Nat → Prop} (h : IntsV w p u l) (hc : Chg S w w') (hp : ∀ g, p g → g < w.heap.size → ¬ S g ∧ p' g) : IntsV w' p' u l := by
  obtain ⟨A, c, h1, h2, h3, h4⟩ := h
  refine ⟨A, c, h1, h2, h3, fun hne => ?_⟩
  obtain ⟨g, o, k1, k2, k3, k4⟩ := h4 hne
  obtain ⟨k5, k6⟩ := hp g k3 k2
  refine ⟨g, o, k1, Nat.lt_of_lt_of_le k2 hc.size, k6, fun i x hx => ?_⟩
  rw [← k4 i x hx]
  unfold World.cell?
  rw [hc.block g k2 k5]
theorem cell (h : IntsV w p u l) {i : Nat} (hi : i < l.length) : ∃ g o c, u = .slice (some ⟨g, o, none⟩) l.length c ∧ w.cell? ⟨g, o + i, none⟩ = some (.int .i64 (l[i] : Int)) := by
  obtain ⟨A, c, h1, h2, h3, h4⟩ := h
  obtain ⟨g, o, k1, k2, k3, k4⟩ := h4 (fun e => by rw [e] at hi; simp at hi)
  exact ⟨g, o, c, by rw [h1, k1], k4 i _ (List.getElem?_eq_getElem hi)⟩
theorem form (h : IntsV w p u l) : ∃ A c, u = .slice A l.length c ∧ l.length ≤ c ∧ c ≤ 9223372036854775807 := by
  obtain ⟨A, c, h1, h2, h3, _⟩ := h; exact ⟨A, c, h1, h2, h3⟩
end IntsV

/-- a list of places of the call's own -/
def OwI (w : World) (base : Nat) (v : Value) (l : List Nat) : Prop := w.ownsRow base 3 1 v l.length (l.map fun x : Nat => Value.int .i64 (x : Int))
namespace OwI
variable {w w' : World} {base : Nat} {v : Value} {l : List Nat}
theorem nil (w : World) (base : Nat) : OwI w base (.slice none 0 0) [] := ⟨rfl, .inl ⟨rfl, rfl⟩⟩
theorem lt (h : OwI w base v l) : ∀ k, v.ownBlock = some k → base ≤ k ∧ k < w.heap.size := by
  obtain ⟨_, h⟩ := h
  intro k hk
  rcases h with ⟨rfl, _⟩ | ⟨g, cap, cur, rfl, hb, hh, _⟩
  · simp [Value.ownBlock] at hk
  · have : g = k := by simpa [Value.ownBlock] using hk
    subst this
    refine ⟨hb, ?_⟩
    rcases Nat.lt_or_ge g w.heap.size with q | q
    · exact q
    · rw [Array.getElem?_eq_none q] at hh; cases hh
theorem chg {S : Nat → Prop} (h : OwI w base v l) (hc : Chg S w w') (hS : ∀ k, v.ownBlock = some k → ¬ S k) : OwI w' base v l := by
  have hlt := h.lt
  obtain ⟨h1, h2⟩ := h
  refine ⟨h1, ?_⟩
  rcases h2 with h2 | ⟨g, cap, cur, rfl, hb, hh, hr⟩
  · exact .inl h2
  · exact .inr ⟨g, cap, cur, rfl, hb, (hc.block g (hlt g rfl).2 (hS g rfl)).trans hh, hr⟩
theorem chgNo (h : OwI w base v l) (hc : Chg No w w') : OwI w' base v l := h.chg hc fun _ _ e => e
theorem lower {base' : Nat} (h : OwI w base v l) (hb : base' ≤ base) : OwI w base' v l := by
  obtain ⟨h1, h2⟩ := h
  refine ⟨h1, ?_⟩
  rcases h2 with h2 | ⟨g, cap, cur, rfl, hb', hr⟩
  · exact .inl h2
  · exact .inr ⟨g, cap, cur, rfl, by omega, hr⟩
theorem ints (h : OwI w base v l) : IntsV w (fun g => base ≤ g) v l := by
  have hlt := h.lt
  obtain ⟨h1, h2⟩ := h
  rcases h2 with ⟨rfl, h2⟩ | ⟨g, cap, cur, rfl, hb, hh, h4, h5, h6, h7⟩
  · have : l = [] := List.eq_nil_of_length_eq_zero h2
    subst this
    exact IntsV.nil _ _
  · have h5' : cap ≤ 9223372036854775807 := by simpa [maxLen] using h5
    refine ⟨_, _, rfl, h4, h5', fun _ => ⟨g, 0, rfl, (hlt g rfl).2, hb, fun i x hx => ?_⟩⟩
    rw [Nat.zero_add, cell_of_row w g i cur _ _ hh]
    have hu : (l.map fun x : Nat => Value.int .i64 (x : Int))[i]? = some (.int .i64 (x : Int)) := by rw [List.getElem?_map, hx]; rfl
    rw [← h7, List.getElem?_take] at hu
    split at hu
    · simpa using hu
    · cases hu
theorem one (w : World) {base : Nat} (x : Nat) (hb : base ≤ w.heap.size) : OwI (w.alloc (.cells #[.int .i64 (x : Int)] 3)) base (.slice (some ⟨w.heap.size, 0, none⟩) 1 1) [x] :=
  ⟨rfl, .inr ⟨w.heap.size, 1, _, rfl, hb, heap_alloc_new w _, Nat.le_refl _, by simp [maxLen], rfl, rfl⟩⟩
end OwI
theorem info_intI : (Tryd.prog.info? 3).map (fun i => (i.zero, i.size, i.bytes)) = some (some (.int .i64 0), 1, 8) := by kernel_rfl
/-- 'l = append(l, y)', of places -/
theorem wpList_append_int {w : World} {ops : Array Oper} {rest : List Oper} {o : Oper} {a : Act} {Q : Exit → Act → World → Prop} (hgd : o.guard = none) (s x : Operand)
    (ho : o.op = .call { callee := .builtin .append, args := #[s, x], argTypes := #[88, 88] })
    (base : Nat) (v : Value) (l : List Nat) (hs : a.eval s = v) (hown : OwI w base v l) (g c : Nat) (y : Nat) (hx : a.eval x = .slice (some ⟨g, 0, none⟩) 1 c)
    (hb : Blk w g 3 #[.int .i64 (y : Int)]) (hlen : l.length ≤ 1000000) (hbase : base ≤ w.heap.size)
    (h : ∀ v' w', OwI w' base v' (l ++ [y]) → w.grownBy w' v.ownBlock → (v'.ownBlock = v.ownBlock ∨ v'.ownBlock = some w.heap.size) → wpList Tryd.prog ops Q rest (a.put o.dst v') w') :
    wpList Tryd.prog ops Q (o :: rest) a w := by
  obtain ⟨i0, hi, hz0, hz1, hz2⟩ := info_parts info_intI
  refine wpList_append_own_at _ hgd s x _ ho base 3 i0 _ 1 8 Tryd.underlying88 hi hz0 hz1 hz2 rfl (by decide) v l.length _ hs hown ⟨g, 0, none⟩ 1 c
    [.int .i64 (y : Int)] hx rfl ?_ ?_ (by unfold maxLen; omega) (by omega) hbase ?_
  · intro j u hu
    rw [add0]
    rw [hb.cell j]
    simpa using hu
  · intro u hu
    simp at hu
    rw [hu]; rfl
  · intro v' w' ho' hg _ hat
    refine h v' w' ?_ hg hat
    unfold OwI
    rw [List.map_append, List.length_append]
    exact ho'

/-- the places that are marked -/
def markedL (f : Nat → Bool) : Nat → List Nat
  | 0 => []
  | k + 1 => if f k then markedL f k ++ [k] else markedL f k
theorem markedL_mem (f : Nat → Bool) : ∀ (n j : Nat), j ∈ markedL f n ↔ j < n ∧ f j = true
  | 0, j => by simp [markedL]
  | n + 1, j => by
    have ih := markedL_mem f n j
    unfold markedL
    by_cases h : f n = true
    · rw [if_pos h, List.mem_append, ih, List.mem_singleton]
      constructor
      · rintro (h1 | rfl)
        · exact ⟨by omega, h1.2⟩
        · exact ⟨by omega, h⟩
      · rintro ⟨h1, h2⟩
        rcases Nat.lt_or_ge j n with h3 | h3
        · exact .inl ⟨h3, h2⟩
        · exact .inr (by omega)
    · rw [if_neg h, ih]
      constructor
      · rintro ⟨h1, h2⟩; exact ⟨by omega, h2⟩
      · rintro ⟨h1, h2⟩
        rcases Nat.lt_or_ge j n with h3 | h3
        · exact ⟨h3, h2⟩
        · obtain rfl : j = n := by omega
          exact absurd h2 h
theorem markedL_len (f : Nat → Bool) : ∀ n, (markedL f n).length ≤ n
  | 0 => by simp [markedL]
  | n + 1 => by
    have := markedL_len f n
    unfold markedL
    split
    · simp; omega
    · omega
theorem markedL_rise (f : Nat → Bool) : ∀ n, (markedL f n).Pairwise (· < ·)
  | 0 => by simp [markedL]
  | n + 1 => by
    unfold markedL
    split
    · rw [List.pairwise_append]
      refine ⟨markedL_rise f n, by simp, fun a ha b hb => ?_⟩
      have := (markedL_mem f n a).1 ha
      simp at hb; omega
    · exact markedL_rise f n

set_option maxHeartbeats 1000000 in
theorem marked_any (w : World) (g n c : Nat) (f : Nat → Bool) (hb : w.rowIs g 4 n (fun j => .bool (f j))) (hn : n ≤ 300000) (hc : n ≤ c ∧ c ≤ 300000) :
    Calls Tryd.prog 98 #[.slice (some ⟨g, 0, none⟩) n c] w fun e w' => ∃ v, e = .returned v ∧ OwI w' w.heap.size v (markedL f n) ∧ Chg No w w' := by
  obtain ⟨hc1, hc2⟩ := hc
  have HB := Lib.hid hb
  clear hb
  go_enter Tryd.func98, Tryd.ntmps98
  go_wp2
  go_loopw [3, 4] (fun v3 v4 wr => ∃ i : Nat, i ≤ n ∧ v4 = .int .i64 (i : Int) ∧ OwI wr w.heap.size v3 (markedL f i) ∧ Chg No w wr) (fun _ v _ => n - (intOf v).toNat)
  case atStart => exact ⟨0, by omega, rfl, OwI.nil _ _, Chg.refl _ _⟩
  case round =>
    obtain ⟨i, hi, rfl, hO, hC⟩ := hrel
    by_cases hlt : i < n
    · have z := (HB.out.of_block (hC.block g HB.out.lt id)).cell hlt
      have hlen := markedL_len f i
      have hsz := hC.size
      obtain ⟨d, hd⟩ : ∃ d, f i = d := ⟨_, rfl⟩
      have HD := Lib.hid hd
      rw [hd] at z
      clear hd
      cases d with
      | false =>
        go_wp2
        refine ⟨⟨i + 1, by omega, by go_num, ?_, hC⟩, by simp [intOf]; omega⟩
        have e : markedL f (i + 1) = markedL f i := by
          conv => lhs; unfold markedL
          rw [HD.out]; rfl
        rw [e]; exact hO
      | true =>
        have hOlt := hO.lt
        go_wp2_with (at_builtin; refine wpList_append_int rfl _ _ rfl w.heap.size _ _ rfl (hO.chgNo ((Chg.refl No _).alloc _)) _ 1 i rfl (Blk.new _ _ _) (by first | omega | (simp; omega)) (by first | omega | (simp; omega)) ?_; intro v' w5 hO5 hgr hat)
        refine ⟨⟨i + 1, by omega, by go_num, ?_, ?_⟩, by simp [intOf]; omega⟩
        · have e : markedL f (i + 1) = markedL f i ++ [i] := by
            conv => lhs; unfold markedL
            rw [HD.out]; rfl
          rw [e]; exact hO5
        · exact (hC.alloc _).then_ (Chg.of_grown (S := fun q => some q = _) hgr fun q e _ => e.symm) fun q hq e => by have := (hOlt _ e.symm).1; omega
    · obtain rfl : i = n := by omega
      go_wp2
      go_ret
      exact ⟨_, rfl, hO, hC⟩

set_option maxHeartbeats 1000000 in
theorem same_any (w : World) (p q : Nat → Prop) (u v : Value) (l m : List Nat) (hu : IntsV w p u l) (hv : IntsV w q v m) (hl : l.length ≤ 300000) :
    Calls Tryd.prog 123 #[u, v] w fun e w' => ∃ z : Bool, e = .returned (.bool z) ∧ (z = true → l = m) ∧ Chg No w w' := by
  obtain ⟨A, c, rfl, hc1, hc2⟩ := hu.form
  obtain ⟨A', c', rfl, hd1, hd2⟩ := hv.form
  have HU := Lib.hid hu
  have HV := Lib.hid hv
  clear hu hv
  by_cases hlen : l.length = m.length
  · go_enter Tryd.func123, Tryd.ntmps123
    have e0 : ((l.length : Int) != (m.length : Int)) = false := by simp [hlen]
    go_wp2
    go_loopw [5] (fun v5 wr => ∃ i : Nat, i ≤ l.length ∧ v5 = .int .i64 (i : Int) ∧ Hid (l.take i = m.take i) ∧ Chg No w wr) (fun v _ => l.length - (intOf v).toNat)
    case atStart => exact ⟨0, by omega, rfl, Lib.hid rfl, Chg.refl _ _⟩
    case round =>
      obtain ⟨i, hi, rfl, HT, hC⟩ := hrel
      by_cases hlt : i < l.length
      · obtain ⟨g, o, c2, e1, z1⟩ := (HU.out.keep (p' := p) hC fun g hg _ => ⟨id, hg⟩).cell hlt
        obtain ⟨g', o', c3, e2, z2⟩ := (HV.out.keep (p' := q) hC fun g hg _ => ⟨id, hg⟩).cell (show i < m.length by omega)
        cases e1
        cases e2
        obtain ⟨x, hx⟩ : ∃ x, l[i] = x := ⟨_, rfl⟩
        obtain ⟨y, hy⟩ : ∃ y, m[i] = y := ⟨_, rfl⟩
        rw [hx] at z1
        rw [hy] at z2
        have HX : Hid (x = y → l.take (i + 1) = m.take (i + 1)) := Lib.hid fun e => by
          rw [List.take_succ_eq_append_getElem hlt, List.take_succ_eq_append_getElem (show i < m.length by omega), HT.out, hx, hy, e]
        have hz0 : (0 : Int) ≤ (i : Int) := by omega
        have hz1 : (i : Int) < (l.length : Int) := by omega
        have hz2 : (i : Int) < (m.length : Int) := by omega
        clear hx hy
        by_cases q : x = y
        · have e3 : ((x : Int) != (y : Int)) = false := by simp [q]
          go_wp2
          go_quiet (fail)
          go_wp2
          exact ⟨⟨i + 1, by omega, by go_num, Lib.hid (HX.out q), hC.drewN _⟩, by simp [intOf]; omega⟩
        · have e3 : ((x : Int) != (y : Int)) = true := by simp; omega
          go_wp2
          go_quiet (fail)
          go_wp2
          go_ret
          exact ⟨false, rfl, by simp, hC.drewN _⟩
      · obtain rfl : i = l.length := by omega
        go_wp2
        go_ret
        refine ⟨true, rfl, fun _ => ?_, hC⟩
        have := HT.out
        rw [List.take_length, hlen, List.take_length] at this
        exact this
  · go_enter Tryd.func123, Tryd.ntmps123
    have e0 : ((l.length : Int) != (m.length : Int)) = true := by simp; omega
    go_wp2
    go_ret
    exact ⟨false, rfl, by simp, Chg.refl _ _⟩

theorem info_boolI : (Tryd.prog.info? 4).map (fun i => (i.zero, i.size, i.bytes)) = some (some (.bool false), 1, 1) := by kernel_rfl
theorem info_intsI : (Tryd.prog.info? 88).map (fun i => (i.zero, i.size, i.bytes)) = some (some (.slice none 0 0), 1, 24) := by kernel_rfl
theorem make_bools (w : World) (n : Nat) (hn : n ≤ 300000) : (Instr.makeSlice 123 (.int .i64 ((n : Int) + 1)) (.int .i64 ((n : Int) + 1))).run Tryd.prog w = .ok (.slice (some ⟨w.heap.size, 0, none⟩) (n + 1) (n + 1)) (w.alloc (.cells (madeCells #[.bool false] (n + 1)) 4)) := by
  obtain ⟨i, hi, h1, h2, h3⟩ := info_parts info_boolI
  have := run_make (P := Tryd.prog) w 123 4 i _ Tryd.underlying123 hi h1 .i64 .i64 ((n + 1 : Nat) : Int) ((n + 1 : Nat) : Int) (by omega) (by omega) (by rw [h3]; omega) (by omega)
  rw [h2] at this
  simp only [Int.toNat_natCast, Nat.mul_one] at this
  exact this
theorem make_ints (w : World) (n : Nat) (hn : n ≤ 300000) : (Instr.makeSlice 88 (.int .i64 ((n : Int) + 1)) (.int .i64 ((n : Int) + 1))).run Tryd.prog w = .ok (.slice (some ⟨w.heap.size, 0, none⟩) (n + 1) (n + 1)) (w.alloc (.cells (madeCells #[.int .i64 0] (n + 1)) 3)) := by
  obtain ⟨i, hi, h1, h2, h3⟩ := info_parts info_intI
  have := run_make (P := Tryd.prog) w 88 3 i _ Tryd.underlying88 hi h1 .i64 .i64 ((n + 1 : Nat) : Int) ((n + 1 : Nat) : Int) (by omega) (by omega) (by rw [h3]; omega) (by omega)
  rw [h2] at this
  simp only [Int.toNat_natCast, Nat.mul_one] at this
  exact this
theorem make_intss (w : World) (n : Nat) (hn : n ≤ 300000) : (Instr.makeSlice 118 (.int .i64 ((n : Int) + 1)) (.int .i64 ((n : Int) + 1))).run Tryd.prog w = .ok (.slice (some ⟨w.heap.size, 0, none⟩) (n + 1) (n + 1)) (w.alloc (.cells (madeCells #[.slice none 0 0] (n + 1)) 88)) := by
  obtain ⟨i, hi, h1, h2, h3⟩ := info_parts info_intsI
  have := run_make (P := Tryd.prog) w 118 88 i _ Tryd.underlying118 hi h1 .i64 .i64 ((n + 1 : Nat) : Int) ((n + 1 : Nat) : Int) (by omega) (by omega) (by rw [h3]; omega) (by omega)
  rw [h2] at this
  simp only [Int.toNat_natCast, Nat.mul_one] at this
  exact this
end Go.Proofs.YticipgjbgcdccaaDoor
namespace Go.Proofs.YticipgjbgcdccaaDoor
open Go.RowKit

/-- cells in a row -/
def Arr (w : World) (g n : Nat) (f : Nat → Value) : Prop := g < w.heap.size ∧ ∀ i, i < n → w.cell? ⟨g, i, none⟩ = some (f i) ∧ w.frozen? ⟨g, i, none⟩ = false
namespace Arr
variable {w w' : World} {g n : Nat} {f : Nat → Value}
theorem chg {S : Nat → Prop} (h : Arr w g n f) (hc : Chg S w w') (hn : ¬ S g) : Arr w' g n f := by
  have e := hc.block g h.1 hn
  refine ⟨Nat.lt_of_lt_of_le h.1 hc.size, fun i hi => ?_⟩
  obtain ⟨h1, h2⟩ := h.2 i hi
  unfold World.cell? at h1 ⊢
  unfold World.frozen? at h2 ⊢
  rw [e]; exact ⟨h1, h2⟩
theorem congr {f' : Nat → Value} (h : Arr w g n f) (e : ∀ i, i < n → f i = f' i) : Arr w g n f' := ⟨h.1, fun i hi => by rw [← e i hi]; exact h.2 i hi⟩
theorem set (h : Arr w g n f) (i : Nat) (hi : i < n) (v : Value) : Arr (w.setCell ⟨g, i, none⟩ v) g n (fun j => if j = i then v else f j) := by
  obtain ⟨hg, h⟩ := h
  have h0 := (h i hi).1
  refine ⟨by simpa [World.setCell] using hg, fun j hj => ?_⟩
  obtain ⟨h1, h2⟩ := h j hj
  cases hh : w.heap[g]? with
  | none => simp [World.cell?, hh] at h0
  | some o =>
    cases o with
    | cells cs t fr =>
      have e : (w.setCell ⟨g, i, none⟩ v).heap[g]? = some (.cells (cs.setIfInBounds i v) t fr) := by simp [World.setCell, Array.getElem?_modify, hh]
      simp only [World.cell?, World.frozen?, hh, e, Option.isSome_none, Bool.false_eq_true, if_false] at h0 h1 h2 ⊢
      refine ⟨?_, h2⟩
      rw [Array.getElem?_setIfInBounds]
      by_cases q : j = i
      · subst q
        have hlt : j < cs.size := (Array.getElem?_eq_some_iff.1 h0).1
        simp [hlt]
      · rw [if_neg (fun e => q e.symm), if_neg q]; exact h1
    | _ => simp [World.cell?, hh] at h0
theorem of_row {t : TypeId} (h : w.rowIs g t n f) : Arr w g n f := ⟨h.lt, fun i hi => ⟨h.cell hi, h.frozen i⟩⟩
end Arr

/-- a rising list of just the places of P -/
def Pls (P : Nat → Prop) (l : List Nat) : Prop := l.Pairwise (· < ·) ∧ ∀ j, j ∈ l ↔ P j
theorem Pls.congr {P Q : Nat → Prop} {l : List Nat} (h : Pls P l) (e : ∀ j, P j ↔ Q j) : Pls Q l := ⟨h.1, fun j => (h.2 j).trans (e j)⟩

/-- a net's fixed part -/
structure NF where
  w0 : World
  m : Nat
  gE : Nat
  gK : Nat
  gX : Nat
  gD : Nat
  gV : Nat
  cE : Nat
  cK : Nat
  cX : Nat
  cD : Nat
  cV : Nat
  B : Option Addr
  cb : Nat
  b : List Nat
  es : List Ex
  ks : List (List Nat)
/-- what changes: whose each block is; the rows; what is known -/
structure NS where
  T : Nat → Nat
  d : Nat → Option Nat
  x : Nat → Option Nat
  v : Nat → Option Nat
  kn : Nat → Nat → Bool
  lv : Nat → Nat → Nat
def rowOf (n : Nat) (o : Option Nat) : Value := match o with | none => .slice none 0 0 | some g => .slice (some ⟨g, 0, none⟩) (n + 1) (n + 1)
def upd {α : Type} (f : Nat → α) (i : Nat) (a : α) : Nat → α := fun j => if j = i then a else f j
theorem upd_same {α : Type} (f : Nat → α) (i : Nat) (a : α) : upd f i a i = a := if_pos rfl
theorem upd_ne {α : Type} (f : Nat → α) {i j : Nat} (a : α) (h : j ≠ i) : upd f i a j = f j := if_neg h

/-- an ends row: what is known lies there -/
def EndsRow (w : World) (F : NF) (T : Nat → Nat) (kn : Nat → Bool) (x : Ex) (f : Nat → Value) : Prop :=
  ∀ a, a ≤ F.b.length → kn a = true → ∃ l, IntsV w (fun g => T g = 0) (f a) l ∧ Pls (At (Lang x) F.b a) l

structure NetOk (w : World) (F : NF) (s : NS) : Prop where
  c0 : Chg No F.w0 w
  low : ∀ k, s.T k ≠ 0 → F.w0.heap.size ≤ k
  new : ∀ k, w.heap.size ≤ k → s.T k = 0
  m : Blk w F.m 122 #[.slice F.B F.b.length F.cb, .slice (some ⟨F.gE, 0, none⟩) F.es.length F.cE, .slice (some ⟨F.gK, 0, none⟩) F.es.length F.cK, .slice (some ⟨F.gX, 0, none⟩) F.es.length F.cX, .slice (some ⟨F.gD, 0, none⟩) F.es.length F.cD, .slice (some ⟨F.gV, 0, none⟩) F.es.length F.cV]
  tm : s.T F.m = 0
  zE : F.gE < w.heap.size
  zK : F.gK < w.heap.size
  tE : s.T F.gE = 0
  tK : s.T F.gK = 0
  tX : s.T F.gX = 2
  tD : s.T F.gD = 3
  tV : s.T F.gV = 4
  E : ∀ i x, F.es[i]? = some x → ∃ A c, w.cell? ⟨F.gE, i * 6, none⟩ = some (.int .i64 x.k) ∧ w.cell? ⟨F.gE, i * 6 + 1, none⟩ = some (.int .i64 x.f) ∧ w.cell? ⟨F.gE, i * 6 + 2, none⟩ = some (.int .i64 x.t) ∧ w.cell? ⟨F.gE, i * 6 + 3, none⟩ = some (.int .i64 x.a) ∧ w.cell? ⟨F.gE, i * 6 + 4, none⟩ = some (.int .i64 x.b) ∧ w.cell? ⟨F.gE, i * 6 + 5, none⟩ = some (.slice A x.l.length c)
  K : ∀ i l, F.ks[i]? = some l → ∃ u, w.cell? ⟨F.gK, i, none⟩ = some u ∧ IntsV w (fun g => s.T g = 0) u l
  X : Arr w F.gX F.es.length (fun i => rowOf F.b.length (s.x i))
  D : Arr w F.gD F.es.length (fun i => rowOf F.b.length (s.d i))
  V : Arr w F.gV F.es.length (fun i => rowOf F.b.length (s.v i))
  dr : ∀ i g, s.d i = some g → s.T g = 5 + 3 * i ∧ Arr w g (F.b.length + 1) (fun a => .bool (s.kn i a))
  xr : ∀ i x g, F.es[i]? = some x → s.x i = some g → s.T g = 6 + 3 * i ∧ ∃ f, Arr w g (F.b.length + 1) f ∧ EndsRow w F s.T (s.kn i) x f
  vr : ∀ i g, s.v i = some g → s.T g = 7 + 3 * i ∧ Arr w g (F.b.length + 1) (fun a => .int .i64 (s.lv i a : Int))
  dx : ∀ i, s.d i = none ↔ s.x i = none

/-- from one state to a later one: what is not the net's is kept -/
structure Stp (w : World) (s : NS) (w' : World) (s' : NS) : Prop where
  chg : Chg (fun k => 2 ≤ s.T k) w w'
  T : ∀ k, k < w.heap.size → s'.T k = s.T k
  d : ∀ i, s.d i ≠ none → s'.d i ≠ none
  v : ∀ i, s.v i ≠ none → s'.v i ≠ none
theorem Stp.refl (w : World) (s : NS) : Stp w s w s := ⟨Chg.refl _ _, fun _ _ => rfl, fun _ h => h, fun _ h => h⟩
theorem Stp.trans {w w' w'' : World} {s s' s'' : NS} (h : Stp w s w' s') (h' : Stp w' s' w'' s'') : Stp w s w'' s'' :=
  ⟨h.chg.then_ h'.chg fun k hk e => by rw [h.T k hk] at e; exact e, fun k hk => (h'.T k (Nat.lt_of_lt_of_le hk h.chg.size)).trans (h.T k hk), fun i q => h'.d i (h.d i q), fun i q => h'.v i (h.v i q)⟩
theorem IntsV.stp {w w' : World} {s s' : NS} {u : Value} {l : List Nat} {c : Nat} (hc : c < 2) (h : IntsV w (fun g => s.T g ≤ c) u l) (hs : Stp w s w' s') : IntsV w' (fun g => s'.T g ≤ c) u l :=
  h.keep hs.chg fun g hg hlt => ⟨by omega, by rw [hs.T g hlt]; exact hg⟩
theorem rowIs_stp {w w' : World} {s s' : NS} {g n : Nat} {t : TypeId} {f : Nat → Value} (h : w.rowIs g t n f) (ht : s.T g < 2) (hs : Stp w s w' s') : w'.rowIs g t n f :=
  h.of_block (hs.chg.block g h.lt (by omega))
theorem Arr.stp {w w' : World} {s s' : NS} {g n : Nat} {f : Nat → Value} (h : Arr w g n f) (ht : s.T g < 2) (hs : Stp w s w' s') : Arr w' g n f := Arr.chg h hs.chg (by omega)
theorem Blk.stp {w w' : World} {s s' : NS} {g : Nat} {t : TypeId} {cs : Array Value} (h : Blk w g t cs) (ht : s.T g < 2) (hs : Stp w s w' s') : Blk w' g t cs := Blk.chg h hs.chg (by omega)

/-- blocks that are the net's own, or the caller's, have changed -/
theorem NetOk.mk' {w w' : World} {F : NF} {s s' : NS} {S : Nat → Prop} (h : NetOk w F s) (hc : Chg S w w') (hS : ∀ k, S k → s.T k ≠ 0) (hz : ∀ k, k < w.heap.size → s'.T k = s.T k) (hnew : ∀ k, w'.heap.size ≤ k → s'.T k = 0)
    (hX : Arr w' F.gX F.es.length (fun i => rowOf F.b.length (s'.x i))) (hD : Arr w' F.gD F.es.length (fun i => rowOf F.b.length (s'.d i))) (hV : Arr w' F.gV F.es.length (fun i => rowOf F.b.length (s'.v i)))
    (dr : ∀ i g, s'.d i = some g → s'.T g = 5 + 3 * i ∧ Arr w' g (F.b.length + 1) (fun a => .bool (s'.kn i a)))
    (xr : ∀ i x g, F.es[i]? = some x → s'.x i = some g → s'.T g = 6 + 3 * i ∧ ∃ f, Arr w' g (F.b.length + 1) f ∧ EndsRow w' F s'.T (s'.kn i) x f)
    (vr : ∀ i g, s'.v i = some g → s'.T g = 7 + 3 * i ∧ Arr w' g (F.b.length + 1) (fun a => .int .i64 (s'.lv i a : Int))) (dx : ∀ i, s'.d i = none ↔ s'.x i = none) : NetOk w' F s' := by
  have hsz := hc.size
  have cl : ∀ g, g < w.heap.size → s.T g = 0 → ∀ j, w'.cell? ⟨g, j, none⟩ = w.cell? ⟨g, j, none⟩ := fun g hg ht j => by
    unfold World.cell?
    rw [hc.block g hg fun e => hS g e ht]
  have iv : ∀ {u : Value} {l : List Nat}, IntsV w (fun g => s.T g = 0) u l → IntsV w' (fun g => s'.T g = 0) u l := fun hi => hi.keep hc fun g hg hlt => ⟨fun e => hS g e hg, by rw [hz g hlt]; exact hg⟩
  have w0z := h.c0.size
  constructor
  · exact h.c0.then_ hc fun k hk e => by have := h.low k (hS k e); omega
  · intro k hk
    rcases Nat.lt_or_ge k w.heap.size with q | q
    · exact h.low k (by rw [← hz k q]; exact hk)
    · omega
  · exact hnew
  · exact h.m.chg hc fun e => hS _ e h.tm
  · exact (hz _ h.m.lt).trans h.tm
  · exact Nat.lt_of_lt_of_le h.zE hsz
  · exact Nat.lt_of_lt_of_le h.zK hsz
  · exact (hz _ h.zE).trans h.tE
  · exact (hz _ h.zK).trans h.tK
  · exact (hz _ h.X.1).trans h.tX
  · exact (hz _ h.D.1).trans h.tD
  · exact (hz _ h.V.1).trans h.tV
  · intro i x hx
    obtain ⟨A, c, h0, h1, h2, h3, h4, h5⟩ := h.E i x hx
    have := fun j => cl F.gE h.zE h.tE j
    exact ⟨A, c, by rw [this]; exact h0, by rw [this]; exact h1, by rw [this]; exact h2, by rw [this]; exact h3, by rw [this]; exact h4, by rw [this]; exact h5⟩
  · intro i l hl
    obtain ⟨u, h1, h2⟩ := h.K i l hl
    exact ⟨u, by rw [cl F.gK h.zK h.tK]; exact h1, iv h2⟩
  · exact hX
  · exact hD
  · exact hV
  · exact dr
  · exact xr
  · exact vr
  · exact dx
theorem IntsV.to {w w' : World} {s s' : NS} {S : Nat → Prop} {u : Value} {l : List Nat} (hi : IntsV w (fun g => s.T g = 0) u l) (hc : Chg S w w') (hS : ∀ k, S k → s.T k ≠ 0) (hz : ∀ k, k < w.heap.size → s'.T k = s.T k) : IntsV w' (fun g => s'.T g = 0) u l :=
  hi.keep hc fun g hg hlt => ⟨fun e => hS g e hg, by rw [hz g hlt]; exact hg⟩
theorem EndsRow.to {w w' : World} {F : NF} {s s' : NS} {S : Nat → Prop} {kn : Nat → Bool} {x : Ex} {f : Nat → Value} (h : EndsRow w F s.T kn x f) (hc : Chg S w w') (hS : ∀ k, S k → s.T k ≠ 0) (hz : ∀ k, k < w.heap.size → s'.T k = s.T k) : EndsRow w' F s'.T kn x f := fun a ha hk => by
  obtain ⟨l, k1, k2⟩ := h a ha hk
  exact ⟨l, k1.to hc hS hz, k2⟩
/-- what the caller's own blocks hold may change; new blocks may be the caller's own -/
theorem NetOk.go {w w' : World} {F : NF} {s : NS} {S : Nat → Prop} (h : NetOk w F s) (hc : Chg S w w') (hS : ∀ k, S k → s.T k = 1) (T' : Nat → Nat) (hz : ∀ k, k < w.heap.size → T' k = s.T k) (hnew : ∀ k, w'.heap.size ≤ k → T' k = 0) : NetOk w' F { s with T := T' } := by
  have hS0 : ∀ k, S k → s.T k ≠ 0 := fun k e => by rw [hS k e]; omega
  have ar : ∀ {g n : Nat} {f : Nat → Value}, s.T g ≠ 1 → Arr w g n f → Arr w' g n f := fun ht ha => ha.chg hc fun e => ht (hS _ e)
  refine h.mk' (s' := { s with T := T' }) hc hS0 hz hnew (ar (by rw [h.tX]; omega) h.X) (ar (by rw [h.tD]; omega) h.D) (ar (by rw [h.tV]; omega) h.V) ?_ ?_ ?_ h.dx
  · intro i g hg
    obtain ⟨h1, h2⟩ := h.dr i g hg
    exact ⟨(hz g h2.1).trans h1, ar (by omega) h2⟩
  · intro i x g hx hg
    obtain ⟨h1, f, h2, h3⟩ := h.xr i x g hx hg
    exact ⟨(hz g h2.1).trans h1, f, ar (by omega) h2, EndsRow.to (s' := { s with T := T' }) h3 hc hS0 hz⟩
  · intro i g hg
    obtain ⟨h1, h2⟩ := h.vr i g hg
    exact ⟨(hz g h2.1).trans h1, ar (by omega) h2⟩
theorem NetOk.keep {w w' : World} {F : NF} {s : NS} {S : Nat → Prop} (h : NetOk w F s) (hc : Chg S w w') (hS : ∀ k, S k → s.T k = 1) : NetOk w' F s := h.go hc hS s.T (fun _ _ => rfl) fun k hk => h.new k (by have := hc.size; omega)
theorem NetOk.keepNo {w w' : World} {F : NF} {s : NS} (h : NetOk w F s) (hc : Chg No w w') : NetOk w' F s := h.keep hc fun _ e => e.elim
/-- a block of the caller's own -/
def NS.own (s : NS) (g : Nat) : NS := { s with T := upd s.T g 1 }
theorem NetOk.mine {w w' : World} {F : NF} {s : NS} (h : NetOk w F s) (hc : Chg No w w') (hw : w'.heap.size = w.heap.size + 1) : NetOk w' F (s.own w.heap.size) ∧ Stp w s w' (s.own w.heap.size) ∧ (s.own w.heap.size).T w.heap.size = 1 := by
  refine ⟨h.go hc (fun _ e => e.elim) _ (fun k hk => upd_ne _ _ (by omega)) fun k hk => ?_, ⟨hc.mono fun _ _ e => e.elim, fun k hk => upd_ne _ _ (by omega), fun _ h => h, fun _ h => h⟩, upd_same _ _ _⟩
  rw [upd_ne _ _ (by omega)]
  exact h.new k (by omega)
/-- the caller's own blocks have changed: also a step -/
theorem Stp.mine {w0 w w' : World} {s0 s : NS} {S : Nat → Prop} (h : Stp w0 s0 w s) (hc : Chg S w w') (hS : ∀ k, S k → w0.heap.size ≤ k) : Stp w0 s0 w' s :=
  ⟨h.chg.then_ hc fun k hk e => by have := hS k e; omega, h.T, h.d, h.v⟩
theorem Stp.no {w0 w w' : World} {s0 s : NS} (h : Stp w0 s0 w s) (hc : Chg No w w') : Stp w0 s0 w' s := h.mine hc fun _ e => e.elim

/-- a value's places are known now -/
theorem NetOk.know {w w' : World} {F : NF} {s : NS} (h : NetOk w F s) {i gd gx a : Nat} {x : Ex} {f : Nat → Value} {v : Value} {l : List Nat} (hi : F.es[i]? = some x) (hd : s.d i = some gd) (hx : s.x i = some gx) (hc : Chg (fun k => k = gd ∨ k = gx) w w')
    (hf : EndsRow w F s.T (s.kn i) x f) (hD : Arr w' gd (F.b.length + 1) (fun j => if j = a then .bool true else .bool (s.kn i j))) (hX : Arr w' gx (F.b.length + 1) (fun j => if j = a then v else f j)) (hl : IntsV w (fun g => s.T g = 0) v l) (hp : Pls (At (Lang x) F.b a) l) :
    NetOk w' F { s with kn := upd s.kn i (upd (s.kn i) a true) } := by
  obtain ⟨td, _⟩ := h.dr i gd hd
  obtain ⟨tx, _⟩ := h.xr i x gx hi hx
  have hS : ∀ k, (k = gd ∨ k = gx) → s.T k ≠ 0 := by rintro k (rfl | rfl) <;> omega
  have ar : ∀ {g n : Nat} {f : Nat → Value}, s.T g ≠ 5 + 3 * i → s.T g ≠ 6 + 3 * i → Arr w g n f → Arr w' g n f := fun h1 h2 ha => ha.chg hc (by rintro (rfl | rfl) <;> omega)
  have hnew : ∀ k, w'.heap.size ≤ k → s.T k = 0 := fun k hk => h.new k (by have := hc.size; omega)
  refine h.mk' (s' := { s with kn := upd s.kn i (upd (s.kn i) a true) }) hc hS (fun _ _ => rfl) hnew (ar (by rw [h.tX]; omega) (by rw [h.tX]; omega) h.X) (ar (by rw [h.tD]; omega) (by rw [h.tD]; omega) h.D) (ar (by rw [h.tV]; omega) (by rw [h.tV]; omega) h.V) ?_ ?_ ?_ h.dx
  · intro j g hg
    by_cases e : j = i
    · subst e
      obtain rfl : gd = g := by rw [hd] at hg; exact Option.some.inj hg
      refine ⟨td, hD.congr fun k _ => ?_⟩
      simp only [upd, if_true]
      split <;> simp_all
    · obtain ⟨h1, h2⟩ := h.dr j g hg
      refine ⟨h1, (ar (by omega) (by omega) h2).congr fun k _ => ?_⟩
      simp only [upd, if_neg e]
  · intro j y g hy hg
    by_cases e : j = i
    · subst e
      obtain rfl : gx = g := by rw [hx] at hg; exact Option.some.inj hg
      obtain rfl : x = y := by rw [hi] at hy; exact Option.some.inj hy
      refine ⟨tx, _, hX, fun b hb hk => ?_⟩
      by_cases eb : b = a
      · subst eb
        exact ⟨l, by simpa using hl.to (s' := s) hc hS (fun _ _ => rfl), hp⟩
      · simp only [upd, if_true, if_neg eb] at hk
        obtain ⟨l', k1, k2⟩ := hf b hb hk
        exact ⟨l', by simpa [eb] using k1.to (s' := s) hc hS (fun _ _ => rfl), k2⟩
    · obtain ⟨h1, f', h2, h3⟩ := h.xr j y g hy hg
      refine ⟨h1, f', ar (by omega) (by omega) h2, fun b hb hk => ?_⟩
      simp only [upd, if_neg e] at hk
      obtain ⟨l', k1, k2⟩ := h3 b hb hk
      exact ⟨l', k1.to (s' := s) hc hS (fun _ _ => rfl), k2⟩
  · intro j g hg
    obtain ⟨h1, h2⟩ := h.vr j g hg
    exact ⟨h1, ar (by omega) (by omega) h2⟩
/-- rows for a value: nothing is known -/
theorem NetOk.rows {w w' : World} {F : NF} {s : NS} (h : NetOk w F s) {i g1 g2 : Nat} (hi : i < F.es.length) (hd : s.d i = none) (hc : Chg (fun k => k = F.gD ∨ k = F.gX) w w') (hg1 : w.heap.size ≤ g1) (hg2 : w.heap.size ≤ g2) (hne : g1 ≠ g2)
    (hD : Arr w' F.gD F.es.length (fun j => if j = i then rowOf F.b.length (some g1) else rowOf F.b.length (s.d j))) (hX : Arr w' F.gX F.es.length (fun j => if j = i then rowOf F.b.length (some g2) else rowOf F.b.length (s.x j)))
    (h1 : Arr w' g1 (F.b.length + 1) (fun _ => .bool false)) (h2 : Arr w' g2 (F.b.length + 1) (fun _ => .slice none 0 0)) :
    NetOk w' F { s with T := upd (upd s.T g1 (5 + 3 * i)) g2 (6 + 3 * i), d := upd s.d i (some g1), x := upd s.x i (some g2), kn := upd s.kn i (fun _ => false) } := by
  have hsz := hc.size
  have hS : ∀ k, (k = F.gD ∨ k = F.gX) → s.T k ≠ 0 := by
    rintro k (rfl | rfl)
    · rw [h.tD]; omega
    · rw [h.tX]; omega
  have hz : ∀ k, k < w.heap.size → upd (upd s.T g1 (5 + 3 * i)) g2 (6 + 3 * i) k = s.T k := fun k hk => by rw [upd_ne _ _ (by omega), upd_ne _ _ (by omega)]
  have ar : ∀ {g n : Nat} {f : Nat → Value}, s.T g ≠ 2 → s.T g ≠ 3 → Arr w g n f → Arr w' g n f := fun h1 h2 ha => ha.chg hc (by
    rintro (rfl | rfl)
    · exact h2 h.tD
    · exact h1 h.tX)
  have hnew : ∀ k, w'.heap.size ≤ k → upd (upd s.T g1 (5 + 3 * i)) g2 (6 + 3 * i) k = 0 := fun k hk => by
    have := h1.1
    have := h2.1
    rw [upd_ne _ _ (by omega), upd_ne _ _ (by omega)]
    exact h.new k (by omega)
  refine h.mk' hc hS hz hnew (hX.congr fun j _ => ?_) (hD.congr fun j _ => ?_) (ar (by rw [h.tV]; omega) (by rw [h.tV]; omega) h.V) ?_ ?_ ?_ ?_
  · simp only [upd]; split <;> rfl
  · simp only [upd]; split <;> rfl
  · intro j g hg
    by_cases e : j = i
    · subst e
      obtain rfl : g1 = g := by simp only [upd, if_true] at hg; exact Option.some.inj hg
      refine ⟨(upd_ne _ _ hne).trans (upd_same _ _ _), h1.congr fun k _ => ?_⟩
      simp only [upd, if_true]
    · simp only [upd, if_neg e] at hg
      obtain ⟨k1, k2⟩ := h.dr j g hg
      refine ⟨(hz g k2.1).trans k1, (ar (by omega) (by omega) k2).congr fun k _ => ?_⟩
      simp only [upd, if_neg e]
  · intro j y g hy hg
    by_cases e : j = i
    · subst e
      obtain rfl : g2 = g := by simp only [upd, if_true] at hg; exact Option.some.inj hg
      refine ⟨upd_same _ _ _, _, h2, fun b _ hk => ?_⟩
      simp only [upd, if_true] at hk
      cases hk
    · simp only [upd, if_neg e] at hg
      obtain ⟨k1, f', k2, k3⟩ := h.xr j y g hy hg
      refine ⟨(hz g k2.1).trans k1, f', ar (by omega) (by omega) k2, fun b hb hk => ?_⟩
      simp only [upd, if_neg e] at hk
      obtain ⟨l', q1, q2⟩ := k3 b hb hk
      exact ⟨l', q1.keep hc fun g hg hlt => ⟨fun e => hS g e hg, (hz g hlt).trans hg⟩, q2⟩
  · intro j g hg
    obtain ⟨k1, k2⟩ := h.vr j g hg
    exact ⟨(hz g k2.1).trans k1, ar (by omega) (by omega) k2⟩
  · intro j
    by_cases e : j = i
    · subst e
      simp [upd]
    · simp only [upd, if_neg e]; exact h.dx j
end Go.Proofs.YticipgjbgcdccaaDoor
namespace Go.Proofs.YticipgjbgcdccaaDoor
open Go.RowKit

mutual
/-- a value and all below it, each with its number -/
def TreeAt (es : List Ex) (ks : List (List Nat)) : Ex → Nat → Prop
  | .mk k f t a b l, i => es[i]? = some (.mk k f t a b l) ∧ ∃ ids, ks[i]? = some ids ∧ TreesAt es ks l (i + 1) ids
def TreesAt (es : List Ex) (ks : List (List Nat)) : List Ex → Nat → List Nat → Prop
  | [], _, ids => ids = []
  | x :: xs, lo, ids => ∃ rest, ids = lo :: rest ∧ TreeAt es ks x lo ∧ TreesAt es ks xs (lo + nodesP x) rest
end
theorem TreeAt.node {es : List Ex} {ks : List (List Nat)} {x : Ex} {i : Nat} (h : TreeAt es ks x i) : es[i]? = some x := by
  cases x; unfold TreeAt at h; exact h.1
theorem TreeAt.kids {es : List Ex} {ks : List (List Nat)} {x : Ex} {i : Nat} (h : TreeAt es ks x i) : ∃ ids, ks[i]? = some ids ∧ TreesAt es ks x.l (i + 1) ids := by
  cases x; unfold TreeAt at h; exact h.2
theorem TreesAt.len {es : List Ex} {ks : List (List Nat)} : ∀ {l : List Ex} {lo : Nat} {ids : List Nat}, TreesAt es ks l lo ids → ids.length = l.length
  | [], _, ids, h => by unfold TreesAt at h; rw [h]; rfl
  | x :: xs, lo, ids, h => by
    unfold TreesAt at h
    obtain ⟨rest, rfl, _, h⟩ := h
    simp [TreesAt.len h]
theorem TreesAt.get {es : List Ex} {ks : List (List Nat)} : ∀ {l : List Ex} {lo : Nat} {ids : List Nat}, TreesAt es ks l lo ids → ∀ (k : Nat) (y : Ex), l[k]? = some y → ∃ j, ids[k]? = some j ∧ TreeAt es ks y j ∧ lo ≤ j ∧ j + nodesP y ≤ lo + nodesS l
  | [], _, _, _, k, y, hy => by simp at hy
  | x :: xs, lo, ids, h, k, y, hy => by
    unfold TreesAt at h
    obtain ⟨rest, rfl, h1, h2⟩ := h
    have e : nodesS (x :: xs) = nodesP x + nodesS xs := by conv => lhs; unfold nodesS
    cases k with
    | zero =>
      obtain rfl : x = y := by simpa using hy
      exact ⟨lo, rfl, h1, Nat.le_refl _, by omega⟩
    | succ k =>
      obtain ⟨j, k1, k2, k3, k4⟩ := TreesAt.get h2 k y (by simpa using hy)
      exact ⟨j, by simpa using k1, k2, by omega, by omega⟩

/-- what a net is of -/
structure NFok (F : NF) : Prop where
  B : Byt F.w0 F.B F.b.length F.cb F.b
  n : F.b.length ≤ 262144
  e : F.es.length ≤ 4096
/-- what a question of the net leaves -/
def NPost (F : NF) (w : World) (s : NS) (P : Nat → Prop) (e : Ending) (w' : World) : Prop :=
  ∃ u l s', e = .returned u ∧ NetOk w' F s' ∧ Stp w s w' s' ∧ s'.lv = s.lv ∧ s'.v = s.v ∧ IntsV w' (fun g => s'.T g = 0) u l ∧ Pls P l
def EndsC (F : NF) (x : Ex) : Prop := ∀ (i a : Nat) (w : World) (s : NS), NetOk w F s → TreeAt F.es F.ks x i → a ≤ F.b.length →
  Calls Tryd.prog 62 #[.pointer (some ⟨F.m, 0, none⟩), .int .i64 (i : Int), .int .i64 (a : Int)] w fun e w' => NPost F w s (At (Lang x) F.b a) e w'
def StepC (F : NF) (x : Ex) : Prop := ∀ (i : Nat) (u : Value) (l : List Nat) (P : Nat → Prop) (w : World) (s : NS), NetOk w F s → TreeAt F.es F.ks x i → IntsV w (fun g => s.T g ≤ 1) u l → (∀ j, j ∈ l ↔ P j) → (∀ j, P j → j ≤ F.b.length) → l.length ≤ 300000 →
  Calls Tryd.prog 97 #[.pointer (some ⟨F.m, 0, none⟩), .int .i64 (i : Int), u] w fun e w' => NPost F w s (St (Lang x) F.b P) e w'
theorem Pls.le {L : List Nat → Prop} {b : List Nat} {a : Nat} {l : List Nat} (h : Pls (At L b a) l) : ∀ j ∈ l, j ≤ b.length := fun j hj => ((h.2 j).1 hj).le
theorem rise_len : ∀ (l : List Nat) (n : Nat), l.Pairwise (· < ·) → (∀ j ∈ l, j ≤ n) → l.length ≤ n + 1
  | [], n, _, _ => by simp
  | x :: xs, n, h, hn => by
    rw [List.pairwise_cons] at h
    have hx := hn x (by simp)
    rcases Nat.eq_zero_or_pos xs.length with q | q
    · simp; omega
    · have h1 : ∀ (ys : List Nat) (lo : Nat), ys.Pairwise (· < ·) → (∀ j ∈ ys, lo ≤ j ∧ j ≤ n) → ys.length ≤ n + 1 - lo := by
        intro ys
        induction ys with
        | nil => intro lo _ _; simp
        | cons y ys ih =>
          intro lo hp hb
          rw [List.pairwise_cons] at hp
          have := ih (y + 1) hp.2 fun j hj => ⟨hp.1 j hj, (hb j (by simp [hj])).2⟩
          have := hb y (by simp)
          simp; omega
      have := h1 (x :: xs) 0 (List.pairwise_cons.2 h) fun j hj => ⟨by omega, hn j hj⟩
      omega
theorem Pls.len {P : Nat → Prop} {n : Nat} {l : List Nat} (h : Pls P l) (hP : ∀ j, P j → j ≤ n) : l.length ≤ n + 1 := rise_len l n h.1 fun j hj => hP j ((h.2 j).1 hj)
theorem IntsV.imp {w : World} {p q : Nat → Prop} {u : Value} {l : List Nat} (h : IntsV w p u l) (hp : ∀ g, p g → q g) : IntsV w q u l := h.keep (S := No) (Chg.refl _ _) fun g hg _ => ⟨id, hp g hg⟩

set_option maxHeartbeats 2000000 in
set_option maxRecDepth 100000 in
theorem step_of (F : NF) (hF : NFok F) (x : Ex) (hE : EndsC F x) : StepC F x := by
  intro i u l P w s h ht hu hP hle hlen
  obtain ⟨A, c, rfl, hc1, hc2⟩ := hu.form
  by_cases h1 : l.length = 1
  · obtain ⟨a, rfl⟩ := List.length_eq_one_iff.1 h1
    obtain ⟨g, o, c', e1, z⟩ := hu.cell (i := 0) (by simp)
    cases e1
    simp only [List.length_singleton, List.getElem_cons_zero, Nat.add_zero] at z hc1 ⊢
    have hPa : ∀ j, P j ↔ j = a := fun j => by rw [← hP j]; simp
    have hq : ∀ j, At (Lang x) F.b a j ↔ St (Lang x) F.b P j := fun j => by
      rw [← St_one]; exact St_congr (fun k => (hPa k).symm) j
    have HA := Lib.hid (hE i a w s h ht (hle a ((hPa a).2 rfl)))
    clear hu h ht hE
    go_enter Tryd.func97, Tryd.ntmps97
    go_wp2_with fail
    refine HA.out.mono ?_
    rintro e w1 ⟨u1, l1, s1, rfl, k1, k2, k3, k4, k5, k6⟩
    go_wp2
    go_ret
    exact ⟨u1, l1, s1, rfl, k1, k2, k3, k4, k5, k6.congr hq⟩
  · have hn1 : ((l.length : Int) == 1) = false := by simp; omega
    obtain ⟨y0, y1, y2, y3, y4, y5⟩ := (⟨h.m.cell 0, h.m.cell 1, h.m.cell 2, h.m.cell 3, h.m.cell 4, h.m.cell 5⟩ : _ ∧ _ ∧ _ ∧ _ ∧ _ ∧ _)
    simp only [List.getElem?_toArray, List.getElem?_cons_zero, List.getElem?_cons_succ] at y0 y1 y2 y3 y4 y5
    have hmk := fun w => make_bools w F.b.length (by have := hF.n; omega)
    have hmine := h.mine (w' := w.alloc (.cells (madeCells #[.bool false] (F.b.length + 1)) 4)) ((Chg.refl _ _).alloc _) (by simp)
    have hrow := World.rowIs_made w (.bool false) (F.b.length + 1) 4
    obtain ⟨m1, m2, m3⟩ := hmine
    have HI : Hid (NetOk (w.alloc (.cells (madeCells #[.bool false] (F.b.length + 1)) 4)) F (s.own w.heap.size) ∧ Stp w s (w.alloc (.cells (madeCells #[.bool false] (F.b.length + 1)) 4)) (s.own w.heap.size) ∧ (s.own w.heap.size).T w.heap.size = 1 ∧ (w.alloc (.cells (madeCells #[.bool false] (F.b.length + 1)) 4)).rowIs w.heap.size 4 (F.b.length + 1) (fun _ => .bool false)) := Lib.hid ⟨m1, m2, m3, hrow⟩
    have HU := Lib.hid hu
    have hn9 := hF.n
    clear m1 m2 m3 hrow hu h
    go_enter Tryd.func97, Tryd.ntmps97
    go_wp2
    obtain ⟨G, hG⟩ : ∃ G, w.heap.size = G := ⟨_, rfl⟩
    simp only [hG] at HI ⊢
    go_loopw [8] (fun v8 wr => ∃ (k : Nat) (s' : NS) (f : Nat → Bool), k ≤ l.length ∧ v8 = .int .i64 (k : Int) ∧ NetOk wr F s' ∧ Stp w s wr s' ∧ s'.lv = s.lv ∧ s'.v = s.v ∧ s'.T G = 1 ∧ wr.rowIs G 4 (F.b.length + 1) (fun j => .bool (f j)) ∧ Hid (∀ j, j ≤ F.b.length → (f j = true ↔ ∃ a, a ∈ l.take k ∧ At (Lang x) F.b a j))) (fun v _ => l.length - (intOf v).toNat)
    case atStart => exact ⟨0, s.own G, fun _ => false, by omega, rfl, HI.out.1, HI.out.2.1, rfl, rfl, HI.out.2.2.1, HI.out.2.2.2, Lib.hid fun j _ => by simp⟩
    case round =>
      obtain ⟨k, s', f, hk, rfl, hN, hS, hlv, hv, hT, hR, HF⟩ := hrel
      clear y0 y1 y2 y3 y4 y5 HI
      by_cases hlt : k < l.length
      · have hu2 := HU.out.stp (c := 1) (by omega) hS
        obtain ⟨g, o, c', e1, z⟩ := hu2.cell hlt
        cases e1
        have HA := Lib.hid (hE i l[k] wr s' hN ht (hle _ ((hP _).1 (List.getElem_mem hlt))))
        obtain ⟨a, ha⟩ : ∃ a, l[k] = a := ⟨_, rfl⟩
        have hta : l.take (k + 1) = l.take k ++ [a] := by rw [List.take_succ_eq_append_getElem hlt, ha]
        have HTA := Lib.hid hta
        rw [ha] at z HA
        clear hta ha hN hu2
        go_wp2_with fail
        refine HA.out.mono ?_
        rintro e w2 ⟨u2, l2, s2, rfl, k1, k2, k3, k4, k5, k6⟩
        obtain ⟨A2, c2, rfl, hd1, hd2⟩ := k5.form
        have hle2 := k6.le
        have hT2 : s2.T G = 1 := (k2.T G hR.lt).trans hT
        have hR2 := rowIs_stp hR (by omega) k2
        have HL := Lib.hid k5
        have H6 := Lib.hid k6
        clear k5 k6 hR
        go_wp2
        go_loopw [10] (fun v10 wq => ∃ (j : Nat) (f2 : Nat → Bool), j ≤ l2.length ∧ v10 = .int .i64 (j : Int) ∧ Chg (One G) w2 wq ∧ wq.rowIs G 4 (F.b.length + 1) (fun j => .bool (f2 j)) ∧ Hid (∀ q, q ≤ F.b.length → (f2 q = true ↔ f q = true ∨ q ∈ l2.take j))) (fun v _ => l2.length - (intOf v).toNat)
        case atStart => exact ⟨0, f, by omega, rfl, Chg.refl _ _, hR2, Lib.hid fun q _ => by simp⟩
        case round =>
          obtain ⟨j, f2, hj, rfl, hC, hR3, HF2⟩ := hrel
          by_cases hlt2 : j < l2.length
          · obtain ⟨g3, o3, c3, e3, z3⟩ := (HL.out.keep (p' := fun g => s2.T g = 0) hC fun g hg _ => ⟨fun e => by unfold One at e; subst e; omega, hg⟩).cell hlt2
            cases e3
            obtain ⟨q, hq⟩ : ∃ q, l2[j] = q := ⟨_, rfl⟩
            have hqn : q ≤ F.b.length := by rw [← hq]; exact hle2 _ (List.getElem_mem hlt2)
            have hcq := hR3.cell (i := q) (by omega)
            have hfq := hR3.frozen q
            have htq : l2.take (j + 1) = l2.take j ++ [q] := by rw [List.take_succ_eq_append_getElem hlt2, hq]
            have HTQ := Lib.hid htq
            have hR4 := hR3.set q (.bool true)
            have hC4 : Chg (One G) w2 (wr.setCell ⟨G, q, none⟩ (.bool true)) := hC.setCell _ fun _ => rfl
            rw [hq] at z3
            have hz0 : (0 : Int) ≤ (q : Int) := by omega
            have hz1 : (q : Int) < ((F.b.length : Int) + 1) := by omega
            clear hq htq
            go_wp2
            refine ⟨⟨j + 1, upd f2 q true, by omega, by go_num, hC4, hR4.congr fun r _ => ?_, Lib.hid fun r hr => ?_⟩, by simp [intOf]; omega⟩
            · unfold upd; split <;> rfl
            · rw [HTQ.out, List.mem_append, List.mem_singleton]
              unfold upd
              by_cases e : r = q
              · simp [e]
              · rw [if_neg e, HF2.out r hr]; simp [e]
          · obtain rfl : j = l2.length := by omega
            have hN3 := k1.keep hC fun g e => by unfold One at e; subst e; exact hT2
            have hS3 : Stp w s wr s2 := (hS.trans k2).mine hC fun g e => by unfold One at e; omega
            go_wp2
            refine ⟨⟨k + 1, s2, f2, by omega, by go_num, hN3, hS3, k3.trans hlv, k4.trans hv, hT2, hR3, Lib.hid fun r hr => ?_⟩, by simp [intOf]; omega⟩
            rw [HF2.out r hr, List.take_length, HF.out r hr, HTA.out, H6.out.2 r]
            constructor
            · rintro (⟨a', h1, h2⟩ | h1)
              · exact ⟨a', by simp [h1], h2⟩
              · exact ⟨a, by simp, h1⟩
            · rintro ⟨a', h1, h2⟩
              rcases List.mem_append.1 h1 with h3 | h3
              · exact .inl ⟨a', h3, h2⟩
              · obtain rfl : a' = a := by simpa using h3
                exact .inr h2
      · obtain rfl : k = l.length := by omega
        have hmk := marked_any wr G (F.b.length + 1) (F.b.length + 1) f hR (by omega) (by omega)
        go_wp2_with fail
        refine hmk.mono ?_
        rintro e w3 ⟨v, rfl, hO, hC3⟩
        have hN3 := hN.keepNo hC3
        have hS3 := hS.no hC3
        go_wp2
        go_ret
        refine ⟨v, _, s', rfl, hN3, hS3, hlv, hv, hO.ints.imp fun g hg => hN.new g hg, markedL_rise _ _, fun j => ?_⟩
        rw [markedL_mem]
        constructor
        · rintro ⟨h2, h3⟩
          obtain ⟨a, h4, h5⟩ := (HF.out j (by omega)).1 h3
          rw [List.take_length] at h4
          exact ⟨a, (hP a).1 h4, h5⟩
        · rintro ⟨a, h4, h5⟩
          refine ⟨by have := h5.le; omega, (HF.out j h5.le).2 ⟨a, ?_, h5⟩⟩
          rw [List.take_length]; exact (hP a).2 h4
end Go.Proofs.YticipgjbgcdccaaDoor
namespace Go.Proofs.YticipgjbgcdccaaDoor
open Go.RowKit

/-- the cells of a net's block -/
theorem NetOk.cells {w : World} {F : NF} {s : NS} (h : NetOk w F s) : w.cell? ⟨F.m, 0, none⟩ = some (.slice F.B F.b.length F.cb) ∧ w.cell? ⟨F.m, 1, none⟩ = some (.slice (some ⟨F.gE, 0, none⟩) F.es.length F.cE) ∧ w.cell? ⟨F.m, 2, none⟩ = some (.slice (some ⟨F.gK, 0, none⟩) F.es.length F.cK) ∧
    w.cell? ⟨F.m, 3, none⟩ = some (.slice (some ⟨F.gX, 0, none⟩) F.es.length F.cX) ∧ w.cell? ⟨F.m, 4, none⟩ = some (.slice (some ⟨F.gD, 0, none⟩) F.es.length F.cD) ∧ w.cell? ⟨F.m, 5, none⟩ = some (.slice (some ⟨F.gV, 0, none⟩) F.es.length F.cV) :=
  ⟨(h.m.cell 0).trans rfl, (h.m.cell 1).trans rfl, (h.m.cell 2).trans rfl, (h.m.cell 3).trans rfl, (h.m.cell 4).trans rfl, (h.m.cell 5).trans rfl⟩
theorem TreeAt.lt {F : NF} {x : Ex} {i : Nat} (h : TreeAt F.es F.ks x i) : i < F.es.length := (List.getElem?_eq_some_iff.1 h.node).1
/-- a value's kids in memory -/
theorem NetOk.kids {w : World} {F : NF} {s : NS} (h : NetOk w F s) {x : Ex} {i : Nat} (ht : TreeAt F.es F.ks x i) : ∃ ids A c, w.cell? ⟨F.gK, i, none⟩ = some (.slice A x.l.length c) ∧ TreesAt F.es F.ks x.l (i + 1) ids ∧ ids.length = x.l.length ∧ IntsV w (fun g => s.T g = 0) (.slice A x.l.length c) ids := by
  obtain ⟨ids, h1, h2⟩ := ht.kids
  obtain ⟨u, h3, h4⟩ := h.K i ids h1
  have hl := h2.len
  obtain ⟨A, c, rfl, h5, h6⟩ := h4.form
  rw [hl] at h3 h4
  exact ⟨ids, A, c, h3, h2, hl, h4⟩

def MPost (F : NF) (w : World) (s : NS) (P : Nat → Prop) (e : Ending) (w' : World) : Prop :=
  ∃ u' l s', e = .returned u' ∧ NetOk w' F s' ∧ Stp w s w' s' ∧ s'.lv = s.lv ∧ s'.v = s.v ∧ IntsV w' (fun g => s'.T g = 0) u' l ∧ (∀ j, j ∈ l ↔ P j) ∧ l.length ≤ F.b.length + 1
def MustC (F : NF) (f t mn mx : Int) (y : Ex) : Prop := ∀ (i a : Nat) (u : Value) (w : World) (s : NS), NetOk w F s → TreeAt F.es F.ks (.mk 4 f t mn mx [y]) i → IntsV w (fun g => s.T g = 0) u [a] → a ≤ F.b.length →
  Calls Tryd.prog 99 #[.pointer (some ⟨F.m, 0, none⟩), .int .i64 (i : Int), u] w fun e w' => MPost F w s (Pw (Lang y) F.b (fun x => x = a) mn.toNat) e w'

set_option maxHeartbeats 2000000 in
set_option maxRecDepth 100000 in
theorem must_of (F : NF) (hF : NFok F) (f t mn mx : Int) (y : Ex) (hmn : 0 ≤ mn ∧ mn ≤ 1000) (hS : StepC F y) : MustC F f t mn mx y := by
  intro i a u w s h ht hu ha
  obtain ⟨hm0, hm1⟩ := hmn
  have hil : i < F.es.length := ht.lt
  have hn9 := hF.n
  have hPa : ∀ k j, Pw (Lang y) F.b (fun x => x = a) k j → j ≤ F.b.length := fun k j hp => Pw_le (fun x hx => by omega) k hp
  have HI : Hid (NetOk w F s ∧ IntsV w (fun g => s.T g = 0) u [a]) := Lib.hid ⟨h, hu⟩
  clear h hu
  go_enter Tryd.func99, Tryd.ntmps99
  go_wp2
  go_loopw [2, 7] (fun v2 v7 wr => ∃ (k : Nat) (l : List Nat) (s' : NS), k ≤ mn.toNat ∧ v7 = .int .i64 (k : Int) ∧ NetOk wr F s' ∧ Stp w s wr s' ∧ s'.lv = s.lv ∧ s'.v = s.v ∧ IntsV wr (fun g => s'.T g = 0) v2 l ∧ l.length ≤ F.b.length + 1 ∧ Hid (∀ j, j ∈ l ↔ Pw (Lang y) F.b (fun x => x = a) k j)) (fun _ v _ => mn.toNat - (intOf v).toNat)
  case atStart => exact ⟨0, [a], s, by omega, rfl, HI.out.1, Stp.refl _ _, rfl, rfl, HI.out.2, by simp, Lib.hid fun j => by simp [Pw]⟩
  case round =>
    obtain ⟨k, l, s', hk, rfl, hN, hSt, hlv, hv, hL, hlen, HP⟩ := hrel
    clear HI
    obtain ⟨A, c, rfl, hc1, hc2⟩ := hL.form
    obtain ⟨y0, y1, y2, y3, y4, y5⟩ := hN.cells
    obtain ⟨Ae, ce, e0, e1, e2, e3, e4, e5⟩ := hN.E i _ ht.node
    simp only [Ex.a] at e3
    have HL := Lib.hid hL
    have hz0 : (0 : Int) ≤ (i : Int) := by omega
    clear hL e0 e1 e2 e4 e5
    by_cases q1 : (k : Int) < mn
    rotate_left
    · have hkm : k = mn.toNat := by omega
      go_wp2
      go_ret
      exact ⟨_, l, s', rfl, hN, hSt, hlv, hv, HL.out, fun j => by rw [← hkm]; exact HP.out j, hlen⟩
    · by_cases q2 : l = []
      · have q3 : ¬ (l.length : Int) > 0 := by rw [q2]; simp
        have Q2 := Lib.hid q2
        clear q2
        go_wp2
        go_ret
        refine ⟨_, l, s', rfl, hN, hSt, hlv, hv, HL.out, fun j => ?_, hlen⟩
        have hno : ∀ j, ¬ Pw (Lang y) F.b (fun x => x = a) k j := fun j hp => by have := (HP.out j).2 hp; rw [Q2.out] at this; simp at this
        have := Pw_none hno (mn.toNat - k) j
        rw [show k + (mn.toNat - k) = mn.toNat by omega] at this
        rw [Q2.out]; simp [this]
      · have q3 : (l.length : Int) > 0 := by
          have := List.length_pos_iff.2 q2
          omega
        obtain ⟨ids, Ak, ck, z0, hT, hids, hKI⟩ := hN.kids ht
        obtain ⟨j0, hj0, htj, _, _⟩ := hT.get 0 y rfl
        have hj0' : ∃ h : 0 < ids.length, ids[0] = j0 := List.getElem?_eq_some_iff.1 hj0
        obtain ⟨hj1, hj2⟩ := hj0'
        obtain ⟨gk, ok, ck', ek, z1⟩ := hKI.cell hj1
        have ek' := ek
        simp only [Ex.l, List.length_singleton] at z0 hids
        rw [hids] at ek'
        simp only [Ex.l, List.length_singleton] at ek'
        cases ek'
        rw [hj2, Nat.add_zero] at z1
        have HS := Lib.hid (hS j0 _ l (Pw (Lang y) F.b (fun x => x = a) k) wr s' hN htj (HL.out.imp fun g hg => by omega) HP.out (hPa k) (by omega))
        have HN := Lib.hid hN
        clear ek hKI hN hT
        go_wp2_with fail
        refine HS.out.mono ?_
        rintro e w3 ⟨u3, l3, s3, rfl, k1, k2, k3, k4, k5, k6⟩
        have hl3 := k6.len fun j hj => St_le hj
        obtain ⟨A3, c3, rfl, hd1, hd2⟩ := k5.form
        have hLs := HL.out.keep k2.chg (p' := fun g => s3.T g = 0) fun g hg hlt => ⟨by omega, by rw [k2.T g hlt]; exact hg⟩
        have HSM := Lib.hid (same_any w3 _ _ _ _ l3 l k5 hLs (by omega))
        go_wp2_with fail
        refine HSM.out.mono ?_
        rintro e w4 ⟨z, rfl, hz, hC⟩
        have hN4 := k1.keepNo hC
        have hS4 := (hSt.trans k2).no hC
        have hP3 : ∀ j, j ∈ l3 ↔ Pw (Lang y) F.b (fun x => x = a) (k + 1) j := k6.2
        cases z with
        | true =>
          go_wp2
          go_ret
          refine ⟨_, l, s3, rfl, hN4, hS4, k3.trans hlv, k4.trans hv, hLs.keep hC fun g hg _ => ⟨id, hg⟩, fun j => ?_, hlen⟩
          have e3 : l3 = l := hz (by first | rfl | trivial)
          subst e3
          have := Pw_stable (L := Lang y) (b := F.b) (P := fun x => x = a) (k := k) (fun j => (hP3 j).symm.trans (HP.out j)) (mn.toNat - k) j
          rw [show k + (mn.toNat - k) = mn.toNat by omega] at this
          rw [this]; exact HP.out j
        | false =>
          go_wp2
          exact ⟨⟨k + 1, l3, s3, by omega, by go_num, hN4, hS4, k3.trans hlv, k4.trans hv, k5.keep hC fun g hg _ => ⟨id, hg⟩, hl3, Lib.hid hP3⟩, by simp [intOf]; omega⟩
end Go.Proofs.YticipgjbgcdccaaDoor
namespace Go.Proofs.YticipgjbgcdccaaDoor
open Go.RowKit

/-- a net that is being made: what stays -/
structure BF where
  w0 : World
  gm : Nat
  B : Option Addr
  cb : Nat
  b : List Nat
/-- what grows: whose each block is (1 the net, 2 to 6 its rows), the rows' values and cells -/
structure BS where
  T : Nat → Nat
  vE : Value
  vK : Value
  vX : Value
  vD : Value
  vV : Value
  cE : List Value
  cK : List Value
  es : List Ex
  ks : List (List Nat)
  nX : Nat
  nD : Nat
  nV : Nat
def nils (n : Nat) : List Value := List.replicate n (.slice none 0 0)
theorem nils_succ (n : Nat) : nils (n + 1) = nils n ++ [.slice none 0 0] := by unfold nils; rw [List.replicate_succ']
def EOk (es : List Ex) (cs : List Value) : Prop := cs.length = 6 * es.length ∧ ∀ (i : Nat) (x : Ex), es[i]? = some x → ∃ A c, cs[i * 6]? = some (.int .i64 x.k) ∧ cs[i * 6 + 1]? = some (.int .i64 x.f) ∧ cs[i * 6 + 2]? = some (.int .i64 x.t) ∧ cs[i * 6 + 3]? = some (.int .i64 x.a) ∧ cs[i * 6 + 4]? = some (.int .i64 x.b) ∧ cs[i * 6 + 5]? = some (.slice A x.l.length c)
def KOk (w : World) (T : Nat → Nat) (ks : List (List Nat)) (cs : List Value) : Prop := cs.length = ks.length ∧ ∀ (i : Nat) (l : List Nat), ks[i]? = some l → ∃ u, cs[i]? = some u ∧ IntsV w (fun g => T g = 0) u l

structure BOk (w : World) (F : BF) (s : BS) : Prop where
  c0 : Chg No F.w0 w
  low : ∀ k, s.T k ≠ 0 → F.w0.heap.size ≤ k
  new : ∀ k, w.heap.size ≤ k → s.T k = 0
  m : Blk w F.gm 122 #[.slice F.B F.b.length F.cb, s.vE, s.vK, s.vX, s.vD, s.vV]
  tm : s.T F.gm = 1
  E : w.ownsRow 0 25 6 s.vE s.es.length s.cE
  tE : ∀ k, s.vE.ownBlock = some k → s.T k = 2
  eE : EOk s.es s.cE
  K : w.ownsRow 0 88 1 s.vK s.ks.length s.cK
  tK : ∀ k, s.vK.ownBlock = some k → s.T k = 3
  eK : KOk w s.T s.ks s.cK
  X : w.ownsRow 0 118 1 s.vX s.nX (nils s.nX)
  tX : ∀ k, s.vX.ownBlock = some k → s.T k = 4
  D : w.ownsRow 0 123 1 s.vD s.nD (nils s.nD)
  tD : ∀ k, s.vD.ownBlock = some k → s.T k = 5
  V : w.ownsRow 0 88 1 s.vV s.nV (nils s.nV)
  tV : ∀ k, s.vV.ownBlock = some k → s.T k = 6

theorem ownsRow_lt {w : World} {base : Nat} {e : TypeId} {size n : Nat} {v : Value} {xs : List Value} (h : w.ownsRow base e size v n xs) : ∀ k, v.ownBlock = some k → base ≤ k ∧ k < w.heap.size := World.ownsRow.lt h
theorem ownsRow_chgS {w w' : World} {base : Nat} {e : TypeId} {size n : Nat} {v : Value} {xs : List Value} {S : Nat → Prop} (h : w.ownsRow base e size v n xs) (hc : Chg S w w') (hS : ∀ k, v.ownBlock = some k → ¬ S k) : w'.ownsRow base e size v n xs := by
  have hlt := ownsRow_lt h
  obtain ⟨h1, h2⟩ := h
  refine ⟨h1, ?_⟩
  rcases h2 with h2 | ⟨g, cap, cur, rfl, hb, hh, hr⟩
  · exact .inl h2
  · exact .inr ⟨g, cap, cur, rfl, hb, (hc.block g (hlt g rfl).2 (hS g rfl)).trans hh, hr⟩
/-- the owner of a value's block -/
def tagV (T : Nat → Nat) (v : Value) (c : Nat) : Nat → Nat := fun k => if v.ownBlock = some k then c else T k
theorem tagV_old {T : Nat → Nat} {v : Value} {c k : Nat} (h : v.ownBlock = some k → T k = c) : tagV T v c k = T k := by
  unfold tagV
  split
  · rename_i e; exact (h e).symm
  · rfl
/-- some blocks of the net have changed; each row that is not spoken of is kept -/
theorem BOk.mk' {w w' : World} {F : BF} {s s' : BS} {S : Nat → Prop} (h : BOk w F s) (hc : Chg S w w') (hS : ∀ k, S k → s.T k ≠ 0) (hz : ∀ k, k < w.heap.size → s'.T k = s.T k) (hnew : ∀ k, w'.heap.size ≤ k → s'.T k = 0)
    (hm : Blk w' F.gm 122 #[.slice F.B F.b.length F.cb, s'.vE, s'.vK, s'.vX, s'.vD, s'.vV])
    (hE : w'.ownsRow 0 25 6 s'.vE s'.es.length s'.cE) (tE : ∀ k, s'.vE.ownBlock = some k → s'.T k = 2) (eE : EOk s'.es s'.cE)
    (hK : w'.ownsRow 0 88 1 s'.vK s'.ks.length s'.cK) (tK : ∀ k, s'.vK.ownBlock = some k → s'.T k = 3) (eK : KOk w' s'.T s'.ks s'.cK)
    (hX : w'.ownsRow 0 118 1 s'.vX s'.nX (nils s'.nX)) (tX : ∀ k, s'.vX.ownBlock = some k → s'.T k = 4)
    (hD : w'.ownsRow 0 123 1 s'.vD s'.nD (nils s'.nD)) (tD : ∀ k, s'.vD.ownBlock = some k → s'.T k = 5)
    (hV : w'.ownsRow 0 88 1 s'.vV s'.nV (nils s'.nV)) (tV : ∀ k, s'.vV.ownBlock = some k → s'.T k = 6) : BOk w' F s' := by
  have w0z := h.c0.size
  refine ⟨h.c0.then_ hc fun k hk e => by have := h.low k (hS k e); omega, fun k hk => ?_, hnew, hm, (hz _ h.m.lt).trans h.tm, hE, tE, eE, hK, tK, eK, hX, tX, hD, tD, hV, tV⟩
  rcases Nat.lt_or_ge k w.heap.size with q | q
  · exact h.low k (by rw [← hz k q]; exact hk)
  · omega
theorem KOk.keep {w w' : World} {T T' : Nat → Nat} {ks : List (List Nat)} {cs : List Value} {S : Nat → Prop} (h : KOk w T ks cs) (hc : Chg S w w') (hS : ∀ k, S k → T k ≠ 0) (hz : ∀ k, k < w.heap.size → T' k = T k) : KOk w' T' ks cs :=
  ⟨h.1, fun i l hl => by
    obtain ⟨u, h1, h2⟩ := h.2 i l hl
    exact ⟨u, h1, h2.keep hc fun g hg hlt => ⟨fun e => hS g e hg, (hz g hlt).trans hg⟩⟩⟩
/-- a row with its owner is kept -/
theorem row_tag {w w' : World} {e : TypeId} {size n c : Nat} {v : Value} {xs : List Value} {S : Nat → Prop} {T T' : Nat → Nat} (h : w.ownsRow 0 e size v n xs) (ht : ∀ k, v.ownBlock = some k → T k = c) (hc : Chg S w w') (hS : ∀ k, S k → T k ≠ c) (hz : ∀ k, k < w.heap.size → T' k = T k) :
    w'.ownsRow 0 e size v n xs ∧ ∀ k, v.ownBlock = some k → T' k = c :=
  ⟨ownsRow_chgS h hc fun k hk e => hS k e (ht k hk), fun k hk => (hz k (ownsRow_lt h k hk).2).trans (ht k hk)⟩
/-- nothing of the net has changed -/
theorem BOk.keepNo {w w' : World} {F : BF} {s : BS} (h : BOk w F s) (hc : Chg No w w') : BOk w' F s := by
  have kp := fun {e : TypeId} {size n c : Nat} {v : Value} {xs : List Value} (h : w.ownsRow 0 e size v n xs) (ht : ∀ k, v.ownBlock = some k → s.T k = c) => row_tag (T' := s.T) h ht hc (fun _ e => e.elim) fun _ _ => rfl
  have hsz := hc.size
  exact h.mk' hc (fun _ e => e.elim) (fun _ _ => rfl) (fun k hk => h.new k (by omega)) (h.m.chg hc id) (kp h.E h.tE).1 h.tE h.eE (kp h.K h.tK).1 h.tK (h.eK.keep hc (fun _ e => e.elim) fun _ _ => rfl) (kp h.X h.tX).1 h.tX (kp h.D h.tD).1 h.tD (kp h.V h.tV).1 h.tV
theorem EOk.add {es : List Ex} {cs ns : List Value} {x : Ex} (h : EOk es cs) (hx : EOk [x] ns) : EOk (es ++ [x]) (cs ++ ns) := by
  obtain ⟨h1, h2⟩ := h
  obtain ⟨h3, h4⟩ := hx
  refine ⟨by simp at h3 ⊢; omega, fun i y hy => ?_⟩
  rcases Nat.lt_or_ge i es.length with q | q
  · rw [List.getElem?_append_left q] at hy
    obtain ⟨A, c, k0, k1, k2, k3, k4, k5⟩ := h2 i y hy
    exact ⟨A, c, by rw [List.getElem?_append_left (by omega)]; exact k0, by rw [List.getElem?_append_left (by omega)]; exact k1, by rw [List.getElem?_append_left (by omega)]; exact k2, by rw [List.getElem?_append_left (by omega)]; exact k3, by rw [List.getElem?_append_left (by omega)]; exact k4, by rw [List.getElem?_append_left (by omega)]; exact k5⟩
  · rw [List.getElem?_append_right q] at hy
    have hi : i = es.length := by
      have := (List.getElem?_eq_some_iff.1 hy).1
      simp at this; omega
    subst hi
    rw [Nat.sub_self] at hy
    obtain ⟨A, c, k0, k1, k2, k3, k4, k5⟩ := h4 0 y hy
    refine ⟨A, c, ?_, ?_, ?_, ?_, ?_, ?_⟩
    · rw [List.getElem?_append_right (by omega), show es.length * 6 - cs.length = 0 * 6 by omega]; exact k0
    · rw [List.getElem?_append_right (by omega), show es.length * 6 + 1 - cs.length = 0 * 6 + 1 by omega]; exact k1
    · rw [List.getElem?_append_right (by omega), show es.length * 6 + 2 - cs.length = 0 * 6 + 2 by omega]; exact k2
    · rw [List.getElem?_append_right (by omega), show es.length * 6 + 3 - cs.length = 0 * 6 + 3 by omega]; exact k3
    · rw [List.getElem?_append_right (by omega), show es.length * 6 + 4 - cs.length = 0 * 6 + 4 by omega]; exact k4
    · rw [List.getElem?_append_right (by omega), show es.length * 6 + 5 - cs.length = 0 * 6 + 5 by omega]; exact k5
theorem KOk.addNil {w : World} {T : Nat → Nat} {ks : List (List Nat)} {cs : List Value} (h : KOk w T ks cs) : KOk w T (ks ++ [[]]) (cs ++ [.slice none 0 0]) := by
  refine ⟨by simp [h.1], fun i l hl => ?_⟩
  rcases Nat.lt_or_ge i ks.length with q | q
  · rw [List.getElem?_append_left q] at hl
    obtain ⟨u, h1, h2⟩ := h.2 i l hl
    exact ⟨u, by rw [List.getElem?_append_left (by rw [h.1]; exact q)]; exact h1, h2⟩
  · rw [List.getElem?_append_right q] at hl
    have hi : i = ks.length := by
      have := (List.getElem?_eq_some_iff.1 hl).1
      simp at this; omega
    subst hi
    rw [Nat.sub_self] at hl
    obtain rfl : [] = l := by simpa using hl
    exact ⟨.slice none 0 0, by rw [List.getElem?_append_right (by rw [h.1]; exact Nat.le_refl _), h.1, Nat.sub_self]; rfl, IntsV.nil _ _⟩
/-- from one state of the making to a later one -/
structure Bst (w : World) (s : BS) (w' : World) (s' : BS) : Prop where
  chg : Chg (fun k => 1 ≤ s.T k ∧ s.T k ≤ 6) w w'
  T : ∀ k, k < w.heap.size → s'.T k = s.T k
theorem Bst.refl (w : World) (s : BS) : Bst w s w s := ⟨Chg.refl _ _, fun _ _ => rfl⟩
theorem Bst.trans {w w' w'' : World} {s s' s'' : BS} (h : Bst w s w' s') (h' : Bst w' s' w'' s'') : Bst w s w'' s'' :=
  ⟨h.chg.then_ h'.chg fun k hk e => by rw [h.T k hk] at e; exact e, fun k hk => (h'.T k (Nat.lt_of_lt_of_le hk h.chg.size)).trans (h.T k hk)⟩
/-- an append to row E, its value stored -/
theorem BOk.addE {w w5 : World} {F : BF} {s : BS} {v' : Value} {x : Ex} {ns : List Value} (hx : EOk [x] ns) (h : BOk w F s) (hO : w5.ownsRow 0 25 6 v' (s.es.length + 1) (s.cE ++ ns)) (hc : Chg (fun k => some k = s.vE.ownBlock) w w5) (hat : v'.ownBlock = s.vE.ownBlock ∨ ∃ g, v'.ownBlock = some g ∧ w.heap.size ≤ g) :
    BOk (w5.setCell ⟨F.gm, 1, none⟩ v') F { s with vE := v', es := s.es ++ [x], cE := s.cE ++ ns, T := tagV s.T v' 2 } ∧ Bst w s (w5.setCell ⟨F.gm, 1, none⟩ v') { s with vE := v', es := s.es ++ [x], cE := s.cE ++ ns, T := tagV s.T v' 2 } := by
  have hown : ∀ k, k < w.heap.size → v'.ownBlock = some k → s.T k = 2 := fun k hk e => by
    rcases hat with h1 | ⟨g, h1, h2⟩
    · exact h.tE k (h1 ▸ e)
    · rw [e] at h1; cases h1; omega
  have hgm := h.m.lt
  have hv' : v'.ownBlock ≠ some F.gm := fun e => by
    have h1 := hown F.gm hgm e
    have := h.tm; omega
  have c2 : Chg (One F.gm) w5 (w5.setCell ⟨F.gm, 1, none⟩ v') := (Chg.refl _ _).setCell (p := ⟨F.gm, 1, none⟩) _ fun _ => rfl
  have hc2 : Chg (fun k => some k = s.vE.ownBlock ∨ k = F.gm) w (w5.setCell ⟨F.gm, 1, none⟩ v') := (hc.mono fun k _ e => .inl e).then_ c2 fun k _ e => .inr e
  have hT : ∀ k, (some k = s.vE.ownBlock ∨ k = F.gm) → s.T k = 2 ∨ s.T k = 1 := by
    rintro k (e | rfl)
    · exact .inl (h.tE k e.symm)
    · exact .inr h.tm
  have hz : ∀ k, k < w.heap.size → tagV s.T v' 2 k = s.T k := fun k hk => tagV_old (hown k hk)
  have hs5 := hc2.size
  have hnew : ∀ k, (w5.setCell ⟨F.gm, 1, none⟩ v').heap.size ≤ k → tagV s.T v' 2 k = 0 := fun k hk => by
    unfold tagV
    split
    · rename_i e
      have := (ownsRow_lt hO k e).2
      simp [World.setCell] at hk; omega
    · exact h.new k (by omega)
  have hm5 : Blk (w5.setCell ⟨F.gm, 1, none⟩ v') F.gm 122 _ := (h.m.chg hc fun e => by have h1 := h.tE _ e.symm; have := h.tm; omega).set_ 1 v'
  have kp := fun {e : TypeId} {size n c : Nat} {v : Value} {xs : List Value} (h1 : w.ownsRow 0 e size v n xs) (ht : ∀ k, v.ownBlock = some k → s.T k = c) (h2 : c ≠ 2) (h3 : c ≠ 1) => row_tag (T' := tagV s.T v' 2) h1 ht hc2 (fun k e q => by rcases hT k e with h4 | h4 <;> omega) hz
  have hOw := ownsRow_chgS hO c2 fun k hk e => hv' (by unfold One at e; rw [← e]; exact hk)
  exact ⟨h.mk' (s' := { s with vE := v', es := s.es ++ [x], cE := s.cE ++ ns, T := tagV s.T v' 2 }) hc2 (fun k e => by rcases hT k e with h4 | h4 <;> omega) hz hnew hm5 (by rw [List.length_append]; exact hOw) (fun k (hk : v'.ownBlock = some k) => (if_pos hk : tagV s.T v' 2 k = 2)) (h.eE.add hx) (kp h.K h.tK (by omega) (by omega)).1 (kp h.K h.tK (by omega) (by omega)).2 (h.eK.keep hc2 (fun k e => by rcases hT k e with h4 | h4 <;> omega) hz) (kp h.X h.tX (by omega) (by omega)).1 (kp h.X h.tX (by omega) (by omega)).2 (kp h.D h.tD (by omega) (by omega)).1 (kp h.D h.tD (by omega) (by omega)).2 (kp h.V h.tV (by omega) (by omega)).1 (kp h.V h.tV (by omega) (by omega)).2, hc2.mono fun k _ e => by rcases hT k e with h4 | h4 <;> omega, hz⟩
/-- an append to row K, its value stored -/
theorem BOk.addK {w w5 : World} {F : BF} {s : BS} {v' : Value} (h : BOk w F s) (hO : w5.ownsRow 0 88 1 v' (s.ks.length + 1) (s.cK ++ [.slice none 0 0])) (hc : Chg (fun k => some k = s.vK.ownBlock) w w5) (hat : v'.ownBlock = s.vK.ownBlock ∨ ∃ g, v'.ownBlock = some g ∧ w.heap.size ≤ g) :
    BOk (w5.setCell ⟨F.gm, 2, none⟩ v') F { s with vK := v', ks := s.ks ++ [[]], cK := s.cK ++ [.slice none 0 0], T := tagV s.T v' 3 } ∧ Bst w s (w5.setCell ⟨F.gm, 2, none⟩ v') { s with vK := v', ks := s.ks ++ [[]], cK := s.cK ++ [.slice none 0 0], T := tagV s.T v' 3 } := by
  have hown : ∀ k, k < w.heap.size → v'.ownBlock = some k → s.T k = 3 := fun k hk e => by
    rcases hat with h1 | ⟨g, h1, h2⟩
    · exact h.tK k (h1 ▸ e)
    · rw [e] at h1; cases h1; omega
  have hgm := h.m.lt
  have hv' : v'.ownBlock ≠ some F.gm := fun e => by
    have h1 := hown F.gm hgm e
    have := h.tm; omega
  have c2 : Chg (One F.gm) w5 (w5.setCell ⟨F.gm, 2, none⟩ v') := (Chg.refl _ _).setCell (p := ⟨F.gm, 2, none⟩) _ fun _ => rfl
  have hc2 : Chg (fun k => some k = s.vK.ownBlock ∨ k = F.gm) w (w5.setCell ⟨F.gm, 2, none⟩ v') := (hc.mono fun k _ e => .inl e).then_ c2 fun k _ e => .inr e
  have hT : ∀ k, (some k = s.vK.ownBlock ∨ k = F.gm) → s.T k = 3 ∨ s.T k = 1 := by
    rintro k (e | rfl)
    · exact .inl (h.tK k e.symm)
    · exact .inr h.tm
  have hz : ∀ k, k < w.heap.size → tagV s.T v' 3 k = s.T k := fun k hk => tagV_old (hown k hk)
  have hs5 := hc2.size
  have hnew : ∀ k, (w5.setCell ⟨F.gm, 2, none⟩ v').heap.size ≤ k → tagV s.T v' 3 k = 0 := fun k hk => by
    unfold tagV
    split
    · rename_i e
      have := (ownsRow_lt hO k e).2
      simp [World.setCell] at hk; omega
    · exact h.new k (by omega)
  have hm5 : Blk (w5.setCell ⟨F.gm, 2, none⟩ v') F.gm 122 _ := (h.m.chg hc fun e => by have h1 := h.tK _ e.symm; have := h.tm; omega).set_ 2 v'
  have kp := fun {e : TypeId} {size n c : Nat} {v : Value} {xs : List Value} (h1 : w.ownsRow 0 e size v n xs) (ht : ∀ k, v.ownBlock = some k → s.T k = c) (h2 : c ≠ 3) (h3 : c ≠ 1) => row_tag (T' := tagV s.T v' 3) h1 ht hc2 (fun k e q => by rcases hT k e with h4 | h4 <;> omega) hz
  have hOw := ownsRow_chgS hO c2 fun k hk e => hv' (by unfold One at e; rw [← e]; exact hk)
  exact ⟨h.mk' (s' := { s with vK := v', ks := s.ks ++ [[]], cK := s.cK ++ [.slice none 0 0], T := tagV s.T v' 3 }) hc2 (fun k e => by rcases hT k e with h4 | h4 <;> omega) hz hnew hm5 (kp h.E h.tE (by omega) (by omega)).1 (kp h.E h.tE (by omega) (by omega)).2 h.eE (by rw [List.length_append]; exact hOw) (fun k (hk : v'.ownBlock = some k) => (if_pos hk : tagV s.T v' 3 k = 3)) ((h.eK.keep hc2 (fun k e => by rcases hT k e with h4 | h4 <;> omega) hz).addNil) (kp h.X h.tX (by omega) (by omega)).1 (kp h.X h.tX (by omega) (by omega)).2 (kp h.D h.tD (by omega) (by omega)).1 (kp h.D h.tD (by omega) (by omega)).2 (kp h.V h.tV (by omega) (by omega)).1 (kp h.V h.tV (by omega) (by omega)).2, hc2.mono fun k _ e => by rcases hT k e with h4 | h4 <;> omega, hz⟩
/-- an append to row X, its value stored -/
theorem BOk.addX {w w5 : World} {F : BF} {s : BS} {v' : Value} (h : BOk w F s) (hO : w5.ownsRow 0 118 1 v' (s.nX + 1) ((nils s.nX) ++ [.slice none 0 0])) (hc : Chg (fun k => some k = s.vX.ownBlock) w w5) (hat : v'.ownBlock = s.vX.ownBlock ∨ ∃ g, v'.ownBlock = some g ∧ w.heap.size ≤ g) :
    BOk (w5.setCell ⟨F.gm, 3, none⟩ v') F { s with vX := v', nX := s.nX + 1, T := tagV s.T v' 4 } ∧ Bst w s (w5.setCell ⟨F.gm, 3, none⟩ v') { s with vX := v', nX := s.nX + 1, T := tagV s.T v' 4 } := by
  have hown : ∀ k, k < w.heap.size → v'.ownBlock = some k → s.T k = 4 := fun k hk e => by
    rcases hat with h1 | ⟨g, h1, h2⟩
    · exact h.tX k (h1 ▸ e)
    · rw [e] at h1; cases h1; omega
  have hgm := h.m.lt
  have hv' : v'.ownBlock ≠ some F.gm := fun e => by
    have h1 := hown F.gm hgm e
    have := h.tm; omega
  have c2 : Chg (One F.gm) w5 (w5.setCell ⟨F.gm, 3, none⟩ v') := (Chg.refl _ _).setCell (p := ⟨F.gm, 3, none⟩) _ fun _ => rfl
  have hc2 : Chg (fun k => some k = s.vX.ownBlock ∨ k = F.gm) w (w5.setCell ⟨F.gm, 3, none⟩ v') := (hc.mono fun k _ e => .inl e).then_ c2 fun k _ e => .inr e
  have hT : ∀ k, (some k = s.vX.ownBlock ∨ k = F.gm) → s.T k = 4 ∨ s.T k = 1 := by
    rintro k (e | rfl)
    · exact .inl (h.tX k e.symm)
    · exact .inr h.tm
  have hz : ∀ k, k < w.heap.size → tagV s.T v' 4 k = s.T k := fun k hk => tagV_old (hown k hk)
  have hs5 := hc2.size
  have hnew : ∀ k, (w5.setCell ⟨F.gm, 3, none⟩ v').heap.size ≤ k → tagV s.T v' 4 k = 0 := fun k hk => by
    unfold tagV
    split
    · rename_i e
      have := (ownsRow_lt hO k e).2
      simp [World.setCell] at hk; omega
    · exact h.new k (by omega)
  have hm5 : Blk (w5.setCell ⟨F.gm, 3, none⟩ v') F.gm 122 _ := (h.m.chg hc fun e => by have h1 := h.tX _ e.symm; have := h.tm; omega).set_ 3 v'
  have kp := fun {e : TypeId} {size n c : Nat} {v : Value} {xs : List Value} (h1 : w.ownsRow 0 e size v n xs) (ht : ∀ k, v.ownBlock = some k → s.T k = c) (h2 : c ≠ 4) (h3 : c ≠ 1) => row_tag (T' := tagV s.T v' 4) h1 ht hc2 (fun k e q => by rcases hT k e with h4 | h4 <;> omega) hz
  have hOw := ownsRow_chgS hO c2 fun k hk e => hv' (by unfold One at e; rw [← e]; exact hk)
  exact ⟨h.mk' (s' := { s with vX := v', nX := s.nX + 1, T := tagV s.T v' 4 }) hc2 (fun k e => by rcases hT k e with h4 | h4 <;> omega) hz hnew hm5 (kp h.E h.tE (by omega) (by omega)).1 (kp h.E h.tE (by omega) (by omega)).2 h.eE (kp h.K h.tK (by omega) (by omega)).1 (kp h.K h.tK (by omega) (by omega)).2 (h.eK.keep hc2 (fun k e => by rcases hT k e with h4 | h4 <;> omega) hz) (by rw [nils_succ]; exact hOw) (fun k (hk : v'.ownBlock = some k) => (if_pos hk : tagV s.T v' 4 k = 4)) (kp h.D h.tD (by omega) (by omega)).1 (kp h.D h.tD (by omega) (by omega)).2 (kp h.V h.tV (by omega) (by omega)).1 (kp h.V h.tV (by omega) (by omega)).2, hc2.mono fun k _ e => by rcases hT k e with h4 | h4 <;> omega, hz⟩
/-- an append to row D, its value stored -/
theorem BOk.addD {w w5 : World} {F : BF} {s : BS} {v' : Value} (h : BOk w F s) (hO : w5.ownsRow 0 123 1 v' (s.nD + 1) ((nils s.nD) ++ [.slice none 0 0])) (hc : Chg (fun k => some k = s.vD.ownBlock) w w5) (hat : v'.ownBlock = s.vD.ownBlock ∨ ∃ g, v'.ownBlock = some g ∧ w.heap.size ≤ g) :
    BOk (w5.setCell ⟨F.gm, 4, none⟩ v') F { s with vD := v', nD := s.nD + 1, T := tagV s.T v' 5 } ∧ Bst w s (w5.setCell ⟨F.gm, 4, none⟩ v') { s with vD := v', nD := s.nD + 1, T := tagV s.T v' 5 } := by
  have hown : ∀ k, k < w.heap.size → v'.ownBlock = some k → s.T k = 5 := fun k hk e => by
    rcases hat with h1 | ⟨g, h1, h2⟩
    · exact h.tD k (h1 ▸ e)
    · rw [e] at h1; cases h1; omega
  have hgm := h.m.lt
  have hv' : v'.ownBlock ≠ some F.gm := fun e => by
    have h1 := hown F.gm hgm e
    have := h.tm; omega
  have c2 : Chg (One F.gm) w5 (w5.setCell ⟨F.gm, 4, none⟩ v') := (Chg.refl _ _).setCell (p := ⟨F.gm, 4, none⟩) _ fun _ => rfl
  have hc2 : Chg (fun k => some k = s.vD.ownBlock ∨ k = F.gm) w (w5.setCell ⟨F.gm, 4, none⟩ v') := (hc.mono fun k _ e => .inl e).then_ c2 fun k _ e => .inr e
  have hT : ∀ k, (some k = s.vD.ownBlock ∨ k = F.gm) → s.T k = 5 ∨ s.T k = 1 := by
    rintro k (e | rfl)
    · exact .inl (h.tD k e.symm)
    · exact .inr h.tm
  have hz : ∀ k, k < w.heap.size → tagV s.T v' 5 k = s.T k := fun k hk => tagV_old (hown k hk)
  have hs5 := hc2.size
  have hnew : ∀ k, (w5.setCell ⟨F.gm, 4, none⟩ v').heap.size ≤ k → tagV s.T v' 5 k = 0 := fun k hk => by
    unfold tagV
    split
    · rename_i e
      have := (ownsRow_lt hO k e).2
      simp [World.setCell] at hk; omega
    · exact h.new k (by omega)
  have hm5 : Blk (w5.setCell ⟨F.gm, 4, none⟩ v') F.gm 122 _ := (h.m.chg hc fun e => by have h1 := h.tD _ e.symm; have := h.tm; omega).set_ 4 v'
  have kp := fun {e : TypeId} {size n c : Nat} {v : Value} {xs : List Value} (h1 : w.ownsRow 0 e size v n xs) (ht : ∀ k, v.ownBlock = some k → s.T k = c) (h2 : c ≠ 5) (h3 : c ≠ 1) => row_tag (T' := tagV s.T v' 5) h1 ht hc2 (fun k e q => by rcases hT k e with h4 | h4 <;> omega) hz
  have hOw := ownsRow_chgS hO c2 fun k hk e => hv' (by unfold One at e; rw [← e]; exact hk)
  exact ⟨h.mk' (s' := { s with vD := v', nD := s.nD + 1, T := tagV s.T v' 5 }) hc2 (fun k e => by rcases hT k e with h4 | h4 <;> omega) hz hnew hm5 (kp h.E h.tE (by omega) (by omega)).1 (kp h.E h.tE (by omega) (by omega)).2 h.eE (kp h.K h.tK (by omega) (by omega)).1 (kp h.K h.tK (by omega) (by omega)).2 (h.eK.keep hc2 (fun k e => by rcases hT k e with h4 | h4 <;> omega) hz) (kp h.X h.tX (by omega) (by omega)).1 (kp h.X h.tX (by omega) (by omega)).2 (by rw [nils_succ]; exact hOw) (fun k (hk : v'.ownBlock = some k) => (if_pos hk : tagV s.T v' 5 k = 5)) (kp h.V h.tV (by omega) (by omega)).1 (kp h.V h.tV (by omega) (by omega)).2, hc2.mono fun k _ e => by rcases hT k e with h4 | h4 <;> omega, hz⟩
/-- an append to row V, its value stored -/
theorem BOk.addV {w w5 : World} {F : BF} {s : BS} {v' : Value} (h : BOk w F s) (hO : w5.ownsRow 0 88 1 v' (s.nV + 1) ((nils s.nV) ++ [.slice none 0 0])) (hc : Chg (fun k => some k = s.vV.ownBlock) w w5) (hat : v'.ownBlock = s.vV.ownBlock ∨ ∃ g, v'.ownBlock = some g ∧ w.heap.size ≤ g) :
    BOk (w5.setCell ⟨F.gm, 5, none⟩ v') F { s with vV := v', nV := s.nV + 1, T := tagV s.T v' 6 } ∧ Bst w s (w5.setCell ⟨F.gm, 5, none⟩ v') { s with vV := v', nV := s.nV + 1, T := tagV s.T v' 6 } := by
  have hown : ∀ k, k < w.heap.size → v'.ownBlock = some k → s.T k = 6 := fun k hk e => by
    rcases hat with h1 | ⟨g, h1, h2⟩
    · exact h.tV k (h1 ▸ e)
    · rw [e] at h1; cases h1; omega
  have hgm := h.m.lt
  have hv' : v'.ownBlock ≠ some F.gm := fun e => by
    have h1 := hown F.gm hgm e
    have := h.tm; omega
  have c2 : Chg (One F.gm) w5 (w5.setCell ⟨F.gm, 5, none⟩ v') := (Chg.refl _ _).setCell (p := ⟨F.gm, 5, none⟩) _ fun _ => rfl
  have hc2 : Chg (fun k => some k = s.vV.ownBlock ∨ k = F.gm) w (w5.setCell ⟨F.gm, 5, none⟩ v') := (hc.mono fun k _ e => .inl e).then_ c2 fun k _ e => .inr e
  have hT : ∀ k, (some k = s.vV.ownBlock ∨ k = F.gm) → s.T k = 6 ∨ s.T k = 1 := by
    rintro k (e | rfl)
    · exact .inl (h.tV k e.symm)
    · exact .inr h.tm
  have hz : ∀ k, k < w.heap.size → tagV s.T v' 6 k = s.T k := fun k hk => tagV_old (hown k hk)
  have hs5 := hc2.size
  have hnew : ∀ k, (w5.setCell ⟨F.gm, 5, none⟩ v').heap.size ≤ k → tagV s.T v' 6 k = 0 := fun k hk => by
    unfold tagV
    split
    · rename_i e
      have := (ownsRow_lt hO k e).2
      simp [World.setCell] at hk; omega
    · exact h.new k (by omega)
  have hm5 : Blk (w5.setCell ⟨F.gm, 5, none⟩ v') F.gm 122 _ := (h.m.chg hc fun e => by have h1 := h.tV _ e.symm; have := h.tm; omega).set_ 5 v'
  have kp := fun {e : TypeId} {size n c : Nat} {v : Value} {xs : List Value} (h1 : w.ownsRow 0 e size v n xs) (ht : ∀ k, v.ownBlock = some k → s.T k = c) (h2 : c ≠ 6) (h3 : c ≠ 1) => row_tag (T' := tagV s.T v' 6) h1 ht hc2 (fun k e q => by rcases hT k e with h4 | h4 <;> omega) hz
  have hOw := ownsRow_chgS hO c2 fun k hk e => hv' (by unfold One at e; rw [← e]; exact hk)
  exact ⟨h.mk' (s' := { s with vV := v', nV := s.nV + 1, T := tagV s.T v' 6 }) hc2 (fun k e => by rcases hT k e with h4 | h4 <;> omega) hz hnew hm5 (kp h.E h.tE (by omega) (by omega)).1 (kp h.E h.tE (by omega) (by omega)).2 h.eE (kp h.K h.tK (by omega) (by omega)).1 (kp h.K h.tK (by omega) (by omega)).2 (h.eK.keep hc2 (fun k e => by rcases hT k e with h4 | h4 <;> omega) hz) (kp h.X h.tX (by omega) (by omega)).1 (kp h.X h.tX (by omega) (by omega)).2 (kp h.D h.tD (by omega) (by omega)).1 (kp h.D h.tD (by omega) (by omega)).2 (by rw [nils_succ]; exact hOw) (fun k (hk : v'.ownBlock = some k) => (if_pos hk : tagV s.T v' 6 k = 6)), hc2.mono fun k _ e => by rcases hT k e with h4 | h4 <;> omega, hz⟩
end Go.Proofs.YticipgjbgcdccaaDoor
namespace Go.Proofs.YticipgjbgcdccaaDoor
open Go.RowKit

mutual
theorem TreeAt.more {es es' : List Ex} {ks ks' : List (List Nat)} (m : List Ex) (mk : List (List Nat)) (he : es' = es ++ m) (hk : ks' = ks ++ mk) : ∀ (x : Ex) (i : Nat), TreeAt es ks x i → TreeAt es' ks' x i
  | .mk k f t a b l, i, h => by
    unfold TreeAt at h ⊢
    obtain ⟨h1, ids, h2, h3⟩ := h
    refine ⟨?_, ids, ?_, TreesAt.more m mk he hk l _ _ h3⟩
    · rw [he, List.getElem?_append_left (List.getElem?_eq_some_iff.1 h1).1]; exact h1
    · rw [hk, List.getElem?_append_left (List.getElem?_eq_some_iff.1 h2).1]; exact h2
theorem TreesAt.more {es es' : List Ex} {ks ks' : List (List Nat)} (m : List Ex) (mk : List (List Nat)) (he : es' = es ++ m) (hk : ks' = ks ++ mk) : ∀ (l : List Ex) (lo : Nat) (ids : List Nat), TreesAt es ks l lo ids → TreesAt es' ks' l lo ids
  | [], _, _, h => by
    unfold TreesAt at h ⊢; exact h
  | x :: xs, lo, ids, h => by
    unfold TreesAt at h ⊢
    obtain ⟨rest, h1, h2, h3⟩ := h
    exact ⟨rest, h1, TreeAt.more m mk he hk x lo h2, TreesAt.more m mk he hk xs _ _ h3⟩
end
mutual
theorem TreeAt.set {es : List Ex} {ks : List (List Nat)} (q : Nat) (v : List Nat) : ∀ (x : Ex) (i : Nat), q < i → TreeAt es ks x i → TreeAt es (ks.set q v) x i
  | .mk k f t a b l, i, hq, h => by
    unfold TreeAt at h ⊢
    obtain ⟨h1, ids, h2, h3⟩ := h
    exact ⟨h1, ids, by rw [List.getElem?_set_ne (by omega)]; exact h2, TreesAt.set q v l _ _ (by omega) h3⟩
theorem TreesAt.set {es : List Ex} {ks : List (List Nat)} (q : Nat) (v : List Nat) : ∀ (l : List Ex) (lo : Nat) (ids : List Nat), q < lo → TreesAt es ks l lo ids → TreesAt es (ks.set q v) l lo ids
  | [], _, _, _, h => by
    unfold TreesAt at h ⊢; exact h
  | x :: xs, lo, ids, hq, h => by
    unfold TreesAt at h ⊢
    obtain ⟨rest, h1, h2, h3⟩ := h
    exact ⟨rest, h1, TreeAt.set q v x lo hq h2, TreesAt.set q v xs _ _ (by omega) h3⟩
end
theorem TreesAt.snoc {es : List Ex} {ks : List (List Nat)} {y : Ex} : ∀ (l : List Ex) (lo : Nat) (ids : List Nat), TreesAt es ks l lo ids → TreeAt es ks y (lo + nodesS l) → TreesAt es ks (l ++ [y]) lo (ids ++ [lo + nodesS l])
  | [], lo, ids, h, hy => by
    unfold TreesAt at h
    subst h
    simp only [nodesS, Nat.add_zero] at hy
    simp only [List.nil_append, nodesS, Nat.add_zero]
    unfold TreesAt
    exact ⟨[], rfl, hy, by unfold TreesAt; rfl⟩
  | x :: xs, lo, ids, h, hy => by
    unfold TreesAt at h
    obtain ⟨rest, rfl, h2, h3⟩ := h
    have e : lo + nodesS (x :: xs) = (lo + nodesP x) + nodesS xs := by
      conv => lhs; rw [show nodesS (x :: xs) = nodesP x + nodesS xs by conv => lhs; unfold nodesS]
      omega
    rw [e] at hy
    rw [e]
    show TreesAt es ks (x :: (xs ++ [y])) lo (lo :: (rest ++ [_]))
    unfold TreesAt
    exact ⟨_, rfl, h2, TreesAt.snoc xs _ _ h3 hy⟩
theorem nodesS_snoc : ∀ (l : List Ex) (y : Ex), nodesS (l ++ [y]) = nodesS l + nodesP y
  | [], y => by simp [nodesS]
  | x :: xs, y => by
    have := nodesS_snoc xs y
    simp only [List.cons_append, nodesS]
    omega

/-- a block of the caller's own, of owner 8: its changes, its new places -/
theorem BOk.kid {w w' : World} {F : BF} {s : BS} (h : BOk w F s) {v v' : Value} (hv : ∀ k, v.ownBlock = some k → s.T k = 8) (hc : Chg (fun k => some k = v.ownBlock) w w') (hlt : ∀ k, v'.ownBlock = some k → k < w'.heap.size) (hat : v'.ownBlock = v.ownBlock ∨ ∃ g, v'.ownBlock = some g ∧ w.heap.size ≤ g) :
    BOk w' F { s with T := tagV s.T v' 8 } ∧ ∀ k, k < w.heap.size → tagV s.T v' 8 k = s.T k := by
  have hz : ∀ k, k < w.heap.size → tagV s.T v' 8 k = s.T k := fun k hk => tagV_old fun e => by
    rcases hat with h1 | ⟨g, h1, h2⟩
    · exact hv k (h1 ▸ e)
    · rw [e] at h1; cases h1; omega
  have hS : ∀ k, some k = v.ownBlock → s.T k = 8 := fun k e => hv k e.symm
  have hsz := hc.size
  have hnew : ∀ k, w'.heap.size ≤ k → tagV s.T v' 8 k = 0 := fun k hk => by
    unfold tagV
    split
    · rename_i e; have := hlt k e; omega
    · exact h.new k (by omega)
  have kp := fun {e : TypeId} {size n c : Nat} {u : Value} {xs : List Value} (h1 : w.ownsRow 0 e size u n xs) (ht : ∀ k, u.ownBlock = some k → s.T k = c) (h2 : c ≠ 8) => row_tag (T' := tagV s.T v' 8) h1 ht hc (fun k e q => by have := hS k e; omega) hz
  exact ⟨h.mk' (s' := { s with T := tagV s.T v' 8 }) hc (fun k e => by rw [hS k e]; omega) hz hnew (h.m.chg hc fun e => by have := hS _ e; have := h.tm; omega)
    (kp h.E h.tE (by omega)).1 (kp h.E h.tE (by omega)).2 h.eE (kp h.K h.tK (by omega)).1 (kp h.K h.tK (by omega)).2 (h.eK.keep hc (fun k e => by rw [hS k e]; omega) hz) (kp h.X h.tX (by omega)).1 (kp h.X h.tX (by omega)).2 (kp h.D h.tD (by omega)).1 (kp h.D h.tD (by omega)).2 (kp h.V h.tV (by omega)).1 (kp h.V h.tV (by omega)).2, hz⟩
/-- a finished list is nobody's any more -/
theorem BOk.free {w : World} {F : BF} {s : BS} (h : BOk w F s) (v : Value) (hv : ∀ k, v.ownBlock = some k → s.T k = 8) : BOk w F { s with T := tagV s.T v 0 } := by
  have ht : ∀ k c, c ≠ 8 → s.T k = c → tagV s.T v 0 k = c := fun k c hc hk => by
    unfold tagV
    split
    · rename_i e; have := hv k e; omega
    · exact hk
  exact ⟨h.c0, fun k hk => h.low k fun e => hk (ht k 0 (by omega) e), fun k hk => ht k 0 (by omega) (h.new k hk), h.m, ht _ 1 (by omega) h.tm, h.E, fun k hk => ht k 2 (by omega) (h.tE k hk), h.eE, h.K, fun k hk => ht k 3 (by omega) (h.tK k hk),
    ⟨h.eK.1, fun i l hl => by
      obtain ⟨u, h1, h2⟩ := h.eK.2 i l hl
      exact ⟨u, h1, h2.imp fun g hg => ht g 0 (by omega) hg⟩⟩, h.X, fun k hk => ht k 4 (by omega) (h.tX k hk), h.D, fun k hk => ht k 5 (by omega) (h.tD k hk), h.V, fun k hk => ht k 6 (by omega) (h.tV k hk)⟩
/-- a value's kids are stored -/
theorem BOk.setK {w : World} {F : BF} {s : BS} (h : BOk w F s) {g n c i : Nat} {u : Value} {ids : List Nat} (hg : s.vK = .slice (some ⟨g, 0, none⟩) n c) (hi : i < s.ks.length) (hu : IntsV w (fun g => s.T g = 0) u ids) :
    BOk (w.setCell ⟨g, i, none⟩ u) F { s with ks := s.ks.set i ids, cK := s.cK.set i u } ∧ Bst w s (w.setCell ⟨g, i, none⟩ u) { s with ks := s.ks.set i ids, cK := s.cK.set i u } := by
  have hK := h.K
  have hn : n = s.ks.length := by
    rcases hK.2 with ⟨e, _⟩ | ⟨g', c', cur, e, _⟩
    · rw [hg] at e; cases e
    · rw [hg] at e; injection e
  subst hn
  have htg : s.T g = 3 := h.tK g (by rw [hg]; rfl)
  have hc : Chg (One g) w (w.setCell ⟨g, i, none⟩ u) := (Chg.refl _ _).setCell (p := ⟨g, i, none⟩) _ fun _ => rfl
  have hS : ∀ k, One g k → s.T k = 3 := by rintro k rfl; exact htg
  have kp := fun {e : TypeId} {size n c : Nat} {v : Value} {xs : List Value} (h1 : w.ownsRow 0 e size v n xs) (ht : ∀ k, v.ownBlock = some k → s.T k = c) (h2 : c ≠ 3) => row_tag (T' := s.T) h1 ht hc (fun k e q => by have := hS k e; omega) fun _ _ => rfl
  rw [hg] at hK
  have hKs := (hK.stored i u).1
  have hsz := hc.size
  refine ⟨h.mk' (s' := { s with ks := s.ks.set i ids, cK := s.cK.set i u }) hc (fun k e => by rw [hS k e]; omega) (fun _ _ => rfl) (fun k hk => h.new k (by omega)) (h.m.chg hc fun e => by have := hS _ e; have := h.tm; omega)
    (kp h.E h.tE (by omega)).1 h.tE h.eE (by rw [hg]; simpa using hKs) h.tK ?_ (kp h.X h.tX (by omega)).1 h.tX (kp h.D h.tD (by omega)).1 h.tD (kp h.V h.tV (by omega)).1 h.tV, hc.mono fun k _ e => by have := hS k e; omega, fun _ _ => rfl⟩
  have hkk := h.eK.keep hc (fun k e => by rw [hS k e]; omega) fun _ _ => rfl
  refine ⟨by simp [h.eK.1], fun j l hl => ?_⟩
  by_cases e : j = i
  · subst e
    rw [List.getElem?_set_self hi] at hl
    obtain rfl : ids = l := by simpa using hl
    exact ⟨u, by rw [List.getElem?_set_self (by rw [h.eK.1]; exact hi)], hu.keep hc fun g' hg' _ => ⟨fun e => by have := hS g' e; omega, hg'⟩⟩
  · rw [List.getElem?_set_ne (fun q => e q.symm)] at hl
    obtain ⟨u', h1, h2⟩ := hkk.2 j l hl
    exact ⟨u', by rw [List.getElem?_set_ne (fun q => e q.symm)]; exact h1, h2⟩
theorem info_118 : (Tryd.prog.info? 118).map (fun i => (i.zero, i.size, i.bytes)) = some (some (.slice none 0 0), 1, 24) := by kernel_rfl
theorem info_123 : (Tryd.prog.info? 123).map (fun i => (i.zero, i.size, i.bytes)) = some (some (.slice none 0 0), 1, 24) := by kernel_rfl
/-- 'l = append(l, nil)', of lists -/
theorem wpList_append_nil {w : World} {ops : Array Oper} {rest : List Oper} {o : Oper} {a : Act} {Q : Exit → Act → World → Prop} (t e : TypeId) (hu : Tryd.prog.underlying t = some (.slice e)) (hinfo : (Tryd.prog.info? e).map (fun i => (i.zero, i.size, i.bytes)) = some (some (.slice none 0 0), 1, 24))
    (hgd : o.guard = none) (sl x : Operand) (ho : o.op = .call { callee := .builtin .append, args := #[sl, x], argTypes := #[t, t] }) (v : Value) (n : Nat) (xs : List Value) (hs : a.eval sl = v) (hown : w.ownsRow 0 e 1 v n xs) (g c : Nat) (hx : a.eval x = .slice (some ⟨g, 0, none⟩) 1 c)
    (hb : Blk w g e #[.slice none 0 0]) (hlen : n ≤ 1000000)
    (h : ∀ v' w', w'.ownsRow 0 e 1 v' (n + 1) (xs ++ [.slice none 0 0]) → w.grownBy w' v.ownBlock → (v'.ownBlock = v.ownBlock ∨ v'.ownBlock = some w.heap.size) → wpList Tryd.prog ops Q rest (a.put o.dst v') w') :
    wpList Tryd.prog ops Q (o :: rest) a w := by
  obtain ⟨i0, hi, hz0, hz1, hz2⟩ := info_parts hinfo
  refine wpList_append_own_at _ hgd sl x _ ho 0 e i0 _ 1 24 hu hi hz0 hz1 hz2 rfl (by decide) v n xs hs hown ⟨g, 0, none⟩ 1 c [.slice none 0 0] hx rfl ?_ ?_ (by unfold maxLen; omega) (by omega) (Nat.zero_le _) ?_
  · intro j u hu
    rw [add0]
    rw [hb.cell j]
    simpa using hu
  · intro u hu
    simp at hu
    rw [hu]; rfl
  · intro v' w' ho' hg _ hat
    exact h v' w' ho' hg hat
/-- 'append(m.E, zero)', as a step of a region that draws its order -/
theorem step_append_E {w : World} {ops : Array Oper} {o : Oper} {a : Act} {K : Act → World → Prop} {Q : Exit → Act → World → Prop} {E : Prop} (hgd : o.guard = none) (sl x : Operand)
    (ho : o.op = .call { callee := .builtin .append, args := #[sl, x], argTypes := #[23, 23] })
    (v : Value) (n : Nat) (xs : List Value) (hs : a.eval sl = v) (hown : w.ownsRow 0 25 6 v n xs) (g c : Nat) (hx : a.eval x = .slice (some ⟨g, 0, none⟩) 1 c)
    (hb : Blk w g 25 #[.int .i64 0, .int .i64 0, .int .i64 0, .int .i64 0, .int .i64 0, .slice none 0 0]) (hlen : n ≤ 1000000)
    (h : ∀ v' w', w'.ownsRow 0 25 6 v' (n + 1) (xs ++ [.int .i64 0, .int .i64 0, .int .i64 0, .int .i64 0, .int .i64 0, .slice none 0 0]) → w.grownBy w' v.ownBlock → (v'.ownBlock = v.ownBlock ∨ v'.ownBlock = some w.heap.size) → K (a.put o.dst v') w') :
    if Region.wanted o (yielded ops a.tmps) = true then Oper.wp Tryd.prog o a w K Q else E := by
  have hw : Region.wanted o (yielded ops a.tmps) = true := by simp [Region.wanted, hgd]
  rw [if_pos hw]
  obtain ⟨i0, hi, hz0, hz1, hz2⟩ := info_parts info_ex
  obtain ⟨v', w', hr, ho', hg, _, hat⟩ := run_append_own_at (P := Tryd.prog) w 0 23 o.type 25 i0 _ 6 64 Tryd.underlying23 hi hz0 hz1 hz2 rfl (by decide) v n xs hown ⟨g, 0, none⟩ 1 c
    [.int .i64 0, .int .i64 0, .int .i64 0, .int .i64 0, .int .i64 0, .slice none 0 0] rfl (fun j u hu => by
      rw [add0, hb.cell j]
      simpa using hu) (fun u hu => by
      simp at hu
      rcases hu with rfl | rfl | rfl | rfl | rfl | rfl <;> rfl) (by unfold maxLen; omega) (by omega) (Nat.zero_le _)
  unfold Oper.wp execOp
  simp only [ho, resolve, invoke, builtin, Sem.run_bind, Sem.run_pure, Result.andThen_ok, List.map_toArray, List.map_cons, List.map_nil, hs, hx, hr]
  exact h v' w' ho' hg hat
theorem ownsRow_form {w : World} {base n size : Nat} {e : TypeId} {v : Value} {xs : List Value} (h : w.ownsRow base e size v n xs) : ∃ A c, v = .slice A n c := by
  rcases h.2 with ⟨rfl, rfl⟩ | ⟨g, cap, cur, rfl, _⟩
  · exact ⟨none, 0, rfl⟩
  · exact ⟨_, _, rfl⟩
theorem ownsRow_some {w : World} {base n size : Nat} {e : TypeId} {v : Value} {xs : List Value} (h : w.ownsRow base e size v (n + 1) xs) : ∃ g c, v = .slice (some ⟨g, 0, none⟩) (n + 1) c := by
  rcases h.2 with ⟨_, h0⟩ | ⟨g, cap, cur, rfl, _⟩
  · exact absurd h0 (Nat.succ_ne_zero _)
  · exact ⟨_, _, rfl⟩

/-- behind the append of a zero value: what the stores want -/
theorem add_E_facts {w1 w5 : World} {F : BF} {s : BS} {o : Obj} {AE : Option Addr} {cE N g5 c5 : Nat} (hbm : Blk w1 F.gm 122 #[.slice F.B F.b.length F.cb, .slice AE N cE, s.vK, s.vX, s.vD, s.vV])
    (htE : ∀ k, (Value.slice AE N cE).ownBlock = some k → s.T k = 2) (htm : s.T F.gm = 1) (hcl : s.cE.length = 6 * N) (hO5 : w5.ownsRow 0 25 6 (.slice (some ⟨g5, 0, none⟩) (N + 1) c5) (N + 1) (s.cE ++ [.int .i64 0, .int .i64 0, .int .i64 0, .int .i64 0, .int .i64 0, .slice none 0 0]))
    (hgr : (w1.alloc o).drew.grownBy w5 (Value.slice AE N cE).ownBlock) (hat : (Value.slice (some ⟨g5, 0, none⟩) (N + 1) c5).ownBlock = (Value.slice AE N cE).ownBlock ∨ (Value.slice (some ⟨g5, 0, none⟩) (N + 1) c5).ownBlock = some (w1.alloc o).drew.heap.size) :
    (w5.cell? ⟨g5, N * 6, none⟩ = some (.int .i64 0) ∧ w5.cell? ⟨g5, N * 6 + 1, none⟩ = some (.int .i64 0) ∧ w5.cell? ⟨g5, N * 6 + 2, none⟩ = some (.int .i64 0) ∧ w5.cell? ⟨g5, N * 6 + 3, none⟩ = some (.int .i64 0) ∧ w5.cell? ⟨g5, N * 6 + 4, none⟩ = some (.int .i64 0) ∧ w5.cell? ⟨g5, N * 6 + 5, none⟩ = some (.slice none 0 0)) ∧
    F.gm ≠ g5 ∧ w5.cell? ⟨F.gm, 1, none⟩ = some (.slice AE N cE) ∧ w5.frozen? ⟨F.gm, 1, none⟩ = false ∧ Chg (fun p => some p = (Value.slice AE N cE).ownBlock) w1 w5 := by
  have q : ∀ j, j < 6 → w5.cell? ⟨g5, N * 6 + j, none⟩ = ([.int .i64 0, .int .i64 0, .int .i64 0, .int .i64 0, .int .i64 0, .slice none 0 0] : List Value)[j]? := fun j hj => by
    rw [hO5.cellAt (N * 6 + j) (by omega), List.getElem?_append_right (by omega)]
    congr 1; omega
  have hch : Chg (fun p => some p = (Value.slice AE N cE).ownBlock) w1 w5 := (((Chg.refl (fun p => some p = (Value.slice AE N cE).ownBlock) w1).alloc o).drew).then_ (Chg.of_grown (S := fun p => some p = (Value.slice AE N cE).ownBlock) hgr fun p e _ => e.symm) fun p _ e => e
  have hng : ¬ some F.gm = (Value.slice AE N cE).ownBlock := fun e => by have := htE _ e.symm; omega
  have hm5 := hbm.chg hch hng
  refine ⟨⟨q 0 (by omega), q 1 (by omega), q 2 (by omega), q 3 (by omega), q 4 (by omega), q 5 (by omega)⟩, fun e => ?_, (hm5.cell 1).trans rfl, hm5.frozen 1, hch⟩
  have h5 : (Value.slice (some ⟨g5, 0, none⟩) (N + 1) c5).ownBlock = some g5 := rfl
  rw [h5] at hat
  rcases hat with h9 | h9
  · exact hng (by rw [e]; exact h9)
  · have h8 : g5 = w1.heap.size + 1 := by
      injection h9 with h9
      rw [h9]; show (w1.alloc o).heap.size = _; simp
    have := hbm.lt; omega
theorem set6 (cs : List Value) (n : Nat) (a0 a1 a2 a3 a4 a5 b0 b1 b2 b3 b4 b5 : Value) (h : n = cs.length) :
    ((((((cs ++ [b0, b1, b2, b3, b4, b5]).set n a0).set (n + 1) a1).set (n + 2) a2).set (n + 3) a3).set (n + 4) a4).set (n + 5) a5 = cs ++ [a0, a1, a2, a3, a4, a5] := by
  subst h
  simp

theorem setCell_comm (w : World) (g g' i j : Nat) (v v' : Value) (h : g ≠ g') : (w.setCell ⟨g, i, none⟩ v).setCell ⟨g', j, none⟩ v' = (w.setCell ⟨g', j, none⟩ v').setCell ⟨g, i, none⟩ v := by
  have e : ∀ (f f' : Obj → Obj), (w.heap.modify g f).modify g' f' = (w.heap.modify g' f').modify g f := fun f f' => by
    apply Array.ext
    · simp
    · intro k hk hk'
      simp only [Array.getElem_modify]
      by_cases e1 : g' = k
      · have e2 : g ≠ k := fun q => h (q.trans e1.symm)
        simp [e1, e2]
      · simp [e1]
  unfold World.setCell
  simp only [e]
/-- behind the stores of the six cells -/
theorem add_E_end {w1 w5 : World} {F : BF} {s : BS} {AE A : Option Addr} {cE N g5 c5 c G z : Nat} {x : Ex} (hN : s.es.length = N) (hvE : s.vE = .slice AE s.es.length cE) (H1 : BOk w1 F s) (hG : Blk w1 G 25 #[.int .i64 x.k, .int .i64 x.f, .int .i64 x.t, .int .i64 x.a, .int .i64 x.b, .slice A x.l.length c]) (hG0 : s.T G = 0)
    (hO5 : w5.ownsRow 0 25 6 (.slice (some ⟨g5, 0, none⟩) (N + 1) c5) (N + 1) (s.cE ++ [.int .i64 0, .int .i64 0, .int .i64 0, .int .i64 0, .int .i64 0, .slice none 0 0])) (hz : w1.heap.size ≤ z)
    (hat : (Value.slice (some ⟨g5, 0, none⟩) (N + 1) c5).ownBlock = (Value.slice AE N cE).ownBlock ∨ (Value.slice (some ⟨g5, 0, none⟩) (N + 1) c5).ownBlock = some z) (hch : Chg (fun p => some p = (Value.slice AE N cE).ownBlock) w1 w5)
    {W : World} (hW : W = (((((((w5.setCell ⟨g5, N * 6, none⟩ (.int .i64 x.k)).setCell ⟨g5, N * 6 + 1, none⟩ (.int .i64 x.f)).setCell ⟨g5, N * 6 + 2, none⟩ (.int .i64 x.t)).setCell ⟨g5, N * 6 + 3, none⟩ (.int .i64 x.a)).setCell ⟨g5, N * 6 + 4, none⟩ (.int .i64 x.b)).setCell ⟨g5, N * 6 + 5, none⟩ (.slice A x.l.length c)).setCell ⟨F.gm, 1, none⟩ (.slice (some ⟨g5, 0, none⟩) (N + 1) c5))) :
    ∃ s2, BOk W F s2 ∧ Bst w1 s W s2 ∧ s2.es = s.es ++ [x] ∧ s2.ks = s.ks ∧ s2.nX = s.nX ∧ s2.nD = s.nD ∧ s2.nV = s.nV ∧ Blk W G 25 #[.int .i64 x.k, .int .i64 x.f, .int .i64 x.t, .int .i64 x.a, .int .i64 x.b, .slice A x.l.length c] := by
  subst hW
  have hE := H1.eE.1
  rw [hN] at hE
  have hO := (((((hO5.stored (N * 6) (.int .i64 x.k)).1.stored (N * 6 + 1) (.int .i64 x.f)).1.stored (N * 6 + 2) (.int .i64 x.t)).1.stored (N * 6 + 3) (.int .i64 x.a)).1.stored (N * 6 + 4) (.int .i64 x.b)).1.stored (N * 6 + 5) (.slice A x.l.length c)
  have hO := hO.1
  rw [set6 _ (N * 6) _ _ _ _ _ _ _ _ _ _ _ _ (by omega)] at hO
  have hvN : s.vE = .slice AE N cE := by rw [hvE, hN]
  have hown : ∀ k, some k = (Value.slice AE N cE).ownBlock → s.T k = 2 := fun k e => H1.tE k (by rw [hvN]; exact e.symm)
  have hg5 : s.T g5 = 2 ∨ w1.heap.size ≤ g5 := by
    rcases hat with e | e
    · exact .inl (hown g5 e)
    · injection e with e; exact .inr (by have e' : g5 = z := e; omega)
  have hc6 : Chg (fun p => some p = (Value.slice AE N cE).ownBlock) w1 ((((((w5.setCell ⟨g5, N * 6, none⟩ (.int .i64 x.k)).setCell ⟨g5, N * 6 + 1, none⟩ (.int .i64 x.f)).setCell ⟨g5, N * 6 + 2, none⟩ (.int .i64 x.t)).setCell ⟨g5, N * 6 + 3, none⟩ (.int .i64 x.a)).setCell ⟨g5, N * 6 + 4, none⟩ (.int .i64 x.b)).setCell ⟨g5, N * 6 + 5, none⟩ (.slice A x.l.length c)) := by
    have hp : g5 < w1.heap.size → some g5 = (Value.slice AE N cE).ownBlock := fun hlt => by
      rcases hat with e | e
      · exact e
      · injection e with e; have e' : g5 = z := e; omega
    exact (((((hch.setCell _ hp).setCell _ hp).setCell _ hp).setCell _ hp).setCell _ hp).setCell _ hp
  have hx : EOk [x] [.int .i64 x.k, .int .i64 x.f, .int .i64 x.t, .int .i64 x.a, .int .i64 x.b, .slice A x.l.length c] := by
    refine ⟨rfl, fun i y hy => ?_⟩
    have hi : i = 0 := by
      have := (List.getElem?_eq_some_iff.1 hy).1
      simp at this; exact this
    subst hi
    obtain rfl : x = y := by simpa using hy
    exact ⟨A, c, rfl, rfl, rfl, rfl, rfl, rfl⟩
  have hadd := H1.addE hx (by rw [hN]; exact hO) (by rw [hvN]; exact hc6) (by
    rw [hvN]
    rcases hat with e | e
    · exact .inl e
    · exact .inr ⟨_, e, hz⟩)
  exact ⟨_, hadd.1, hadd.2, rfl, rfl, rfl, rfl, rfl, hG.chg hadd.2.chg (by omega)⟩

theorem info_88 : (Tryd.prog.info? 88).map (fun i => (i.zero, i.size, i.bytes)) = some (some (.slice none 0 0), 1, 24) := by kernel_rfl
theorem nil_facts {w w5 : World} {F : BF} {s : BS} {o : Obj} {v v' : Value} (h : BOk w F s) (hv : ∀ k, v.ownBlock = some k → s.T k ≠ 1) (hgr : (w.alloc o).grownBy w5 v.ownBlock) (hat : v'.ownBlock = v.ownBlock ∨ v'.ownBlock = some (w.alloc o).heap.size) :
    Chg (fun p => some p = v.ownBlock) w w5 ∧ Blk w5 F.gm 122 #[.slice F.B F.b.length F.cb, s.vE, s.vK, s.vX, s.vD, s.vV] ∧ (v'.ownBlock = v.ownBlock ∨ ∃ g, v'.ownBlock = some g ∧ w.heap.size ≤ g) := by
  have hch : Chg (fun p => some p = v.ownBlock) w w5 := ((Chg.refl (fun p => some p = v.ownBlock) w).alloc o).then_ (Chg.of_grown (S := fun p => some p = v.ownBlock) hgr fun p e _ => e.symm) fun p _ e => e
  refine ⟨hch, h.m.chg hch fun e => hv _ e.symm h.tm, hat.imp id fun e => ⟨_, e, by simp⟩⟩
/-- between the regions of add: what has been appended -/
structure Mid (F : BF) (w1 : World) (s : BS) (x : Ex) (G : Nat) (A : Option Addr) (c : Nat) (mk : List (List Nat)) (b d e : Nat) (wx : World) (s2 : BS) : Prop where
  ok : BOk wx F s2
  st : Bst w1 s wx s2
  es : s2.es = s.es ++ [x]
  ks : s2.ks = s.ks ++ mk
  nX : s2.nX = s.nX + b
  nD : s2.nD = s.nD + d
  nV : s2.nV = s.nV + e
  bG : Blk wx G 25 #[.int .i64 x.k, .int .i64 x.f, .int .i64 x.t, .int .i64 x.a, .int .i64 x.b, .slice A x.l.length c]
  hG : G < w1.heap.size
  G0 : s.T G = 0
theorem Mid.addK {F : BF} {w1 wx w5 : World} {s s2 : BS} {x : Ex} {G : Nat} {A : Option Addr} {c : Nat} {o : Obj} {v v' : Value} (h : Mid F w1 s x G A c [] 0 0 0 wx s2) (hv : s2.vK = v) (hO : w5.ownsRow 0 88 1 v' (s2.ks.length + 1) (s2.cK ++ [.slice none 0 0])) (hgr : (wx.alloc o).grownBy w5 v.ownBlock) (hat : v'.ownBlock = v.ownBlock ∨ v'.ownBlock = some (wx.alloc o).heap.size) :
    ∃ s3, Mid F w1 s x G A c [[]] 0 0 0 (w5.setCell ⟨F.gm, 2, none⟩ v') s3 := by
  subst hv
  obtain ⟨h1, h2, h3⟩ := nil_facts h.ok (fun k hk => by rw [h.ok.tK k hk]; omega) hgr hat
  obtain ⟨k1, k2⟩ := h.ok.addK hO h1 h3
  exact ⟨_, k1, h.st.trans k2, h.es, by show s2.ks ++ [[]] = s.ks ++ [[]]; rw [h.ks]; simp, h.nX, h.nD, h.nV, h.bG.chg k2.chg (by rw [h.st.T G h.hG, h.G0]; omega), h.hG, h.G0⟩
theorem Mid.addX {F : BF} {w1 wx w5 : World} {s s2 : BS} {x : Ex} {G : Nat} {A : Option Addr} {c : Nat} {o : Obj} {v v' : Value} (h : Mid F w1 s x G A c [[]] 0 0 0 wx s2) (hv : s2.vX = v) (hO : w5.ownsRow 0 118 1 v' (s2.nX + 1) ((nils s2.nX) ++ [.slice none 0 0])) (hgr : (wx.alloc o).grownBy w5 v.ownBlock) (hat : v'.ownBlock = v.ownBlock ∨ v'.ownBlock = some (wx.alloc o).heap.size) :
    ∃ s3, Mid F w1 s x G A c [[]] 1 0 0 (w5.setCell ⟨F.gm, 3, none⟩ v') s3 := by
  subst hv
  obtain ⟨h1, h2, h3⟩ := nil_facts h.ok (fun k hk => by rw [h.ok.tX k hk]; omega) hgr hat
  obtain ⟨k1, k2⟩ := h.ok.addX hO h1 h3
  exact ⟨_, k1, h.st.trans k2, h.es, h.ks, by show s2.nX + 1 = s.nX + 1; rw [h.nX], h.nD, h.nV, h.bG.chg k2.chg (by rw [h.st.T G h.hG, h.G0]; omega), h.hG, h.G0⟩
theorem Mid.addD {F : BF} {w1 wx w5 : World} {s s2 : BS} {x : Ex} {G : Nat} {A : Option Addr} {c : Nat} {o : Obj} {v v' : Value} (h : Mid F w1 s x G A c [[]] 1 0 0 wx s2) (hv : s2.vD = v) (hO : w5.ownsRow 0 123 1 v' (s2.nD + 1) ((nils s2.nD) ++ [.slice none 0 0])) (hgr : (wx.alloc o).grownBy w5 v.ownBlock) (hat : v'.ownBlock = v.ownBlock ∨ v'.ownBlock = some (wx.alloc o).heap.size) :
    ∃ s3, Mid F w1 s x G A c [[]] 1 1 0 (w5.setCell ⟨F.gm, 4, none⟩ v') s3 := by
  subst hv
  obtain ⟨h1, h2, h3⟩ := nil_facts h.ok (fun k hk => by rw [h.ok.tD k hk]; omega) hgr hat
  obtain ⟨k1, k2⟩ := h.ok.addD hO h1 h3
  exact ⟨_, k1, h.st.trans k2, h.es, h.ks, h.nX, by show s2.nD + 1 = s.nD + 1; rw [h.nD], h.nV, h.bG.chg k2.chg (by rw [h.st.T G h.hG, h.G0]; omega), h.hG, h.G0⟩
theorem Mid.addV {F : BF} {w1 wx w5 : World} {s s2 : BS} {x : Ex} {G : Nat} {A : Option Addr} {c : Nat} {o : Obj} {v v' : Value} (h : Mid F w1 s x G A c [[]] 1 1 0 wx s2) (hv : s2.vV = v) (hO : w5.ownsRow 0 88 1 v' (s2.nV + 1) ((nils s2.nV) ++ [.slice none 0 0])) (hgr : (wx.alloc o).grownBy w5 v.ownBlock) (hat : v'.ownBlock = v.ownBlock ∨ v'.ownBlock = some (wx.alloc o).heap.size) :
    ∃ s3, Mid F w1 s x G A c [[]] 1 1 1 (w5.setCell ⟨F.gm, 5, none⟩ v') s3 := by
  subst hv
  obtain ⟨h1, h2, h3⟩ := nil_facts h.ok (fun k hk => by rw [h.ok.tV k hk]; omega) hgr hat
  obtain ⟨k1, k2⟩ := h.ok.addV hO h1 h3
  exact ⟨_, k1, h.st.trans k2, h.es, h.ks, h.nX, h.nD, by show s2.nV + 1 = s.nV + 1; rw [h.nV], h.bG.chg k2.chg (by rw [h.st.T G h.hG, h.G0]; omega), h.hG, h.G0⟩

def RL (s : BS) (n : Nat) : Prop := s.es.length = n ∧ s.ks.length = n ∧ s.nX = n ∧ s.nD = n ∧ s.nV = n
def APost (F : BF) (w : World) (s : BS) (x : Ex) (e : Ending) (w' : World) : Prop :=
  ∃ s' m mk, e = .returned (.int .i64 (s.es.length : Int)) ∧ BOk w' F s' ∧ Bst w s w' s' ∧ s'.es = s.es ++ m ∧ s'.ks = s.ks ++ mk ∧ m.length = nodesP x ∧ RL s' (s.es.length + nodesP x) ∧ TreeAt s'.es s'.ks x s.es.length
def AddN (F : BF) (x : Ex) : Prop := ∀ (A : Option Addr) (n c : Nat) (S : Nat → Prop) (w : World) (s : BS), BOk w F s → RL s s.es.length → Sl w S A n c x.l → (∀ k, S k → k < w.heap.size → s.T k = 0) → s.es.length + nodesP x ≤ 4096 →
  Calls Tryd.prog 96 #[.pointer (some ⟨F.gm, 0, none⟩), .agg #[.int .i64 x.k, .int .i64 x.f, .int .i64 x.t, .int .i64 x.a, .int .i64 x.b, .slice A n c]] w fun e w' => APost F w s x e w'

theorem nodesS_take : ∀ (l : List Ex) (j : Nat), nodesS (l.take j) ≤ nodesS l
  | [], j => by simp
  | x :: xs, 0 => by simp [nodesS]
  | x :: xs, j + 1 => by have := nodesS_take xs j; simp [nodesS]; omega
theorem nodesS_take_succ (l : List Ex) (j : Nat) (hj : j < l.length) : nodesS (l.take (j + 1)) = nodesS (l.take j) + nodesP l[j] := by
  rw [← List.take_append_getElem hj, nodesS_snoc]
theorem OwI.own {w : World} {base : Nat} {v : Value} {l : List Nat} (h : OwI w base v l) : IntsV w (fun g => v.ownBlock = some g) v l := by
  have h' := h.ints
  obtain ⟨A, c, h1, h2, h3, h4⟩ := h'
  refine ⟨A, c, h1, h2, h3, fun hne => ?_⟩
  obtain ⟨g, o, k1, k2, k3, k4⟩ := h4 hne
  refine ⟨g, o, k1, k2, ?_, k4⟩
  rw [h1, k1]; rfl
/-- the loop over the kids: what is done -/
structure AL (F : BF) (w1 : World) (s : BS) (x : Ex) (G : Nat) (A : Option Addr) (c : Nat) (wr : World) (s3 : BS) (j : Nat) (u : Value) (ids : List Nat) (m : List Ex) (mk : List (List Nat)) : Prop where
  hj : j ≤ x.l.length
  ok : BOk wr F s3
  st : Bst w1 s wr s3
  es : s3.es = s.es ++ x :: m
  ks : s3.ks = s.ks ++ [] :: mk
  ml : m.length = nodesS (x.l.take j)
  rl : RL s3 (s.es.length + 1 + nodesS (x.l.take j))
  tr : TreesAt s3.es s3.ks (x.l.take j) (s.es.length + 1) ids
  ow : OwI wr w1.heap.size u ids
  t8 : ∀ k, u.ownBlock = some k → s3.T k = 8
  idl : ids.length = j
  bG : Blk wr G 25 #[.int .i64 x.k, .int .i64 x.f, .int .i64 x.t, .int .i64 x.a, .int .i64 x.b, .slice A x.l.length c]
  hG : G < w1.heap.size
  G0 : s.T G = 0
theorem AL.start {F : BF} {w1 wx : World} {s s2 : BS} {x : Ex} {G : Nat} {A : Option Addr} {c : Nat} (h : Mid F w1 s x G A c [[]] 1 1 1 wx s2) (hrl : RL s s.es.length) : AL F w1 s x G A c wx s2 0 (.slice none 0 0) [] [] [] := by
  obtain ⟨r1, r2, r3, r4, r5⟩ := hrl
  refine ⟨Nat.zero_le _, h.ok, h.st, h.es, h.ks, by simp [nodesS], ?_, ?_, OwI.nil _ _, fun k hk => by simp [Value.ownBlock] at hk, rfl, h.bG, h.hG, h.G0⟩
  · refine ⟨?_, ?_, ?_, ?_, ?_⟩
    · rw [h.es]; simp [nodesS]
    · rw [h.ks]; simp [nodesS, r2]
    · rw [h.nX]; simp [nodesS, r3]
    · rw [h.nD]; simp [nodesS, r4]
    · rw [h.nV]; simp [nodesS, r5]
  · rw [List.take_zero]; unfold TreesAt; rfl
theorem AL.next {F : BF} {w1 wr w' : World} {s s3 : BS} {x : Ex} {G : Nat} {A : Option Addr} {c j : Nat} {u : Value} {ids : List Nat} {m : List Ex} {mk : List (List Nat)} {e : Ending} (h : AL F w1 s x G A c wr s3 j u ids m mk) (hlt : j < x.l.length) (hp : APost F wr s3 x.l[j] e w') :
    e = .returned (.int .i64 (s3.es.length : Int)) ∧ OwI w' w1.heap.size u ids ∧ w1.heap.size ≤ w'.heap.size ∧ Blk w' G 25 #[.int .i64 x.k, .int .i64 x.f, .int .i64 x.t, .int .i64 x.a, .int .i64 x.b, .slice A x.l.length c] ∧
      ∀ (o : Obj) (v' : Value) (w9 : World), OwI w9 w1.heap.size v' (ids ++ [s3.es.length]) → (w'.alloc o).grownBy w9 u.ownBlock → (v'.ownBlock = u.ownBlock ∨ v'.ownBlock = some (w'.alloc o).heap.size) → ∃ s5 m5 mk5, AL F w1 s x G A c w9 s5 (j + 1) v' (ids ++ [s3.es.length]) m5 mk5 := by
  obtain ⟨s4, m4, mk4, rfl, k1, k2, k3, k4, k5, k6, k7⟩ := hp
  have hsz : wr.heap.size ≤ w'.heap.size := k2.chg.size
  have hsz1 : w1.heap.size ≤ wr.heap.size := h.st.chg.size
  have ow' : OwI w' w1.heap.size u ids := h.ow.chg k2.chg fun k hk e => by have := h.t8 k hk; omega
  have t8' : ∀ k, u.ownBlock = some k → s4.T k = 8 := fun k hk => (k2.T k (h.ow.lt k hk).2).trans (h.t8 k hk)
  have bst : Bst w1 s w' s4 := h.st.trans k2
  have hGT : ¬ (1 ≤ s.T G ∧ s.T G ≤ 6) := by rw [h.G0]; omega
  have hb' : Blk w' G 25 _ := h.bG.chg k2.chg (by rw [h.st.T G h.hG, h.G0]; omega)
  refine ⟨rfl, ow', by omega, hb', fun o v' w9 hO hgr hat => ?_⟩
  have hch : Chg (fun p => some p = u.ownBlock) w' w9 := ((Chg.refl (fun p => some p = u.ownBlock) w').alloc o).then_ (Chg.of_grown (S := fun p => some p = u.ownBlock) hgr fun p e _ => e.symm) fun p _ e => e
  obtain ⟨b1, b2⟩ := BOk.kid k1 t8' hch (fun k hk => (hO.lt k hk).2) (hat.imp id fun e => ⟨_, e, by simp⟩)
  have e1 : s3.es.length = s.es.length + 1 + nodesS (x.l.take j) := h.rl.1
  have hns := nodesS_take_succ x.l j hlt
  refine ⟨{ s4 with T := tagV s4.T v' 8 }, m ++ m4, mk ++ mk4, ⟨by omega, b1, ⟨?_, ?_⟩, ?_, ?_, ?_, ?_, ?_, hO, fun k hk => if_pos hk, ?_, ?_, h.hG, h.G0⟩⟩
  · exact bst.chg.then_ hch fun p hp e => by have := (ow'.lt p e.symm).1; omega
  · exact fun k hk => (b2 k (by omega)).trans (bst.T k hk)
  · show s4.es = _; rw [k3, h.es]; simp
  · show s4.ks = _; rw [k4, h.ks]; simp
  · rw [List.length_append, h.ml, k5, hns]
  · show RL s4 _
    rw [hns, ← Nat.add_assoc, ← e1]; exact k6
  · show TreesAt s4.es s4.ks _ _ _
    rw [← List.take_append_getElem hlt, e1]
    exact TreesAt.snoc _ _ _ (TreesAt.more m4 mk4 k3 k4 _ _ _ h.tr) (e1 ▸ k7)
  · rw [List.length_append, h.idl]; rfl
  · exact hb'.chg hch fun e => by have := (ow'.lt G e.symm).1; have := h.hG; omega
theorem AL.kids {F : BF} {w1 wr : World} {s s3 : BS} {x : Ex} {G : Nat} {A : Option Addr} {c j : Nat} {u : Value} {ids : List Nat} {m : List Ex} {mk : List (List Nat)} (h : AL F w1 s x G A c wr s3 j u ids m mk) (hrl : RL s s.es.length) :
    ∃ gK nK cK, s3.vK = .slice (some ⟨gK, 0, none⟩) nK cK ∧ s.es.length < nK ∧ (∃ z, wr.cell? ⟨gK, s.es.length, none⟩ = some z) ∧ wr.frozen? ⟨gK, s.es.length, none⟩ = false ∧ gK ≠ F.gm := by
  have hK := h.ok.K
  have hkl : s3.ks.length = (s.es.length + mk.length) + 1 := by rw [h.ks]; simp [hrl.2.1, Nat.add_assoc]
  rw [hkl] at hK
  obtain ⟨gK, cK, e⟩ := ownsRow_some hK
  rw [e] at hK
  have hcl : s.es.length < s3.cK.length := by rw [h.ok.eK.1]; omega
  refine ⟨gK, _, cK, e, by omega, ⟨s3.cK[s.es.length], ?_⟩, hK.frozenAt _, fun q => ?_⟩
  · rw [hK.cellAt _ (by omega)]; exact List.getElem?_eq_getElem hcl
  · have h1 := h.ok.tK gK (by rw [e]; rfl)
    have h2 := h.ok.tm
    rw [q] at h1; omega
theorem AL.fin {F : BF} {w w1 wr : World} {s s3 : BS} {x : Ex} {G : Nat} {A : Option Addr} {c gK nK cK : Nat} {u : Value} {ids : List Nat} {m : List Ex} {mk : List (List Nat)} (hc0 : Chg No w w1) (h : AL F w1 s x G A c wr s3 x.l.length u ids m mk) (hrl : RL s s.es.length) (hv : s3.vK = .slice (some ⟨gK, 0, none⟩) nK cK) :
    APost F w s x (.returned (.int .i64 (s.es.length : Int))) (wr.setCell ⟨gK, s.es.length, none⟩ u) := by
  have fr := h.ok.free u h.t8
  have hkl : s.es.length < s3.ks.length := by rw [h.ks]; simp [hrl.2.1]
  obtain ⟨a1, a2⟩ := fr.setK (i := s.es.length) (u := u) (ids := ids) hv hkl (h.ow.own.imp fun g hg => if_pos hg)
  have b0 : Bst w s w1 s := ⟨hc0.mono fun _ _ e => e.elim, fun _ _ => rfl⟩
  have b1 : Bst w1 s wr { s3 with T := tagV s3.T u 0 } := ⟨h.st.chg, fun k hk => (tagV_old fun e => by have := (h.ow.lt k e).1; omega).trans (h.st.T k hk)⟩
  have ht := h.tr
  have hrr := h.rl
  have hml := h.ml
  rw [List.take_length] at ht hrr hml
  have hn : nodesP x = 1 + nodesS x.l := by cases x; rfl
  have hkset : s3.ks.set s.es.length ids = s.ks ++ ids :: mk := by
    rw [h.ks, List.set_append_right _ _ (by rw [hrl.2.1]; exact Nat.le_refl _), hrl.2.1, Nat.sub_self]; rfl
  refine ⟨_, x :: m, ids :: mk, rfl, a1, (b0.trans b1).trans a2, h.es, hkset, by rw [List.length_cons, hml, hn]; omega, ?_, ?_⟩
  · obtain ⟨r1, r2, r3, r4, r5⟩ := hrr
    refine ⟨?_, ?_, ?_, ?_, ?_⟩
    · show s3.es.length = _; omega
    · show (s3.ks.set _ _).length = _; rw [List.length_set]; omega
    · show s3.nX = _; omega
    · show s3.nD = _; omega
    · show s3.nV = _; omega
  · show TreeAt s3.es (s3.ks.set s.es.length ids) x s.es.length
    have h1 : s3.es[s.es.length]? = some x := by rw [h.es, List.getElem?_append_right (Nat.le_refl _), Nat.sub_self]; rfl
    have h2 : (s3.ks.set s.es.length ids)[s.es.length]? = some ids := List.getElem?_set_self hkl
    have h3 := TreesAt.set s.es.length ids _ _ _ (by omega) ht
    cases x
    unfold TreeAt
    exact ⟨h1, ids, h2, h3⟩
end Go.Proofs.YticipgjbgcdccaaDoor
