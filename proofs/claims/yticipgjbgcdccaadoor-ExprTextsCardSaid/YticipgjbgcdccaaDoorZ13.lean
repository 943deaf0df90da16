/- What is printed is read again: bytes, escapes, members, classes, numbers, times, in plain Lean. No condition: lemmas.
   What is printed is read again: classes, numbers, times. No condition: lemmas.
   What is printed is read again: units, rows, patterns. No condition: lemmas.
   What is printed is read again, whole. No condition: lemmas.
   The reader's faults: none is without a number, and each lies within the text. No condition: lemmas.
   Package graftlaw2: SameExpr: contract. Printed by gen_se.py. -/
import Derived.Test.YticipgjbgcdccaaDoorZ4
import Derived.Test.YticipgjbgcdccaaDoorZ3
import Derived.Test.YticipgjbgcdccaaDoorZ9
import Derived.Deep.RegionHeld3
set_option linter.unusedSimpArgs false
set_option linter.unusedVariables false
namespace Go.Proofs.YticipgjbgcdccaaDoor
open Go.RowKit

/-- a text's bytes -/
def tx (b : ByteArray) : List Nat := b.data.toList.map UInt8.toNat
theorem tx_append (a b : ByteArray) : tx (a ++ b) = tx a ++ tx b := by simp [tx]
theorem tx_b1 {c : Nat} (h : c < 256) : tx (b1 c) = [c] := by
  simp [tx, b1]; omega
theorem tx_b2 {c d : Nat} (h : c < 256) (k : d < 256) : tx (b2 c d) = [c, d] := by
  simp [tx, b2]; omega
theorem tx_len (b : ByteArray) : (tx b).length = b.size := by simp [tx]
/-- the bytes t lie in s from i on -/
def Lies (s : ByteArray) (i : Nat) (t : List Nat) : Prop := ∀ (j x : Nat), t[j]? = some x → bt s (i + j) = x
theorem Lies.append {s : ByteArray} {i : Nat} {t u : List Nat} : Lies s i (t ++ u) ↔ Lies s i t ∧ Lies s (i + t.length) u := by
  constructor
  · intro h
    refine ⟨fun j x hx => h j x ?_, fun j x hx => ?_⟩
    · rw [List.getElem?_append_left (List.getElem?_eq_some_iff.1 hx).1]; exact hx
    · rw [Nat.add_assoc]
      refine h _ x ?_
      rw [List.getElem?_append_right (by omega), Nat.add_sub_cancel_left]; exact hx
  · rintro ⟨h1, h2⟩ j x hx
    by_cases q : j < t.length
    · rw [List.getElem?_append_left q] at hx; exact h1 j x hx
    · rw [List.getElem?_append_right (by omega)] at hx
      have := h2 _ x hx
      rwa [show i + t.length + (j - t.length) = i + j by omega] at this
theorem Lies.cons {s : ByteArray} {i c : Nat} {t : List Nat} : Lies s i (c :: t) ↔ bt s i = c ∧ Lies s (i + 1) t := by
  rw [show c :: t = [c] ++ t from rfl, Lies.append]
  refine and_congr ⟨fun h => by simpa using h 0 c rfl, fun h j x hx => ?_⟩ Iff.rfl
  cases j with
  | zero => simp at hx; subst hx; simpa using h
  | succ j => simp at hx
theorem Lies.nil {s : ByteArray} {i : Nat} : Lies s i [] := fun j x h => by simp at h
theorem lies_self (s : ByteArray) : Lies s 0 (tx s) := by
  intro j x hx
  have hj : j < s.size := by have := (List.getElem?_eq_some_iff.1 hx).1; rwa [tx_len] at this
  unfold tx at hx
  rw [List.getElem?_map, List.getElem?_eq_getElem (by simpa using hj)] at hx
  simp at hx
  rw [Nat.zero_add, ← bt_at s j hj, ← hx]; rfl
theorem bt_small {s : ByteArray} {i c : Nat} (h : bt s i = c) (hc : c < 256) : i < s.size := by
  rcases Nat.lt_or_ge i s.size with q | q
  · exact q
  · rw [bt_end s i q] at h; omega
theorem Lies.room {s : ByteArray} : ∀ {t : List Nat} {i : Nat}, Lies s i t → (∀ c ∈ t, c < 256) → i ≤ s.size → i + t.length ≤ s.size
  | [], i, _, _, hi => hi
  | c :: t, i, h, hc, hi => by
    obtain ⟨h1, h2⟩ := Lies.cons.1 h
    have := h2.room (fun d hd => hc d (by simp [hd])) (bt_small h1 (hc c (by simp)))
    simp only [List.length_cons]; omega

/-- an escape is read -/
theorem digitP_hexd : ∀ d : Fin 16, digitP (hexd d.val) = d.val := by decide
theorem hexd_small : ∀ d : Fin 16, hexd d.val < 256 := by decide
theorem esc_read {s : ByteArray} {i c : Nat} (hc : c < 256) (hw : 32 < c → c ≤ 126 → wordP c = false) (h : Lies s i (tx (escapedP c))) : escP s i = .ok c (i + (tx (escapedP c)).length) := by
  have two : ∀ d : Nat, d < 256 → Lies s i [92, d] → ¬ s.size ≤ i + 1 ∧ bt s (i + 1) = d := fun d hd h => by
    obtain ⟨h1, h2⟩ := Lies.cons.1 h
    obtain ⟨h2, _⟩ := Lies.cons.1 h2
    exact ⟨by have := bt_small h2 hd; omega, h2⟩
  unfold escapedP at h ⊢
  by_cases c1 : c = 10
  · subst c1
    obtain ⟨h1, h2⟩ := two 110 (by omega) h
    unfold escP; rw [if_neg h1, if_pos h2]; rfl
  rw [if_neg c1] at h ⊢
  by_cases c2 : c = 13
  · subst c2
    obtain ⟨h1, h2⟩ := two 114 (by omega) h
    unfold escP; rw [if_neg h1, if_neg (by omega), if_pos h2]; rfl
  rw [if_neg c2] at h ⊢
  by_cases c3 : c = 9
  · subst c3
    obtain ⟨h1, h2⟩ := two 116 (by omega) h
    unfold escP; rw [if_neg h1, if_neg (by omega), if_neg (by omega), if_pos h2]; rfl
  rw [if_neg c3] at h ⊢
  by_cases c4 : 32 < c ∧ c ≤ 126
  · rw [if_pos c4] at h ⊢
    have hww := hw c4.1 c4.2
    have e : tx ((⟨#[92]⟩ : ByteArray) ++ b1 c) = [92, c] := by rw [tx_append, tx_b1 hc]; rfl
    rw [e] at h ⊢
    obtain ⟨h1, h2⟩ := two c hc h
    have hne : c ≠ 110 ∧ c ≠ 114 ∧ c ≠ 116 ∧ c ≠ 120 := by
      refine ⟨?_, ?_, ?_, ?_⟩ <;> (rintro rfl; simp [wordP] at hww)
    unfold escP
    rw [if_neg h1, if_neg (by omega), if_neg (by omega), if_neg (by omega), if_neg (by omega), if_neg (by rw [h2, hww]; simp; omega), h2]; rfl
  · rw [if_neg c4] at h ⊢
    have d1 := hexd_small ⟨c / 16, by omega⟩
    have d2 := hexd_small ⟨c % 16, by omega⟩
    have g1 := digitP_hexd ⟨c / 16, by omega⟩
    have g2 := digitP_hexd ⟨c % 16, by omega⟩
    simp only at d1 d2 g1 g2
    have e : tx ((⟨#[92, 120]⟩ : ByteArray) ++ b2 (hexd (c / 16)) (hexd (c % 16))) = [92, 120, hexd (c / 16), hexd (c % 16)] := by rw [tx_append, tx_b2 d1 d2]; rfl
    rw [e] at h ⊢
    obtain ⟨h0, h⟩ := Lies.cons.1 h
    obtain ⟨h1, h⟩ := Lies.cons.1 h
    obtain ⟨h2, h⟩ := Lies.cons.1 h
    obtain ⟨h3, _⟩ := Lies.cons.1 h
    have s1 := bt_small h1 (by omega)
    have s2 := bt_small h2 d1
    have s3 := bt_small h3 d2
    unfold escP
    rw [if_neg (by omega), if_neg (by omega), if_neg (by omega), if_neg (by omega), if_pos h1]
    unfold hexP hexGo
    rw [show i + 2 = i + 1 + 1 by omega, if_neg (by omega), h2, g1, if_neg (by omega)]
    unfold hexGo
    rw [if_neg (by omega), h3, g2, if_neg (by omega)]
    unfold hexGo
    simp only [List.length_cons, List.length_nil]
    have : 16 * (16 * 0 + (((c / 16 : Nat) : Int)).toNat) + (((c % 16 : Nat) : Int)).toNat = c := by
      rw [show (((c / 16 : Nat) : Int)).toNat = c / 16 from rfl, show (((c % 16 : Nat) : Int)).toNat = c % 16 from rfl]; omega
    rw [this]

/-- a member of a class is read -/
theorem member_ok (c : Nat) : 32 < c → c ≤ 126 → (printableP c && (c != 94) && !hasP classSignsP c) = false → wordP c = false := by
  intro h1 h2 h3
  have hd : ∀ c : Fin 127, 32 < c.val → (printableP c.val && (c.val != 94) && !hasP classSignsP c.val) = false → wordP c.val = false := by decide
  exact hd ⟨c, by omega⟩ h1 h3
theorem one_read {s : ByteArray} {first : Bool} {i c : Nat} (hc : c < 256) (h : Lies s i (tx (memberP c))) : oneP s first i = .ok c (i + (tx (memberP c)).length) := by
  unfold memberP at h ⊢
  by_cases q : (printableP c && (c != 94) && !hasP classSignsP c) = true
  · rw [if_pos q] at h ⊢
    rw [tx_b1 hc] at h ⊢
    have hb : bt s i = c := (Lies.cons.1 h).1
    have hs := bt_small hb hc
    simp only [Bool.and_eq_true, bne_iff_ne, Bool.not_eq_true'] at q
    obtain ⟨⟨q1, q2⟩, q3⟩ := q
    have q4 : c ≠ 92 := by rintro rfl; simp [hasP, classSignsP] at q3
    unfold oneP
    rw [if_neg (by omega), if_neg (by omega), if_neg (by rw [hb, q1, q3]; simp; intro _; exact q2), hb]; rfl
  · rw [if_neg q] at h ⊢
    have hq : (printableP c && (c != 94) && !hasP classSignsP c) = false := by simpa using q
    have he := esc_read hc (fun h1 h2 => member_ok c h1 h2 hq) h
    have h0 : bt s i = 92 := by
      have : ∃ r, tx (escapedP c) = 92 :: r := by
        unfold escapedP
        split
        · exact ⟨_, rfl⟩
        · split
          · exact ⟨_, rfl⟩
          · split
            · exact ⟨_, rfl⟩
            · split
              · exact ⟨_, by rw [tx_append]; rfl⟩
              · exact ⟨_, by rw [tx_append]; rfl⟩
      obtain ⟨r, hr⟩ := this
      rw [hr] at h
      exact (Lies.cons.1 h).1
    have hs := bt_small h0 (by omega)
    unfold oneP
    rw [if_neg (by omega), if_pos h0, he]
/-- a member's first byte: not ']' nor '-', nor '^' -/
theorem member_head {c : Nat} (hc : c < 256) : ∃ d r, tx (memberP c) = d :: r ∧ d ≠ 93 ∧ d ≠ 45 ∧ d ≠ 94 ∧ d < 256 := by
  unfold memberP
  by_cases q : (printableP c && (c != 94) && !hasP classSignsP c) = true
  · rw [if_pos q, tx_b1 hc]
    simp only [Bool.and_eq_true, bne_iff_ne, Bool.not_eq_true'] at q
    obtain ⟨⟨q1, q2⟩, q3⟩ := q
    exact ⟨c, [], rfl, by rintro rfl; simp [hasP, classSignsP] at q3, by rintro rfl; simp [hasP, classSignsP] at q3, q2, hc⟩
  · rw [if_neg q]
    unfold escapedP
    split
    · exact ⟨92, _, rfl, by omega, by omega, by omega, by omega⟩
    · split
      · exact ⟨92, _, rfl, by omega, by omega, by omega, by omega⟩
      · split
        · exact ⟨92, _, rfl, by omega, by omega, by omega, by omega⟩
        · split
          · exact ⟨92, _, by rw [tx_append]; rfl, by omega, by omega, by omega, by omega⟩
          · exact ⟨92, _, by rw [tx_append]; rfl, by omega, by omega, by omega, by omega⟩
end Go.Proofs.YticipgjbgcdccaaDoor
namespace Go.Proofs.YticipgjbgcdccaaDoor
open Go.RowKit

/-- the text of a range's member -/
def mtx (p : Nat × Nat) : List Nat := if p.1 < p.2 then tx (memberP p.1) ++ 45 :: tx (memberP p.2) else tx (memberP p.1)
def pairOk (p : Nat × Nat) : Prop := p.1 ≤ p.2 ∧ p.2 < 256
def prX (x : Ex) : Nat × Nat := (x.f.toNat, x.t.toNat)
theorem tx_range {r : ByteArray} {x : Ex} (h : rangeOk x) : tx (rangeP r x) = tx r ++ mtx (prX x) := by
  obtain ⟨h1, h2, h3⟩ := h
  unfold rangeP mtx prX
  by_cases q : x.f < x.t
  · rw [if_pos q, if_pos (by simp only; omega), tx_append, tx_append, tx_append, List.append_assoc]; rfl
  · rw [if_neg q, if_neg (by simp only; omega), tx_append]
theorem tx_ranges : ∀ (l : List Ex) (r : ByteArray), (∀ x ∈ l, rangeOk x) → tx (l.foldl rangeP r) = tx r ++ (l.map prX).flatMap mtx
  | [], r, _ => by simp
  | x :: l, r, h => by
    simp only [List.foldl_cons, List.map_cons, List.flatMap_cons]
    rw [tx_ranges l _ fun y hy => h y (by simp [hy]), tx_range (h x (by simp)), List.append_assoc]
theorem tx_members {l : List Ex} (h : ∀ x ∈ l, rangeOk x) : tx (membersP l) = 91 :: (l.map prX).flatMap mtx ++ [93] := by
  unfold membersP
  rw [tx_append, tx_append, tx_ranges l _ h]; rfl
theorem mtx_head {p : Nat × Nat} (h : pairOk p) : ∃ d r, mtx p = d :: r ∧ d ≠ 93 ∧ d ≠ 45 ∧ d ≠ 94 ∧ d < 256 := by
  obtain ⟨d, r, e, h1⟩ := member_head (c := p.1) (by have := h.1; have := h.2; omega)
  unfold mtx
  split
  · exact ⟨d, r ++ 45 :: tx (memberP p.2), by rw [e]; rfl, h1⟩
  · exact ⟨d, r, e, h1⟩

theorem class_go {s : ByteArray} {at_ : Nat} : ∀ (ps : List (Nat × Nat)) (l0 : List (Nat × Nat)) (i m : Nat), (∀ p ∈ ps, pairOk p) → (l0 ≠ [] ∨ ps ≠ []) → Lies s i (ps.flatMap mtx) → bt s (i + (ps.flatMap mtx).length) = 93 → ps.length + 1 ≤ m →
    classGo s at_ false m l0 i = .ok (l0 ++ ps) (i + (ps.flatMap mtx).length)
  | [], l0, i, 0, _, _, _, _, hm => by simp at hm
  | p :: ps, l0, i, 0, _, _, _, _, hm => by simp at hm
  | [], l0, i, m + 1, _, hne, _, he, _ => by
    have he : bt s i = 93 := he
    have h0 : l0 ≠ [] := hne.resolve_right fun h => h rfl
    have hs := bt_small he (by omega)
    unfold classGo
    rw [if_neg (by omega), if_pos ⟨h0, he⟩]; simp
  | p :: ps, l0, i, m + 1, hp, hne, hl, he, hm => by
    have hpo := hp p (by simp)
    have hp1 : p.1 < 256 := by have := hpo.1; have := hpo.2; omega
    obtain ⟨d, r, e, d1, d2, d3, d4⟩ := mtx_head hpo
    simp only [List.flatMap_cons] at hl he ⊢
    obtain ⟨hl1, hl2⟩ := Lies.append.1 hl
    have hb : bt s i = d := by rw [e] at hl1; exact (Lies.cons.1 hl1).1
    have hs := bt_small hb d4
    have hm : ps.length + 1 ≤ m := by simpa using hm
    unfold classGo
    rw [if_neg (by omega), if_neg (by rw [hb]; exact fun h => d1 h.2)]
    by_cases q : p.1 < p.2
    · have hmt : mtx p = tx (memberP p.1) ++ 45 :: tx (memberP p.2) := by unfold mtx; rw [if_pos q]
      rw [hmt] at hl1
      obtain ⟨g1, g2⟩ := Lies.append.1 hl1
      obtain ⟨g2, g3⟩ := Lies.cons.1 g2
      have hs2 := bt_small g2 (by omega)
      rw [one_read hp1 g1]
      simp only [PR.bind_ok]
      rw [if_neg (by omega), if_pos g2, one_read hpo.2 g3]
      simp only [PR.bind_ok]
      rw [if_neg (by omega)]
      have hL : i + (tx (memberP p.1)).length + 1 + (tx (memberP p.2)).length = i + (mtx p).length := by rw [hmt]; simp; omega
      rw [hL]
      have := class_go (at_ := at_) ps (l0 ++ [p]) (i + (mtx p).length) m (fun x hx => hp x (by simp [hx])) (.inl (by simp)) hl2 (by rw [List.length_append] at he; rwa [Nat.add_assoc]) hm
      rw [show (p.1, p.2) = p from rfl, this]
      simp [Nat.add_assoc]
    · have hmt : mtx p = tx (memberP p.1) := by unfold mtx; rw [if_neg q]
      have hpp : (p.1, p.1) = p := by
        have h1 := hpo.1
        have : p.1 = p.2 := by omega
        rw [Prod.ext_iff]; exact ⟨rfl, this⟩
      rw [hmt] at hl1
      rw [one_read hp1 hl1]
      simp only [PR.bind_ok]
      have hnx : ∃ c, bt s (i + (tx (memberP p.1)).length) = c ∧ c ≠ 45 ∧ c < 256 := by
        rw [hmt] at hl2 he
        cases ps with
        | nil => exact ⟨93, by simpa using he, by omega, by omega⟩
        | cons q ps =>
          obtain ⟨d, r, e, d1, d2, d3, d4⟩ := mtx_head (hp q (by simp))
          simp only [List.flatMap_cons, e] at hl2
          exact ⟨d, (Lies.cons.1 hl2).1, d2, d4⟩
      obtain ⟨c, c1, c2, c3⟩ := hnx
      have hs2 := bt_small c1 c3
      rw [if_neg (by omega), if_neg (by rw [c1]; exact c2), hpp, ← hmt]
      have := class_go (at_ := at_) ps (l0 ++ [p]) (i + (mtx p).length) m (fun x hx => hp x (by simp [hx])) (.inl (by simp)) hl2 (by rw [List.length_append] at he; rwa [Nat.add_assoc]) hm
      rw [this]
      simp [Nat.add_assoc]

theorem mtx_pos {p : Nat × Nat} (h : pairOk p) : 0 < (mtx p).length := by
  obtain ⟨d, r, e, _⟩ := mtx_head h
  rw [e]; simp
theorem flat_len : ∀ (ps : List (Nat × Nat)), (∀ p ∈ ps, pairOk p) → ps.length ≤ (ps.flatMap mtx).length
  | [], _ => by simp
  | p :: ps, h => by
    have h1 := mtx_pos (h p (by simp))
    have h2 := flat_len ps fun q hq => h q (by simp [hq])
    simp only [List.flatMap_cons, List.length_append, List.length_cons]; omega
/-- a class is read -/
theorem class_read {s : ByteArray} {i : Nat} {ps : List (Nat × Nat)} (hne : ps ≠ []) (hp : ∀ p ∈ ps, pairOk p) (h : Lies s i (91 :: ps.flatMap mtx ++ [93])) :
    classP s i = .ok (eitherR ps) (i + (91 :: ps.flatMap mtx ++ [93]).length) := by
  obtain ⟨h1, h2⟩ := Lies.append.1 h
  obtain ⟨h0, h1⟩ := Lies.cons.1 h1
  have h3 : bt s (i + 1 + (ps.flatMap mtx).length) = 93 := by
    have := (Lies.cons.1 h2).1
    rw [List.length_cons] at this
    rwa [show i + 1 + (ps.flatMap mtx).length = i + ((ps.flatMap mtx).length + 1) by omega]
  have hs := bt_small h3 (by omega)
  have hl := flat_len ps hp
  have hb : bt s (i + 1) ≠ 94 := by
    cases ps with
    | nil => exact absurd rfl hne
    | cons q ps =>
      obtain ⟨d, r, e, d1, d2, d3, d4⟩ := mtx_head (hp q (by simp))
      simp only [List.flatMap_cons, e] at h1
      rw [(Lies.cons.1 h1).1]; exact d3
  unfold classP
  rw [decide_eq_false hb, if_neg hb, class_go ps [] (i + 1) (s.size + 1) hp (.inr hne) h1 h3 (by omega)]
  simp only [PR.bind_ok, List.nil_append]
  unfold classEnd
  simp only [Bool.false_eq_true, if_false]
  rw [if_neg hne]
  simp only [List.length_append, List.length_cons, List.length_nil]
  congr 1; omega

/-- a number's digits -/
def digsOk (D : List Nat) (n : Nat) : Prop := 0 < D.length ∧ D.length ≤ 4 ∧ (∀ d ∈ D, 48 ≤ d ∧ d ≤ 57) ∧ D.foldl (fun a d => 10 * a + (d - 48)) 0 = n
instance (D : List Nat) (n : Nat) : Decidable (digsOk D n) := by unfold digsOk; infer_instance
theorem itoa_digs0 : ∀ n : Fin 1001, digsOk ((Lib.itoa (n.val : Int)).map UInt8.toNat) n.val := by decide +kernel
theorem itoa_digs {n : Nat} (h : n ≤ 1000) : digsOk (tx (itoaB (n : Int))) n := itoa_digs0 ⟨n, by omega⟩
theorem num_go {s : ByteArray} : ∀ (D : List Nat) (k n i : Nat), (∀ d ∈ D, 48 ≤ d ∧ d ≤ 57) → Lies s i D → D.length ≤ k → i + D.length < s.size → (bt s (i + D.length) < 48 ∨ 57 < bt s (i + D.length)) → (D ≠ [] ∨ k ≠ 4) → k ≤ 4 →
    numGo s k n i = .ok (D.foldl (fun a d => 10 * a + (d - 48)) n) (i + D.length)
  | [], 0, n, i, _, _, _, _, _, _, _ => by unfold numGo; rfl
  | d :: D, 0, n, i, _, _, h, _, _, _, _ => by simp at h
  | [], k + 1, n, i, _, _, _, hs, hb, hk, _ => by
    have hs : i < s.size := hs
    have hb : bt s i < 48 ∨ 57 < bt s i := hb
    unfold numGo
    rw [if_neg (by omega), if_pos hb, if_neg (by have := hk.resolve_left (fun h => h rfl); omega)]; rfl
  | d :: D, k + 1, n, i, hd, hl, hlen, hs, hb, _, hk4 => by
    obtain ⟨h1, h2⟩ := Lies.cons.1 hl
    have hdd := hd d (by simp)
    simp only [List.length_cons] at hlen hs hb ⊢
    unfold numGo
    rw [if_neg (by omega), if_neg (by omega), h1, num_go D k _ (i + 1) (fun x hx => hd x (by simp [hx])) h2 (by omega) (by omega) (by rwa [show i + 1 + D.length = i + (D.length + 1) by omega]) (.inr (by omega)) (by omega)]
    simp only [List.foldl_cons]
    congr 1; omega
theorem num_read {s : ByteArray} {i n : Nat} (hn : n ≤ 1000) (h : Lies s i (tx (itoaB (n : Int)))) (hs : i + (tx (itoaB (n : Int))).length < s.size) (hb : bt s (i + (tx (itoaB (n : Int))).length) < 48 ∨ 57 < bt s (i + (tx (itoaB (n : Int))).length)) :
    numP s i = .ok n (i + (tx (itoaB (n : Int))).length) := by
  obtain ⟨h1, h2, h3, h4⟩ := itoa_digs hn
  unfold numP
  rw [num_go _ 4 0 i h3 h h2 hs hb (.inl (by intro e; rw [e] at h1; simp at h1)) (by omega), h4]

theorem timesGo_succ (s : ByteArray) (m : Nat) (x : Ex) (i : Nat) : timesGo s (m + 1) x i = if bt s i = 42 then timesGo s m (repEx 0 (-1) x) (i + 1)
    else if bt s i = 43 then timesGo s m (repEx 1 (-1) x) (i + 1)
    else if bt s i = 63 then timesGo s m (repEx 0 1 x) (i + 1)
    else if bt s i = 123 then (bracesP s i).bind fun p j => timesGo s m (repEx p.1 p.2 x) j
    else .ok x i := by conv => lhs; unfold timesGo
/-- the times behind an atom are read -/
theorem times_read {s : ByteArray} {i : Nat} {a b : Int} {x : Ex} (ha : 0 ≤ a ∧ a ≤ 1000) (hb : b = -1 ∨ a ≤ b ∧ b ≤ 1000) (h : Lies s i (tx (oftenP a b))) (q : Nat) :
    timesGo s (q + 1) x i = timesGo s q (repEx a b x) (i + (tx (oftenP a b)).length) := by
  obtain ⟨n, rfl⟩ : ∃ n : Nat, a = (n : Int) := ⟨a.toNat, by omega⟩
  unfold oftenP at h ⊢
  by_cases c1 : (n : Int) = 0 ∧ b < 0
  · rw [if_pos c1] at h ⊢
    have hb1 : bt s i = 42 := (Lies.cons.1 (show Lies s i [42] from h)).1
    rw [timesGo_succ, if_pos hb1, c1.1, show b = -1 by omega]; rfl
  rw [if_neg c1] at h ⊢
  by_cases c2 : (n : Int) = 1 ∧ b < 0
  · rw [if_pos c2] at h ⊢
    have hb1 : bt s i = 43 := (Lies.cons.1 (show Lies s i [43] from h)).1
    rw [timesGo_succ, if_neg (by omega), if_pos hb1, c2.1, show b = -1 by omega]; rfl
  rw [if_neg c2] at h ⊢
  by_cases c3 : (n : Int) = 0 ∧ b = 1
  · rw [if_pos c3] at h ⊢
    have hb1 : bt s i = 63 := (Lies.cons.1 (show Lies s i [63] from h)).1
    rw [timesGo_succ, if_neg (by omega), if_neg (by omega), if_pos hb1, c3.1, c3.2]; rfl
  rw [if_neg c3] at h ⊢
  have brace : ∀ (t : List Nat) (p : Int × Int), Lies s i (123 :: t) → bracesP s i = .ok p (i + (123 :: t).length) → timesGo s (q + 1) x i = timesGo s q (repEx p.1 p.2 x) (i + (123 :: t).length) := fun t p ht hp => by
    have hb1 := (Lies.cons.1 ht).1
    rw [timesGo_succ, if_neg (by omega), if_neg (by omega), if_neg (by omega), if_pos hb1, hp]; rfl
  by_cases c4 : (n : Int) = b
  · rw [if_pos c4] at h ⊢
    have e : tx ((⟨#[123]⟩ : ByteArray) ++ itoaB (n : Int) ++ ⟨#[125]⟩) = 123 :: (tx (itoaB (n : Int)) ++ [125]) := by rw [tx_append, tx_append]; rfl
    rw [e] at h ⊢
    obtain ⟨h0, h1⟩ := Lies.cons.1 h
    obtain ⟨h1, h2⟩ := Lies.append.1 h1
    have h3 := (Lies.cons.1 h2).1
    have s3 := bt_small h3 (by omega)
    refine (brace _ ((n : Int), (n : Int)) h ?_).trans (by rw [← c4])
    unfold bracesP
    rw [num_read (by omega) h1 s3 (by omega)]
    dsimp only
    rw [if_neg (by omega), if_neg (by omega)]
    unfold closeB
    rw [if_neg (by omega), if_neg (by omega), if_neg (by omega)]
    simp only [List.length_cons, List.length_append, List.length_nil]
    congr 1; omega
  rw [if_neg c4] at h ⊢
  by_cases c5 : b < 0
  · rw [if_pos c5] at h ⊢
    have e : tx ((⟨#[123]⟩ : ByteArray) ++ itoaB (n : Int) ++ ⟨#[44, 125]⟩) = 123 :: (tx (itoaB (n : Int)) ++ [44, 125]) := by rw [tx_append, tx_append]; rfl
    rw [e] at h ⊢
    obtain ⟨h0, h1⟩ := Lies.cons.1 h
    obtain ⟨h1, h2⟩ := Lies.append.1 h1
    obtain ⟨h3, h4⟩ := Lies.cons.1 h2
    have h4 := (Lies.cons.1 h4).1
    have s3 := bt_small h3 (by omega)
    have s4 := bt_small h4 (by omega)
    refine (brace _ ((n : Int), -1) h ?_).trans (by rw [show b = -1 by omega])
    unfold bracesP
    rw [num_read (by omega) h1 s3 (by omega)]
    dsimp only
    rw [if_neg (by omega), if_pos h3, if_neg (by omega), if_pos h4]
    unfold closeB
    rw [if_neg (by omega), if_neg (by omega), if_neg (by omega)]
    simp only [List.length_cons, List.length_append, List.length_nil]
    congr 1; omega
  · rw [if_neg c5] at h ⊢
    obtain ⟨m, rfl⟩ : ∃ m : Nat, b = (m : Int) := ⟨b.toNat, by omega⟩
    have e : tx ((⟨#[123]⟩ : ByteArray) ++ itoaB (n : Int) ++ ⟨#[44]⟩ ++ itoaB (m : Int) ++ ⟨#[125]⟩) = 123 :: (tx (itoaB (n : Int)) ++ 44 :: (tx (itoaB (m : Int)) ++ [125])) := by
      rw [tx_append, tx_append, tx_append, tx_append]
      show [123] ++ tx (itoaB (n : Int)) ++ [44] ++ tx (itoaB (m : Int)) ++ [125] = _
      simp
    rw [e] at h ⊢
    obtain ⟨h0, h1⟩ := Lies.cons.1 h
    obtain ⟨h1, h2⟩ := Lies.append.1 h1
    obtain ⟨h3, h4⟩ := Lies.cons.1 h2
    obtain ⟨h4, h5⟩ := Lies.append.1 h4
    have h5 := (Lies.cons.1 h5).1
    have s3 := bt_small h3 (by omega)
    have s5 := bt_small h5 (by omega)
    have hdm := itoa_digs (n := m) (by omega)
    have hne : bt s (i + 1 + (tx (itoaB (n : Int))).length + 1) ≠ 125 := by
      obtain ⟨g1, _, g3, _⟩ := hdm
      cases hq : tx (itoaB (m : Int)) with
      | nil => rw [hq] at g1; simp at g1
      | cons d D =>
        rw [hq] at h4 g3
        rw [(Lies.cons.1 h4).1]
        have := g3 d (by simp); omega
    refine (brace _ ((n : Int), (m : Int)) h ?_).trans rfl
    unfold bracesP
    rw [num_read (by omega) h1 s3 (by omega)]
    dsimp only
    rw [if_neg (by omega), if_pos h3, if_neg (by omega), if_neg hne, num_read (by omega) h4 s5 (by omega)]
    dsimp only
    unfold closeB
    rw [if_neg (by omega), if_neg (by omega), if_neg (by omega)]
    simp only [List.length_cons, List.length_append, List.length_nil]
    congr 1; omega
end Go.Proofs.YticipgjbgcdccaaDoor
namespace Go.Proofs.YticipgjbgcdccaaDoor
open Go.RowKit

/-- behind an atom and its times no more times follow -/
def Foll (c : Nat) : Prop := c ≠ 42 ∧ c ≠ 43 ∧ c ≠ 63 ∧ c ≠ 123
/-- a byte that an atom begins with -/
def HeadOk (c : Nat) : Prop := Foll c ∧ c ≠ 124 ∧ c ≠ 41 ∧ c < 256
def EndR (c : Nat) : Prop := c = 124 ∨ c = 41 ∨ c = 256
def EndP (c : Nat) : Prop := c = 41 ∨ c = 256
theorem times_end {s : ByteArray} {q i : Nat} {x : Ex} (h : Foll (bt s i)) : timesGo s (q + 1) x i = .ok x i := by
  obtain ⟨h1, h2, h3, h4⟩ := h
  rw [timesGo_succ, if_neg h1, if_neg h2, if_neg h3, if_neg h4]

/-- the text t is an atom with its times: read as x -/
structure UnitR (x : Ex) (t : List Nat) : Prop where
  head : ∃ c r, t = c :: r ∧ HeadOk c
  small : ∀ c ∈ t, c < 256
  reads : ∀ s i, Lies s i t → ∃ x0 j0 r, r ≤ t.length ∧ (∀ m, 5 * t.length ≤ m + 4 → atomP s m i = .ok x0 j0) ∧ ∀ q, timesGo s (q + r) x0 j0 = timesGo s q x (i + t.length)
/-- the text t is a row of units -/
structure RowR (l : List Ex) (t : List Nat) : Prop where
  head : t = [] ∨ ∃ c r, t = c :: r ∧ HeadOk c
  small : ∀ c ∈ t, c < 256
  reads : ∀ s i, i ≤ s.size → Lies s i t → EndR (bt s (i + t.length)) → ∀ m l0, 5 * t.length + 1 ≤ m → rowGo s m l0 i = .ok (oneOr 2 (l0 ++ l)) (i + t.length)
/-- the text t is of rows -/
structure PatR (l : List Ex) (t : List Nat) : Prop where
  small : ∀ c ∈ t, c < 256
  reads : ∀ s i, i ≤ s.size → Lies s i t → EndP (bt s (i + t.length)) → ∀ m l0, 5 * t.length + 2 ≤ m → patGo s m l0 i = .ok (oneOr 3 (l0 ++ l)) (i + t.length)

theorem rowGo_succ (s : ByteArray) (m : Nat) (l : List Ex) (i : Nat) : rowGo s (m + 1) l i = if s.size ≤ i ∨ bt s i = 124 ∨ bt s i = 41 then .ok (oneOr 2 l) i
    else (atomP s m i).bind fun x j => (timesGo s (s.size + 1) x j).bind fun y j2 => rowGo s m (l ++ [y]) j2 := by conv => lhs; unfold rowGo
theorem patGo_succ (s : ByteArray) (m : Nat) (l : List Ex) (i : Nat) : patGo s (m + 1) l i = (rowGo s m [] i).bind fun x j => if bt s j = 124 then patGo s m (l ++ [x]) (j + 1) else .ok (oneOr 3 (l ++ [x])) j := by conv => lhs; unfold patGo
theorem atomP_succ (s : ByteArray) (m i : Nat) : atomP s (m + 1) i = if bt s i = 92 then (escP s i).bind fun c j => .ok (byteEx c) j
    else if bt s i = 46 then .ok anyEx (i + 1)
    else if bt s i = 91 then classP s i
    else if bt s i = 40 then (patGo s m [] (i + 1)).bind fun x j => if s.size ≤ j then .bad 23 s.size else if bt s j = 41 then .ok x (j + 1) else .bad 22 j
    else if plainP (bt s i) = true then .ok (byteEx (bt s i)) (i + 1)
    else .bad 22 i := by conv => lhs; unfold atomP

theorem RowR.nil : RowR [] [] where
  head := .inl rfl
  small := fun c h => by simp at h
  reads := fun s i hi _ he m l0 hm => by
    obtain ⟨m, rfl⟩ : ∃ k, m = k + 1 := ⟨m - 1, by simp at hm; omega⟩
    have he : EndR (bt s i) := he
    have hc : s.size ≤ i ∨ bt s i = 124 ∨ bt s i = 41 := by
      rcases he with h | h | h
      · exact .inr (.inl h)
      · exact .inr (.inr h)
      · left
        rcases Nat.lt_or_ge i s.size with q | q
        · have := bt_lt s i q; omega
        · exact q
    rw [rowGo_succ, if_pos hc]; simp
theorem RowR.cons {x : Ex} {l : List Ex} {t u : List Nat} (hx : UnitR x t) (hl : RowR l u) : RowR (x :: l) (t ++ u) where
  head := by
    obtain ⟨c, r, e, h⟩ := hx.head
    exact .inr ⟨c, r ++ u, by rw [e]; rfl, h⟩
  small := fun c h => by
    rw [List.mem_append] at h
    rcases h with h | h
    · exact hx.small c h
    · exact hl.small c h
  reads := fun s i hi h he m l0 hm => by
    rw [List.length_append] at he hm ⊢
    obtain ⟨h1, h2⟩ := Lies.append.1 h
    have hroom := h1.room hx.small hi
    obtain ⟨c, r, e, hc⟩ := hx.head
    have hpos : 0 < t.length := by rw [e]; simp
    have hb : bt s i = c := by rw [e] at h1; exact (Lies.cons.1 h1).1
    have hs := bt_small hb hc.2.2.2
    obtain ⟨m, rfl⟩ : ∃ k, m = k + 1 := ⟨m - 1, by omega⟩
    obtain ⟨x0, j0, k, hk, hat, htm⟩ := hx.reads s i h1
    have hf : Foll (bt s (i + t.length)) := by
      rcases hl.head with rfl | ⟨d, r', e', hd⟩
      · rw [List.length_nil, Nat.add_zero] at he
        rcases he with h | h | h <;> rw [h] <;> exact ⟨by omega, by omega, by omega, by omega⟩
      · rw [e'] at h2
        rw [(Lies.cons.1 h2).1]; exact hd.1
    rw [rowGo_succ, if_neg (by rw [hb]; have := hc.2.1; have := hc.2.2.1; omega), hat m (by omega)]
    simp only [PR.bind_ok]
    have hsz : s.size + 1 = (s.size - k) + 1 + k := by omega
    rw [hsz, htm, times_end hf]
    simp only [PR.bind_ok]
    rw [hl.reads s _ hroom h2 (by rwa [Nat.add_assoc]) m (l0 ++ [x]) (by omega)]
    rw [List.append_assoc, Nat.add_assoc]; rfl
theorem RowR.one {x : Ex} {t : List Nat} (hx : UnitR x t) : RowR [x] t := by
  have := RowR.cons hx RowR.nil
  rwa [List.append_nil] at this

theorem PatR.one {x : Ex} {l : List Ex} {t : List Nat} (h : RowR l t) (hx : oneOr 2 l = x) : PatR [x] t where
  small := h.small
  reads := fun s i hi ht he m l0 hm => by
    obtain ⟨m, rfl⟩ : ∃ k, m = k + 1 := ⟨m - 1, by omega⟩
    rw [patGo_succ, h.reads s i hi ht (he.elim (fun h => .inr (.inl h)) fun h => .inr (.inr h)) m [] (by omega)]
    simp only [PR.bind_ok, List.nil_append]
    rw [if_neg (by rcases he with h | h <;> omega), hx]
theorem PatR.cons {x : Ex} {l l2 : List Ex} {t u : List Nat} (h : RowR l t) (hx : oneOr 2 l = x) (hl : PatR l2 u) : PatR (x :: l2) (t ++ 124 :: u) where
  small := fun c hc => by
    simp only [List.mem_append, List.mem_cons] at hc
    rcases hc with hc | hc | hc
    · exact h.small c hc
    · omega
    · exact hl.small c hc
  reads := fun s i hi ht he m l0 hm => by
    rw [List.length_append, List.length_cons] at he hm ⊢
    obtain ⟨h1, h2⟩ := Lies.append.1 ht
    obtain ⟨h3, h4⟩ := Lies.cons.1 h2
    have hs := bt_small h3 (by omega)
    obtain ⟨m, rfl⟩ : ∃ k, m = k + 1 := ⟨m - 1, by omega⟩
    rw [patGo_succ, h.reads s i hi h1 (.inl h3) m [] (by omega)]
    simp only [PR.bind_ok, List.nil_append]
    rw [if_pos h3, hx, hl.reads s _ (by omega) h4 (by rwa [show i + t.length + 1 + u.length = i + (t.length + (u.length + 1)) by omega]) m (l0 ++ [x]) (by omega)]
    rw [List.append_assoc, show i + t.length + 1 + u.length = i + (t.length + (u.length + 1)) by omega]; rfl

theorem headOk_of {c : Nat} (h : ¬ (c = 42 ∨ c = 43 ∨ c = 63 ∨ c = 123 ∨ c = 124 ∨ c = 41)) (hc : c < 256) : HeadOk c := ⟨⟨by omega, by omega, by omega, by omega⟩, by omega, by omega, hc⟩
/-- an atom -/
theorem UnitR.atom {x : Ex} {t : List Nat} (hh : ∃ c r, t = c :: r ∧ HeadOk c) (hs : ∀ c ∈ t, c < 256) (h : ∀ s i, Lies s i t → ∀ m, 5 * t.length ≤ m + 4 → atomP s m i = .ok x (i + t.length)) : UnitR x t where
  head := hh
  small := hs
  reads := fun s i hl => ⟨x, i + t.length, 0, Nat.zero_le _, h s i hl, fun q => rfl⟩
/-- a pattern in brackets -/
theorem UnitR.paren {l : List Ex} {t : List Nat} (h : PatR l t) : UnitR (oneOr 3 l) (40 :: t ++ [41]) := by
  refine UnitR.atom ⟨40, t ++ [41], rfl, headOk_of (by omega) (by omega)⟩ (fun c hc => ?_) fun s i hl m hm => ?_
  · simp only [List.cons_append, List.mem_cons, List.mem_append, List.not_mem_nil, or_false] at hc
    rcases hc with hc | hc | hc
    · omega
    · exact h.small c hc
    · omega
  · simp only [List.cons_append, List.length_cons, List.length_append, List.length_nil] at hm ⊢
    obtain ⟨h0, h1⟩ := Lies.cons.1 (show Lies s i (40 :: (t ++ [41])) from hl)
    obtain ⟨h1, h2⟩ := Lies.append.1 h1
    have h3 := (Lies.cons.1 h2).1
    have s3 := bt_small h3 (by omega)
    have s0 := bt_small h0 (by omega)
    obtain ⟨m, rfl⟩ : ∃ k, m = k + 1 := ⟨m - 1, by omega⟩
    rw [atomP_succ, if_neg (by omega), if_neg (by omega), if_neg (by omega), if_pos h0, h.reads s (i + 1) (by omega) h1 (.inl h3) m [] (by omega)]
    simp only [PR.bind_ok, List.nil_append]
    rw [if_neg (by omega), if_pos h3]
    congr 1; omega
/-- times behind a unit -/
theorem UnitR.times {y : Ex} {t : List Nat} {a b : Int} (h : UnitR y t) (ha : 0 ≤ a ∧ a ≤ 1000) (hb : b = -1 ∨ a ≤ b ∧ b ≤ 1000) (hz : ∀ c ∈ tx (oftenP a b), c < 256) (hp : 0 < (tx (oftenP a b)).length) : UnitR (repEx a b y) (t ++ tx (oftenP a b)) where
  head := by
    obtain ⟨c, r, e, h⟩ := h.head
    exact ⟨c, r ++ tx (oftenP a b), by rw [e]; rfl, h⟩
  small := fun c hc => by
    rw [List.mem_append] at hc
    rcases hc with hc | hc
    · exact h.small c hc
    · exact hz c hc
  reads := fun s i hl => by
    obtain ⟨h1, h2⟩ := Lies.append.1 hl
    obtain ⟨x0, j0, r, hr, hat, htm⟩ := h.reads s i h1
    refine ⟨x0, j0, r + 1, by rw [List.length_append]; omega, fun m hm => hat m (by rw [List.length_append] at hm; omega), fun q => ?_⟩
    rw [show q + (r + 1) = (q + 1) + r by omega, htm, times_read ha hb h2, List.length_append, Nat.add_assoc]
theorem tx_small (b : ByteArray) : ∀ c ∈ tx b, c < 256 := by
  intro c hc
  unfold tx at hc
  rw [List.mem_map] at hc
  obtain ⟨x, _, rfl⟩ := hc
  exact x.toNat_lt
end Go.Proofs.YticipgjbgcdccaaDoor
namespace Go.Proofs.YticipgjbgcdccaaDoor
open Go.RowKit

theorem bar_join2 : ∀ (us : List ByteArray) (i : Nat) (r : ByteArray), tx (joinP 2 i r us) = tx r ++ us.flatMap tx
  | [], i, r => by simp [joinP]
  | u :: us, i, r => by
    unfold joinP
    rw [bar_join2 us, if_neg (by omega), tx_append, List.append_assoc]; rfl
theorem bar_join3 : ∀ (us : List ByteArray) (i : Nat) (r : ByteArray), 0 < i → tx (joinP 3 i r us) = tx r ++ us.flatMap fun u => 124 :: tx u
  | [], i, r, _ => by simp [joinP]
  | u :: us, i, r, h => by
    unfold joinP
    rw [bar_join3 us _ _ (by omega), if_pos ⟨h, rfl⟩, tx_append, tx_append, List.append_assoc, List.append_assoc]; rfl
theorem bar_join (u : ByteArray) (us : List ByteArray) : tx (joinP 3 0 ⟨#[]⟩ (u :: us)) = tx u ++ us.flatMap fun u => 124 :: tx u := by
  unfold joinP
  rw [bar_join3 us _ _ (by omega), if_neg (by omega), tx_append]; rfl

theorem often_pos (a b : Int) : 0 < (tx (oftenP a b)).length := by
  unfold oftenP
  split
  · exact Nat.succ_pos _
  · split
    · exact Nat.succ_pos _
    · split
      · exact Nat.succ_pos _
      · split
        · rw [tx_append, tx_append]; simp [tx]
        · split
          · rw [tx_append, tx_append]; simp [tx]
          · rw [tx_append, tx_append, tx_append, tx_append]; simp [tx]

theorem plain_word : ∀ c : Fin 127, 32 < c.val → plainP c.val = false → wordP c.val = false := by decide
theorem plain_head : ∀ c : Fin 127, plainP c.val = true → c.val ≠ 92 ∧ c.val ≠ 46 ∧ c.val ≠ 91 ∧ c.val ≠ 40 ∧ ¬ (c.val = 42 ∨ c.val = 43 ∨ c.val = 63 ∨ c.val = 123 ∨ c.val = 124 ∨ c.val = 41) := by decide
theorem plain_le {c : Nat} (h : plainP c = true) : c ≤ 126 := by
  unfold plainP printableP at h
  simp only [Bool.and_eq_true, decide_eq_true_eq] at h
  exact h.1.2
theorem escaped_head (c : Nat) : ∃ r, tx (escapedP c) = 92 :: r := by
  unfold escapedP
  split
  · exact ⟨_, rfl⟩
  · split
    · exact ⟨_, rfl⟩
    · split
      · exact ⟨_, rfl⟩
      · split
        · exact ⟨_, by rw [tx_append]; rfl⟩
        · exact ⟨_, by rw [tx_append]; rfl⟩

/-- a single range -/
theorem unit_range {f t : Int} (h0 : 0 ≤ f) (h1 : f ≤ t) (h2 : t ≤ 255) : UnitR (.mk 1 f t 0 0 []) (tx (rangedP (.mk 1 f t 0 0 []))) := by
  obtain ⟨c, rfl⟩ : ∃ c : Nat, f = (c : Int) := ⟨f.toNat, by omega⟩
  obtain ⟨d, rfl⟩ : ∃ d : Nat, t = (d : Int) := ⟨t.toNat, by omega⟩
  have hR : rangedP (.mk 1 c d 0 0 []) = if (decide ((c : Int) = (d : Int)) && plainP c) = true then b1 c else if (c : Int) = (d : Int) then escapedP c else if (c : Int) = 0 ∧ (d : Int) = 255 then ⟨#[46]⟩ else membersP [.mk 1 c d 0 0 []] := rfl
  rw [hR]
  by_cases q : c = d
  · subst q
    rw [decide_eq_true rfl, Bool.true_and]
    cases hp : plainP c with
    | true =>
      rw [if_pos rfl, tx_b1 (by omega)]
      have hle := plain_le hp
      obtain ⟨p1, p2, p3, p4, p5⟩ := plain_head ⟨c, by omega⟩ hp
      refine UnitR.atom ⟨c, [], rfl, headOk_of p5 (by omega)⟩ (fun x hx => by simp at hx; omega) fun s i hl m hm => ?_
      have hb := (Lies.cons.1 hl).1
      obtain ⟨m, rfl⟩ : ∃ k, m = k + 1 := ⟨m - 1, by simp at hm; omega⟩
      rw [atomP_succ, hb, if_neg p1, if_neg p2, if_neg p3, if_neg p4, if_pos hp]; rfl
    | false =>
      rw [if_neg (by simp), if_pos rfl]
      obtain ⟨r, hr⟩ := escaped_head c
      refine UnitR.atom ⟨92, r, hr, headOk_of (by omega) (by omega)⟩ (tx_small _) fun s i hl m hm => ?_
      have hb : bt s i = 92 := by
        have := hl
        rw [hr] at this
        exact (Lies.cons.1 this).1
      obtain ⟨m, rfl⟩ : ∃ k, m = k + 1 := ⟨m - 1, by rw [hr] at hm; simp at hm; omega⟩
      rw [atomP_succ, if_pos hb, esc_read (by omega) (fun g1 g2 => plain_word ⟨c, by omega⟩ g1 hp) hl]; rfl
  · rw [decide_eq_false (by omega), Bool.false_and, if_neg (by simp), if_neg (by omega)]
    by_cases q2 : (c : Int) = 0 ∧ (d : Int) = 255
    · rw [if_pos q2, q2.1, q2.2]
      refine UnitR.atom ⟨46, [], rfl, headOk_of (by omega) (by omega)⟩ (tx_small _) fun s i hl m hm => ?_
      have hb : bt s i = 46 := (Lies.cons.1 (show Lies s i [46] from hl)).1
      obtain ⟨m, rfl⟩ : ∃ k, m = k + 1 := ⟨m - 1, by simp [tx] at hm; omega⟩
      rw [atomP_succ, if_neg (by omega), if_pos hb]; rfl
    · rw [if_neg q2]
      have hx : ∀ x ∈ [Ex.mk 1 c d 0 0 []], rangeOk x := fun x hx => by
        simp at hx; subst hx
        exact ⟨by show (0 : Int) ≤ c; omega, by show (c : Int) ≤ d; omega, by show (d : Int) ≤ 255; omega⟩
      refine UnitR.atom ⟨91, _, by rw [tx_members hx]; rfl, headOk_of (by omega) (by omega)⟩ (tx_small _) fun s i hl m hm => ?_
      rw [tx_members hx] at hl hm ⊢
      have hb : bt s i = 91 := (Lies.cons.1 (show Lies s i (91 :: _) from hl)).1
      obtain ⟨m, rfl⟩ : ∃ k, m = k + 1 := ⟨m - 1, by simp at hm; omega⟩
      rw [atomP_succ, if_neg (by omega), if_neg (by omega), if_pos hb, class_read (by simp) (fun p hp => by simp at hp; subst hp; exact ⟨by show c ≤ d; omega, by show d < 256; omega⟩) hl]
      rfl
/-- an alternative of ranges -/
theorem unit_class {l : List Ex} (hx : ∀ x ∈ l, rangeOk x) (hr : ∀ x ∈ l, rg (prX x) = x) (hl : 2 ≤ l.length) : UnitR (.mk 3 0 0 0 0 l) (tx (membersP l)) := by
  refine UnitR.atom ⟨91, _, by rw [tx_members hx]; rfl, headOk_of (by omega) (by omega)⟩ (tx_small _) fun s i hls m hm => ?_
  rw [tx_members hx] at hls hm ⊢
  have hb : bt s i = 91 := (Lies.cons.1 (show Lies s i (91 :: _) from hls)).1
  obtain ⟨m, rfl⟩ : ∃ k, m = k + 1 := ⟨m - 1, by simp at hm; omega⟩
  rw [atomP_succ, if_neg (by omega), if_neg (by omega), if_pos hb, class_read (by intro e; rw [List.map_eq_nil_iff] at e; subst e; simp at hl) (fun p hp => by
    rw [List.mem_map] at hp
    obtain ⟨x, hx1, rfl⟩ := hp
    obtain ⟨g1, g2, g3⟩ := hx x hx1
    exact ⟨by show x.f.toNat ≤ x.t.toNat; omega, by show x.t.toNat < 256; omega⟩) hls]
  have e : eitherR (l.map prX) = .mk 3 0 0 0 0 l := by
    have h2 : (l.map prX).map rg = l := by
      rw [List.map_map]
      conv => rhs; rw [← List.map_id l]
      exact List.map_congr_left fun x hx1 => hr x hx1
    cases l with
    | nil => simp at hl
    | cons x l =>
      cases l with
      | nil => simp at hl
      | cons y l => unfold eitherR; simp only [List.map_cons] at h2 ⊢; rw [h2]
  rw [e]

def isUnit (x : Ex) : Prop := x.k = 1 ∨ x.k = 4 ∨ (x.k = 3 ∧ classesP x.l = true)
/-- how its text is read -/
def Rd (x : Ex) : Prop := (isUnit x → UnitR x (tx (printedP x))) ∧ (x.k = 2 → RowR x.l (tx (printedP x)) ∧ oneOr 2 x.l = x) ∧ (x.k = 3 → classesP x.l = false → PatR x.l (tx (printedP x)) ∧ oneOr 3 x.l = x)
theorem oneOr_many {k : Int} {l : List Ex} (h : l.length ≠ 1) : oneOr k l = .mk k 0 0 0 0 l := by
  unfold oneOr
  match l, h with
  | [], _ => rfl
  | [x], h => simp at h
  | x :: y :: l, _ => rfl
theorem kinds {x : Ex} (h : rightP x = true) : x.k = 1 ∨ x.k = 2 ∨ x.k = 3 ∨ x.k = 4 := by
  obtain ⟨k, f, t, a, b, l⟩ := x
  have hh := (rightP_head h).1
  unfold headOk at hh
  by_cases k1 : k = 1
  · exact .inl k1
  by_cases k2 : k = 2
  · exact .inr (.inl k2)
  by_cases k3 : k = 3
  · exact .inr (.inr (.inl k3))
  by_cases k4 : k = 4
  · exact .inr (.inr (.inr k4))
  rw [if_neg k1, if_neg k2, if_neg k3, if_neg k4] at hh; cases hh
theorem tx_paren (p : ByteArray) : tx ((⟨#[40]⟩ : ByteArray) ++ p ++ ⟨#[41]⟩) = 40 :: tx p ++ [41] := by rw [tx_append, tx_append]; rfl
/-- a part in a row, or under times -/
theorem under_unit {y : Ex} {K : Int} (hK : K ≠ 3) (hR : rightP y = true) (h : Rd y) : UnitR y (tx (wrapP K y (printedP y))) := by
  obtain ⟨hu, hr, hp⟩ := h
  unfold wrapP parenP
  by_cases k3 : y.k = 3
  · cases hc : classesP y.l with
    | true =>
      rw [if_neg (by rw [decide_eq_true k3, decide_eq_false (show ¬ y.k = 2 by omega)]; simp)]
      exact hu (.inr (.inr ⟨k3, hc⟩))
    | false =>
      rw [if_pos (by rw [decide_eq_true k3]; rfl), tx_paren]
      obtain ⟨h1, h2⟩ := hp k3 hc
      have := UnitR.paren h1
      rwa [h2] at this
  · by_cases k2 : y.k = 2
    · rw [if_pos (by rw [decide_eq_true k2, decide_eq_true hK]; simp), tx_paren]
      obtain ⟨h1, h2⟩ := hr k2
      exact UnitR.paren (PatR.one h1 h2)
    · rw [if_neg (by rw [decide_eq_false k3, decide_eq_false k2]; simp)]
      exact hu (by rcases kinds hR with h | h | h | h; exact .inl h; exact absurd h k2; exact absurd h k3; exact .inr (.inl h))
/-- a part of an alternative -/
theorem under_row {y : Ex} (hR : rightP y = true) (h : Rd y) : ∃ l, RowR l (tx (wrapP 3 y (printedP y))) ∧ oneOr 2 l = y := by
  have h0 := h
  obtain ⟨hu, hr, hp⟩ := h
  by_cases k2 : y.k = 2 ∧ y.l.length ≠ 0
  · obtain ⟨h1, h2⟩ := hr k2.1
    refine ⟨y.l, ?_, h2⟩
    unfold wrapP parenP
    rw [if_neg (by rw [decide_eq_false (show ¬ y.k = 3 by omega), decide_eq_true k2.1, decide_eq_false k2.2]; simp)]
    exact h1
  · have e : wrapP 3 y (printedP y) = wrapP 2 y (printedP y) := by
      unfold wrapP parenP
      by_cases q : y.k = 2
      · have : y.l.length = 0 := by
          rcases Nat.eq_zero_or_pos y.l.length with h | h
          · exact h
          · exact absurd ⟨q, by omega⟩ k2
        rw [decide_eq_true this]; simp
      · rw [decide_eq_false q]; simp
    rw [e]
    exact ⟨[y], RowR.one (under_unit (by omega) hR h0), rfl⟩

theorem row_all {K : Int} (hK : K ≠ 3) : ∀ (l : List Ex), (∀ y ∈ l, rightP y = true ∧ Rd y) → RowR l ((l.map fun y => wrapP K y (printedP y)).flatMap tx)
  | [], _ => RowR.nil
  | y :: l, h => by
    simp only [List.map_cons, List.flatMap_cons]
    exact RowR.cons (under_unit hK (h y (by simp)).1 (h y (by simp)).2) (row_all hK l fun z hz => h z (by simp [hz]))
theorem pat_all : ∀ (y : Ex) (l : List Ex), (∀ z ∈ y :: l, rightP z = true ∧ Rd z) → PatR (y :: l) (tx (wrapP 3 y (printedP y)) ++ (l.map fun y => wrapP 3 y (printedP y)).flatMap fun u => 124 :: tx u)
  | y, [], h => by
    obtain ⟨r, h1, h2⟩ := under_row (h y (by simp)).1 (h y (by simp)).2
    simp only [List.map_nil, List.flatMap_nil, List.append_nil]
    exact PatR.one h1 h2
  | y, z :: l, h => by
    obtain ⟨r, h1, h2⟩ := under_row (h y (by simp)).1 (h y (by simp)).2
    have := pat_all z l fun x hx => h x (by simp only [List.mem_cons] at hx ⊢; exact .inr hx)
    simp only [List.map_cons, List.flatMap_cons, List.cons_append]
    exact PatR.cons h1 h2 this

theorem head_one {f t a b n : Int} (h : headOk 1 f t a b n = true) : 0 ≤ f ∧ f ≤ t ∧ t ≤ 255 ∧ a = 0 ∧ b = 0 ∧ n = 0 := by
  unfold headOk at h
  rw [if_pos rfl] at h
  exact of_decide_eq_true h
theorem read_back : ∀ (N : Nat) (x : Ex), SizeOf.sizeOf x < N → rightP x = true → Rd x := by
  intro N
  induction N with
  | zero => intro _ h; omega
  | succ N ih =>
    intro x hN hR
    obtain ⟨k, f, t, a, b, l⟩ := x
    obtain ⟨hh, hr⟩ := rightP_head hR
    have IH : ∀ y ∈ l, rightP y = true ∧ Rd y := fun y hy => ⟨hr y hy, ih y (by have := Ex.lt_of_mem hy k f t a b; omega) (hr y hy)⟩
    have hP : printedP (.mk k f t a b l) = if k = 1 then rangedP (.mk k f t a b l)
        else if k = 4 then (undersP k l).headD ⟨#[]⟩ ++ oftenP a b
        else if (decide (k = 3) && classesP l) = true then membersP l
        else joinP k 0 ⟨#[]⟩ (undersP k l) := by conv => lhs; unfold printedP
    unfold Rd isUnit
    simp only [Ex.k, Ex.l]
    rw [hP, undersP_eq]
    rcases kinds hR with hk | hk | hk | hk
    all_goals
      have hk : k = _ := hk
      subst hk
    · refine ⟨fun _ => ?_, fun h => by omega, fun h => by omega⟩
      rw [if_pos rfl]
      have h1 : 0 ≤ f ∧ f ≤ t ∧ t ≤ 255 ∧ a = 0 ∧ b = 0 ∧ l.length = 0 := by have := head_one hh; omega
      obtain ⟨h1, h2, h3, rfl, rfl, h4⟩ := h1
      obtain rfl : l = [] := List.eq_nil_of_length_eq_zero h4
      exact unit_range h1 h2 h3
    · refine ⟨fun h => by omega, fun _ => ?_, fun h => by omega⟩
      rw [if_neg (by omega), if_neg (by omega), if_neg (by simp), bar_join2]
      have h1 : f = 0 ∧ t = 0 ∧ a = 0 ∧ b = 0 ∧ l.length ≠ 1 := by simp [headOk] at hh; omega
      obtain ⟨rfl, rfl, rfl, rfl, h4⟩ := h1
      exact ⟨row_all (by omega) l IH, oneOr_many h4⟩
    · have h1 : f = 0 ∧ t = 0 ∧ a = 0 ∧ b = 0 ∧ 1 < l.length := by simp [headOk] at hh; omega
      obtain ⟨rfl, rfl, rfl, rfl, h4⟩ := h1
      rw [if_neg (by omega), if_neg (by omega)]
      refine ⟨fun h => ?_, fun h => by omega, fun _ hc => ?_⟩
      · have hc : classesP l = true := by rcases h with h | h | h; omega; omega; exact h.2
        rw [if_pos (by rw [hc]; rfl)]
        have hcl := (classesP_iff l).1 hc
        refine unit_class (fun x hx => range_of_right (hr x hx) (hcl x hx)) (fun x hx => ?_) (by omega)
        obtain ⟨k', f', t', a', b', l'⟩ := x
        have hk' : k' = 1 := hcl _ hx
        subst hk'
        have hh' := (rightP_head (hr _ hx)).1
        have h1 : 0 ≤ f' ∧ f' ≤ t' ∧ t' ≤ 255 ∧ a' = 0 ∧ b' = 0 ∧ l'.length = 0 := by have := head_one hh'; omega
        obtain ⟨h1, h2, h3, rfl, rfl, h4⟩ := h1
        obtain rfl : l' = [] := List.eq_nil_of_length_eq_zero h4
        show Ex.mk 1 ((f'.toNat : Nat) : Int) ((t'.toNat : Nat) : Int) 0 0 [] = _
        rw [Int.toNat_of_nonneg h1, Int.toNat_of_nonneg (by omega)]
      · rw [if_neg (by rw [hc]; simp)]
        cases l with
        | nil => simp at h4
        | cons y l =>
          simp only [List.map_cons]
          rw [bar_join]
          exact ⟨pat_all y l IH, oneOr_many (by omega)⟩
    · have h1 : f = 0 ∧ t = 0 ∧ l.length = 1 ∧ 0 ≤ a ∧ a ≤ 1000 ∧ (b = -1 ∨ (a ≤ b ∧ b ≤ 1000)) := by simp [headOk] at hh; omega
      obtain ⟨rfl, rfl, h4, h5, h6, h7⟩ := h1
      obtain ⟨y, rfl⟩ : ∃ y, l = [y] := List.length_eq_one_iff.1 h4
      refine ⟨fun _ => ?_, fun h => by omega, fun h => by omega⟩
      rw [if_neg (by omega), if_pos rfl]
      simp only [List.map_cons, List.map_nil, List.headD_cons]
      rw [tx_append]
      exact UnitR.times (under_unit (by omega) (IH y (by simp)).1 (IH y (by simp)).2) ⟨h5, h6⟩ h7 (tx_small _) (often_pos a b)

/-- THE ROUND TRIP: the text of a right pattern is read as the pattern itself -/
theorem parse_print {x : Ex} (h : checkP x = 0) (hz : (printedP x).size ≤ 4096) : parseP (printedP x) = (x, 0, 0) := by
  obtain ⟨hR, _, _⟩ := checkP_nodes x h
  have hrd := read_back _ x (Nat.lt_succ_self _) hR
  have hpat : ∃ l, PatR l (tx (printedP x)) ∧ oneOr 3 l = x := by
    obtain ⟨hu, hr, hp⟩ := hrd
    by_cases q : isUnit x
    · exact ⟨[x], PatR.one (RowR.one (hu q)) rfl, rfl⟩
    · rcases kinds hR with hk | hk | hk | hk
      · exact absurd (.inl hk) q
      · obtain ⟨h1, h2⟩ := hr hk
        exact ⟨[x], PatR.one h1 h2, rfl⟩
      · have hc : classesP x.l = false := by
          cases hc : classesP x.l with
          | true => exact absurd (.inr (.inr ⟨hk, hc⟩)) q
          | false => rfl
        obtain ⟨h1, h2⟩ := hp hk hc
        exact ⟨x.l, h1, h2⟩
      · exact absurd (.inr (.inl hk)) q
  obtain ⟨l, h1, h2⟩ := hpat
  have h3 := h1.reads (printedP x) 0 (Nat.zero_le _) (lies_self _) (.inr (bt_end _ _ (by rw [tx_len]; omega))) (5 * (printedP x).size + 4) [] (by rw [tx_len]; omega)
  rw [List.nil_append, h2, tx_len, Nat.zero_add] at h3
  unfold parseP
  rw [if_neg (by omega), h3]
  simp only [Nat.lt_irrefl, if_false]
  rw [if_pos h]
end Go.Proofs.YticipgjbgcdccaaDoor
namespace Go.Proofs.YticipgjbgcdccaaDoor
open Go.RowKit

def Flt (s : ByteArray) (c : Int) (p : Nat) : Prop := c ≠ 0 ∧ p ≤ s.size
theorem numGo_bad {s : ByteArray} : ∀ (k n i : Nat) (c : Int) (p : Nat), i ≤ s.size → numGo s k n i = .bad c p → Flt s c p
  | 0, n, i, c, p, _, h => by unfold numGo at h; cases h
  | k + 1, n, i, c, p, hi, h => by
    unfold numGo at h
    by_cases h1 : s.size ≤ i
    · rw [if_pos h1] at h; cases h; exact ⟨by omega, by omega⟩
    · rw [if_neg h1] at h
      by_cases h2 : bt s i < 48 ∨ 57 < bt s i
      · rw [if_pos h2] at h
        by_cases h3 : k = 3
        · rw [if_pos h3] at h; cases h; exact ⟨by omega, by omega⟩
        · rw [if_neg h3] at h; cases h
      · rw [if_neg h2] at h
        exact numGo_bad k _ _ c p (by omega) h
theorem hexGo_bad {s : ByteArray} {at_ : Nat} (ha : at_ ≤ s.size) : ∀ (k n i : Nat) (c : Int) (p : Nat), hexGo s at_ k n i = .bad c p → Flt s c p
  | 0, n, i, c, p, h => by unfold hexGo at h; cases h
  | k + 1, n, i, c, p, h => by
    unfold hexGo at h
    by_cases h1 : s.size ≤ i
    · rw [if_pos h1] at h; cases h; exact ⟨by omega, by omega⟩
    · rw [if_neg h1] at h
      by_cases h2 : digitP (bt s i) < 0
      · rw [if_pos h2] at h; cases h; exact ⟨by omega, ha⟩
      · rw [if_neg h2] at h
        exact hexGo_bad ha k _ _ c p h
theorem escP_bad {s : ByteArray} {i : Nat} {c : Int} {p : Nat} (hi : i ≤ s.size) (h : escP s i = .bad c p) : Flt s c p := by
  unfold escP at h
  repeat' split at h
  all_goals first
    | (cases h; exact ⟨by omega, by omega⟩)
    | exact hexGo_bad hi _ _ _ c p h
    | (cases h; done)
theorem oneP_bad {s : ByteArray} {f : Bool} {i : Nat} {c : Int} {p : Nat} (hi : i ≤ s.size) (h : oneP s f i = .bad c p) : Flt s c p := by
  unfold oneP at h
  repeat' split at h
  all_goals first
    | (cases h; exact ⟨by omega, by omega⟩)
    | exact escP_bad hi h
    | (cases h; done)
theorem closeB_bad {s : ByteArray} {i j : Nat} {m k : Int} {c : Int} {p : Nat} (hi : i ≤ s.size) (h : closeB s i m k j = .bad c p) : Flt s c p := by
  unfold closeB at h
  repeat' split at h
  all_goals first
    | (cases h; exact ⟨by omega, by omega⟩)
    | (cases h; done)
theorem bracesP_bad {s : ByteArray} {i : Nat} {c : Int} {p : Nat} (hi : i < s.size) (h : bracesP s i = .bad c p) : Flt s c p := by
  unfold bracesP at h
  cases hq : numP s (i + 1) with
  | bad c1 p1 =>
    rw [hq] at h
    cases h
    exact numGo_bad 4 0 _ _ _ (by omega) hq
  | ok m j =>
    rw [hq] at h
    dsimp only at h
    by_cases h1 : s.size ≤ j
    · rw [if_pos h1] at h; cases h; exact ⟨by omega, by omega⟩
    · rw [if_neg h1] at h
      by_cases h2 : bt s j = 44
      · rw [if_pos h2] at h
        by_cases h3 : s.size ≤ j + 1
        · rw [if_pos h3] at h; cases h; exact ⟨by omega, by omega⟩
        · rw [if_neg h3] at h
          by_cases h4 : bt s (j + 1) = 125
          · rw [if_pos h4] at h
            exact closeB_bad (by omega) h
          · rw [if_neg h4] at h
            cases hq2 : numP s (j + 1) with
            | bad c1 p1 =>
              rw [hq2] at h
              cases h
              exact numGo_bad 4 0 _ _ _ (by omega) hq2
            | ok k j2 =>
              rw [hq2] at h
              exact closeB_bad (by omega) h
      · rw [if_neg h2] at h
        exact closeB_bad (by omega) h
theorem bind_bad {α β : Type} {x : PR α} {f : α → Nat → PR β} {c : Int} {p : Nat} (h : x.bind f = .bad c p) : x = .bad c p ∨ ∃ a j, x = .ok a j ∧ f a j = .bad c p := by
  cases x with
  | ok a j => exact .inr ⟨a, j, rfl, h⟩
  | bad c1 p1 => simp only [PR.bind_bad] at h; cases h; exact .inl rfl
theorem timesGo_bad {s : ByteArray} : ∀ (m : Nat) (x : Ex) (i : Nat) (c : Int) (p : Nat), i ≤ s.size → s.size - i + 1 ≤ m → timesGo s m x i = .bad c p → Flt s c p
  | 0, _, _, _, _, _, h, _ => by omega
  | m + 1, x, i, c, p, hi, hm, h => by
    rw [timesGo_succ] at h
    have one : ∀ (d : Nat) (y : Ex), d < 256 → bt s i = d → timesGo s m y (i + 1) = .bad c p → Flt s c p := fun d y hd hb h => by
      have := bt_small hb hd
      exact timesGo_bad m y (i + 1) c p (by omega) (by omega) h
    by_cases h1 : bt s i = 42
    · rw [if_pos h1] at h; exact one 42 _ (by omega) h1 h
    rw [if_neg h1] at h
    by_cases h2 : bt s i = 43
    · rw [if_pos h2] at h; exact one 43 _ (by omega) h2 h
    rw [if_neg h2] at h
    by_cases h3 : bt s i = 63
    · rw [if_pos h3] at h; exact one 63 _ (by omega) h3 h
    rw [if_neg h3] at h
    by_cases h4 : bt s i = 123
    · rw [if_pos h4] at h
      have hs := bt_small h4 (by omega)
      rcases bind_bad h with h | ⟨a, j, h5, h⟩
      · exact bracesP_bad hs h
      · obtain ⟨g1, g2⟩ := bracesP_ok s i a j hs h5
        exact timesGo_bad m _ j c p g2 (by omega) h
    · rw [if_neg h4] at h; cases h
theorem classGo_bad {s : ByteArray} {at_ : Nat} {nt : Bool} (ha : at_ ≤ s.size) : ∀ (m : Nat) (l : List (Nat × Nat)) (i : Nat) (c : Int) (p : Nat), i ≤ s.size → s.size - i + 1 ≤ m → classGo s at_ nt m l i = .bad c p → Flt s c p
  | 0, _, _, _, _, _, h, _ => by omega
  | m + 1, l, i, c, p, hi, hm, h => by
    unfold classGo at h
    by_cases h1 : l ≠ [] ∧ s.size ≤ i
    · rw [if_pos h1] at h; cases h; exact ⟨by omega, by omega⟩
    rw [if_neg h1] at h
    by_cases h2 : l ≠ [] ∧ bt s i = 93
    · rw [if_pos h2] at h; cases h
    rw [if_neg h2] at h
    rcases bind_bad h with h | ⟨a, j, h3, h⟩
    · exact oneP_bad hi h
    · obtain ⟨g1, g2, g3⟩ := oneP_ok s _ i a j h3
      by_cases h4 : s.size ≤ j
      · rw [if_pos h4] at h; cases h; exact ⟨by omega, by omega⟩
      rw [if_neg h4] at h
      by_cases h5 : bt s j = 45
      · rw [if_pos h5] at h
        rcases bind_bad h with h | ⟨b, j2, h6, h⟩
        · exact oneP_bad (by omega) h
        · obtain ⟨f1, f2, f3⟩ := oneP_ok s _ (j + 1) b j2 h6
          by_cases h7 : b < a
          · rw [if_pos h7] at h; cases h; exact ⟨by omega, ha⟩
          · rw [if_neg h7] at h
            exact classGo_bad ha m _ j2 c p f2 (by omega) h
      · rw [if_neg h5] at h
        exact classGo_bad ha m _ j c p g2 (by omega) h
theorem classP_bad {s : ByteArray} {i : Nat} {c : Int} {p : Nat} (hi : i < s.size) (h : classP s i = .bad c p) : Flt s c p := by
  unfold classP at h
  rcases bind_bad h with h | ⟨l, j, _, h⟩
  · refine classGo_bad (by omega) _ _ _ c p ?_ (by omega) h
    by_cases q : bt s (i + 1) = 94
    · rw [if_pos q]; have := bt_small q (by omega); omega
    · rw [if_neg q]; omega
  · unfold classEnd at h
    generalize decide (bt s (i + 1) = 94) = nt at h
    by_cases q : (if nt = true then othersP l else l) = []
    · rw [if_pos q] at h; cases h; exact ⟨by omega, by omega⟩
    · rw [if_neg q] at h; cases h

theorem read_bad {s : ByteArray} : ∀ (m : Nat), (∀ l i c p, i ≤ s.size → 5 * (s.size - i) + 4 ≤ m → patGo s m l i = .bad c p → Flt s c p) ∧ (∀ l i c p, i ≤ s.size → 5 * (s.size - i) + 3 ≤ m → rowGo s m l i = .bad c p → Flt s c p) ∧ (∀ i c p, i < s.size → 5 * (s.size - i) + 2 ≤ m → atomP s m i = .bad c p → Flt s c p) := by
  intro m
  induction m with
  | zero => exact ⟨fun l i c p _ h => by omega, fun l i c p _ h => by omega, fun i c p _ h => by omega⟩
  | succ m ih =>
    obtain ⟨ih1, ih2, ih3⟩ := ih
    obtain ⟨ok1, ok2, ok3⟩ := read_ok s m
    refine ⟨fun l i c p hi hm h => ?_, fun l i c p hi hm h => ?_, fun i c p hi hm h => ?_⟩
    · rw [patGo_succ] at h
      rcases bind_bad h with h | ⟨x, j, h1, h⟩
      · exact ih2 _ i c p hi (by omega) h
      · obtain ⟨g1, g2⟩ := ok2 _ i x j hi h1
        by_cases h2 : bt s j = 124
        · rw [if_pos h2] at h
          have := bt_small h2 (by omega)
          exact ih1 _ (j + 1) c p (by omega) (by omega) h
        · rw [if_neg h2] at h; cases h
    · rw [rowGo_succ] at h
      by_cases h0 : s.size ≤ i ∨ bt s i = 124 ∨ bt s i = 41
      · rw [if_pos h0] at h; cases h
      · rw [if_neg h0] at h
        have hi' : i < s.size := by omega
        rcases bind_bad h with h | ⟨x, j, h1, h⟩
        · exact ih3 i c p hi' (by omega) h
        · obtain ⟨g1, g2⟩ := ok3 i x j hi' h1
          rcases bind_bad h with h | ⟨y, j2, h2, h⟩
          · exact timesGo_bad _ x j c p g2 (by omega) h
          · obtain ⟨f1, f2⟩ := timesGo_ok s _ x j y j2 g2 h2
            exact ih2 _ j2 c p f2 (by omega) h
    · rw [atomP_succ] at h
      by_cases h1 : bt s i = 92
      · rw [if_pos h1] at h
        rcases bind_bad h with h | ⟨x, j, _, h⟩
        · exact escP_bad (by omega) h
        · cases h
      rw [if_neg h1] at h
      by_cases h2 : bt s i = 46
      · rw [if_pos h2] at h; cases h
      rw [if_neg h2] at h
      by_cases h3 : bt s i = 91
      · rw [if_pos h3] at h
        exact classP_bad hi h
      rw [if_neg h3] at h
      by_cases h4 : bt s i = 40
      · rw [if_pos h4] at h
        rcases bind_bad h with h | ⟨x, j, h5, h⟩
        · exact ih1 _ (i + 1) c p (by omega) (by omega) h
        · obtain ⟨g1, g2⟩ := ok1 _ (i + 1) x j (by omega) h5
          by_cases h6 : s.size ≤ j
          · rw [if_pos h6] at h; cases h; exact ⟨by omega, by omega⟩
          · rw [if_neg h6] at h
            by_cases h7 : bt s j = 41
            · rw [if_pos h7] at h; cases h
            · rw [if_neg h7] at h; cases h; exact ⟨by omega, by omega⟩
      rw [if_neg h4] at h
      by_cases h5 : plainP (bt s i) = true
      · rw [if_pos h5] at h; cases h
      · rw [if_neg h5] at h; cases h; exact ⟨by omega, by omega⟩

/-- what Parse tells: a right pattern, or nothing and a fault within the text -/
theorem parseP_cases (s : ByteArray) : (∃ x, parseP s = (x, 0, 0) ∧ checkP x = 0) ∨ ∃ (c : Int) (p : Nat), parseP s = (zeroEx, c, p) ∧ c ≠ 0 ∧ p ≤ s.size := by
  unfold parseP
  by_cases h : 4096 < s.size
  · rw [if_pos h]; exact .inr ⟨2, 0, rfl, by omega, by omega⟩
  · rw [if_neg h]
    cases hq : patGo s (5 * s.size + 4) [] 0 with
    | bad c p =>
      obtain ⟨h1, h2⟩ := (read_bad (s := s) _).1 [] 0 c p (by omega) (by omega) hq
      exact .inr ⟨c, p, rfl, h1, h2⟩
    | ok x j =>
      dsimp only
      by_cases h1 : j < s.size
      · rw [if_pos h1]; exact .inr ⟨22, j, rfl, by omega, by omega⟩
      · rw [if_neg h1]
        by_cases h2 : checkP x = 0
        · rw [if_pos h2]; exact .inl ⟨x, rfl, h2⟩
        · rw [if_neg h2]; exact .inr ⟨checkP x, 0, rfl, h2, by omega⟩
end Go.Proofs.YticipgjbgcdccaaDoor
namespace Go.Proofs.YticipgjbgcdccaaDoor
open Go.RowKit

mutual
/-- the same, value by value -/
def sameB : Ex → Ex → Bool
  | .mk k f t a b l, y => k == y.k && f == y.f && t == y.t && a == y.a && b == y.b && samesB l y.l
def samesB : List Ex → List Ex → Bool
  | [], l => l.isEmpty
  | x :: xs, l => match l with
    | [] => false
    | y :: ys => sameB x y && samesB xs ys
end
mutual
theorem sameB_iff : ∀ x y : Ex, sameB x y = true ↔ x = y
  | .mk k f t a b l, .mk k' f' t' a' b' l' => by
    have := samesB_iff l l'
    simp only [sameB, Ex.k, Ex.f, Ex.t, Ex.a, Ex.b, Ex.l, Bool.and_eq_true, beq_iff_eq, this, Ex.mk.injEq, and_assoc]
theorem samesB_iff : ∀ l l' : List Ex, samesB l l' = true ↔ l = l'
  | [], [] => by simp [samesB]
  | [], _ :: _ => by simp [samesB]
  | _ :: _, [] => by simp [samesB]
  | x :: l, y :: l' => by
    have h1 := sameB_iff x y
    have h2 := samesB_iff l l'
    simp only [samesB, Bool.and_eq_true, h1, h2, List.cons.injEq]
end
theorem samesB_len : ∀ l l' : List Ex, samesB l l' = true → l.length = l'.length := fun l l' h => by rw [(samesB_iff l l').1 h]
theorem samesB_take (l l' : List Ex) (i : Nat) (h : i < l.length) (h' : i < l'.length) : samesB (l.take (i + 1)) (l'.take (i + 1)) = (samesB (l.take i) (l'.take i) && sameB l[i] l'[i]) := by
  rw [Bool.eq_iff_iff, Bool.and_eq_true, samesB_iff, samesB_iff, sameB_iff, List.take_succ_eq_append_getElem h, List.take_succ_eq_append_getElem h']
  constructor
  · intro e
    have hl : (l.take i).length = (l'.take i).length := by rw [List.length_take, List.length_take]; omega
    obtain ⟨e1, e2⟩ := List.append_inj e hl
    exact ⟨e1, by simpa using e2⟩
  · rintro ⟨e1, e2⟩
    rw [e1, e2]

set_option maxHeartbeats 4000000 in
set_option maxRecDepth 100000 in
theorem SameExpr_any : ∀ (N : Nat) (x y : Ex), SizeOf.sizeOf x < N → ∀ (A A' : Option Addr) (n c n' c' : Nat) (S S' : Nat → Prop) (w : World), Sl w S A n c x.l → Sl w S' A' n' c' y.l →
    Calls Tryd.prog 14 #[.agg #[.int .i64 x.k, .int .i64 x.f, .int .i64 x.t, .int .i64 x.a, .int .i64 x.b, .slice A n c], .agg #[.int .i64 y.k, .int .i64 y.f, .int .i64 y.t, .int .i64 y.a, .int .i64 y.b, .slice A' n' c']] w
      fun e w' => e = .returned (.bool (sameB x y)) ∧ Chg No w w' := by
  intro N
  induction N with
  | zero => intro _ _ h; omega
  | succ N ih =>
    intro x y hN A A' n c n' c' S S' w hl hl'
    have hF : sameB x y = (x.k == y.k && x.f == y.f && x.t == y.t && x.a == y.a && x.b == y.b && samesB x.l y.l) := by cases x; rfl
    have HF := Lib.hid hF
    have HI : Hid (∀ z ∈ x.l, SizeOf.sizeOf z < N) := Lib.hid fun z hz => by cases x with | mk k f t a b l => have hz' : z ∈ l := hz; have := Ex.lt_of_mem hz' k f t a b; omega
    have IH := Lib.hid ih
    clear hF ih hN
    obtain ⟨hn, hc1, hc2⟩ : n = x.l.length ∧ x.l.length ≤ c ∧ c ≤ 9223372036854775807 := ⟨hl.1, by have := hl.2.1; have := hl.1; omega, hl.2.2.1⟩
    obtain ⟨hn', hc1', hc2'⟩ : n' = y.l.length ∧ y.l.length ≤ c' ∧ c' ≤ 9223372036854775807 := ⟨hl'.1, by have := hl'.2.1; have := hl'.1; omega, hl'.2.2.1⟩
    subst hn hn'
    have hb := (Blk.new w 25 #[.int .i64 x.k, .int .i64 x.f, .int .i64 x.t, .int .i64 x.a, .int .i64 x.b, .slice A x.l.length c]).alloc (.cells #[.int .i64 y.k, .int .i64 y.f, .int .i64 y.t, .int .i64 y.a, .int .i64 y.b, .slice A' y.l.length c'] 25)
    have hb' := Blk.new' (w := w.alloc (.cells #[.int .i64 x.k, .int .i64 x.f, .int .i64 x.t, .int .i64 x.a, .int .i64 x.b, .slice A x.l.length c] 25)) (g := w.heap.size + 1) (t := 25) (cs := #[.int .i64 y.k, .int .i64 y.f, .int .i64 y.t, .int .i64 y.a, .int .i64 y.b, .slice A' y.l.length c']) (by simp)
    have hc0 : Chg No w ((w.alloc (.cells #[.int .i64 x.k, .int .i64 x.f, .int .i64 x.t, .int .i64 x.a, .int .i64 x.b, .slice A x.l.length c] 25)).alloc (.cells #[.int .i64 y.k, .int .i64 y.f, .int .i64 y.t, .int .i64 y.a, .int .i64 y.b, .slice A' y.l.length c'] 25)) := ((Chg.refl _ _).alloc _).alloc _
    obtain ⟨y0, y1, y2, y3, y4, y5⟩ := ex_cells hb
    obtain ⟨z0, z1, z2, z3, z4, z5⟩ := ex_cells hb'
    by_cases q0 : x.k = y.k
    rotate_left
    · have e0 : (x.k != y.k) = true := by simpa using q0
      have HN : Hid (sameB x y = false) := Lib.hid (by rw [HF.out, show (x.k == y.k) = false by simpa using q0]; simp)
      clear q0
      go_enter Tryd.func14, Tryd.ntmps14
      go_wp2
      go_ret
      exact ⟨by rw [HN.out]; rfl, hc0⟩
    have e0 : (x.k != y.k) = false := by simpa using q0
    have Q0 := Lib.hid (show (x.k == y.k) = true by simpa using q0)
    clear q0
    by_cases q1 : x.f = y.f
    rotate_left
    · have e1 : (x.f != y.f) = true := by simpa using q1
      have HN : Hid (sameB x y = false) := Lib.hid (by rw [HF.out, show (x.f == y.f) = false by simpa using q1]; simp)
      clear q1
      go_enter Tryd.func14, Tryd.ntmps14
      go_wp2
      go_ret
      exact ⟨by rw [HN.out]; rfl, hc0⟩
    have e1 : (x.f != y.f) = false := by simpa using q1
    have Q1 := Lib.hid (show (x.f == y.f) = true by simpa using q1)
    clear q1
    by_cases q2 : x.t = y.t
    rotate_left
    · have e2 : (x.t != y.t) = true := by simpa using q2
      have HN : Hid (sameB x y = false) := Lib.hid (by rw [HF.out, show (x.t == y.t) = false by simpa using q2]; simp)
      clear q2
      go_enter Tryd.func14, Tryd.ntmps14
      go_wp2
      go_ret
      exact ⟨by rw [HN.out]; rfl, hc0⟩
    have e2 : (x.t != y.t) = false := by simpa using q2
    have Q2 := Lib.hid (show (x.t == y.t) = true by simpa using q2)
    clear q2
    by_cases q3 : x.a = y.a
    rotate_left
    · have e3 : (x.a != y.a) = true := by simpa using q3
      have HN : Hid (sameB x y = false) := Lib.hid (by rw [HF.out, show (x.a == y.a) = false by simpa using q3]; simp)
      clear q3
      go_enter Tryd.func14, Tryd.ntmps14
      go_wp2
      go_ret
      exact ⟨by rw [HN.out]; rfl, hc0⟩
    have e3 : (x.a != y.a) = false := by simpa using q3
    have Q3 := Lib.hid (show (x.a == y.a) = true by simpa using q3)
    clear q3
    by_cases q4 : x.b = y.b
    rotate_left
    · have e4 : (x.b != y.b) = true := by simpa using q4
      have HN : Hid (sameB x y = false) := Lib.hid (by rw [HF.out, show (x.b == y.b) = false by simpa using q4]; simp)
      clear q4
      go_enter Tryd.func14, Tryd.ntmps14
      go_wp2
      go_ret
      exact ⟨by rw [HN.out]; rfl, hc0⟩
    have e4 : (x.b != y.b) = false := by simpa using q4
    have Q4 := Lib.hid (show (x.b == y.b) = true by simpa using q4)
    clear q4
    by_cases q5 : x.l.length = y.l.length
    rotate_left
    · have e5 : ((x.l.length : Int) != (y.l.length : Int)) = true := by simp; omega
      have HN : Hid (sameB x y = false) := Lib.hid (by
        cases h : samesB x.l y.l with
        | true => exact absurd (samesB_len _ _ h) q5
        | false => rw [HF.out, h]; simp)
      clear q5
      go_enter Tryd.func14, Tryd.ntmps14
      go_wp2
      go_ret
      exact ⟨by rw [HN.out]; rfl, hc0⟩
    have e5 : ((x.l.length : Int) != (y.l.length : Int)) = false := by simp; omega
    have HS : Hid (sameB x y = samesB x.l y.l) := Lib.hid (by rw [HF.out, Q0.out, Q1.out, Q2.out, Q3.out, Q4.out]; simp)
    have Q5 := Lib.hid q5
    clear q5 Q0 Q1 Q2 Q3 Q4 HF
    go_enter Tryd.func14, Tryd.ntmps14
    go_wp2_with fail
    clear y0 y1 y2 y3 y4 y5 z0 z1 z2 z3 z4 z5
    generalize ((w.alloc (.cells #[.int .i64 x.k, .int .i64 x.f, .int .i64 x.t, .int .i64 x.a, .int .i64 x.b, .slice A x.l.length c] 25)).alloc (.cells #[.int .i64 y.k, .int .i64 y.f, .int .i64 y.t, .int .i64 y.a, .int .i64 y.b, .slice A' y.l.length c'] 25)) = W0 at *
    go_loopw [5] (fun v5 wr => ∃ i : Nat, i ≤ x.l.length ∧ v5 = .int .i64 (i : Int) ∧ Hid (samesB (x.l.take i) (y.l.take i) = true) ∧ Chg No W0 wr) (fun v _ => x.l.length - (intOf v).toNat)
    case atStart => exact ⟨0, Nat.zero_le _, rfl, Lib.hid (by simp [samesB]), Chg.refl _ _⟩
    case round =>
      obtain ⟨i, hi, rfl, HT, hc⟩ := hrel
      obtain ⟨y0, y1, y2, y3, y4, y5⟩ := ex_cells (hb.chg hc id)
      obtain ⟨z0, z1, z2, z3, z4, z5⟩ := ex_cells (hb'.chg hc id)
      by_cases hlt : i < x.l.length
      · have hlt' : i < y.l.length := by have := Q5.out; omega
        obtain ⟨g, o, B, d, rfl, hS, x0, x1, x2, x3, x4, x5, hx⟩ := (hl.chgNo (hc0.trans hc)).at_ i hlt
        obtain ⟨g', o', B', d', rfl, hS', w0, w1, w2, w3, w4, w5, hy⟩ := (hl'.chgNo (hc0.trans hc)).at_ i hlt'
        have hst := samesB_take x.l y.l i hlt hlt'
        have hD : Chg No wr wr.drew := (Chg.refl No wr).drew
        have HC := IH.out x.l[i] y.l[i] (HI.out _ (List.getElem_mem hlt)) B B' x.l[i].l.length d y.l[i].l.length d' S S' wr.drew (hx.chgNo hD) (hy.chgNo hD)
        obtain ⟨r, hr⟩ : ∃ r, sameB x.l[i] y.l[i] = r := ⟨_, rfl⟩
        rw [hr] at HC hst
        have HST := Lib.hid hst
        clear hst hr
        have KS : Hid (∀ w', Chg No wr w' → Chg No wr w' ∧ w'.cell? ⟨w.heap.size, 5, none⟩ = some (.slice (some ⟨g, o, none⟩) x.l.length c) ∧ w'.cell? ⟨w.heap.size + 1, 5, none⟩ = some (.slice (some ⟨g', o', none⟩) y.l.length c') ∧
            (w'.cell? ⟨g, o + i * 6, none⟩ = some (.int .i64 x.l[i].k) ∧ w'.cell? ⟨g, o + i * 6 + 1, none⟩ = some (.int .i64 x.l[i].f) ∧ w'.cell? ⟨g, o + i * 6 + 2, none⟩ = some (.int .i64 x.l[i].t) ∧ w'.cell? ⟨g, o + i * 6 + 3, none⟩ = some (.int .i64 x.l[i].a) ∧ w'.cell? ⟨g, o + i * 6 + 4, none⟩ = some (.int .i64 x.l[i].b) ∧ w'.cell? ⟨g, o + i * 6 + 5, none⟩ = some (.slice B x.l[i].l.length d)) ∧
            (w'.cell? ⟨g', o' + i * 6, none⟩ = some (.int .i64 y.l[i].k) ∧ w'.cell? ⟨g', o' + i * 6 + 1, none⟩ = some (.int .i64 y.l[i].f) ∧ w'.cell? ⟨g', o' + i * 6 + 2, none⟩ = some (.int .i64 y.l[i].t) ∧ w'.cell? ⟨g', o' + i * 6 + 3, none⟩ = some (.int .i64 y.l[i].a) ∧ w'.cell? ⟨g', o' + i * 6 + 4, none⟩ = some (.int .i64 y.l[i].b) ∧ w'.cell? ⟨g', o' + i * 6 + 5, none⟩ = some (.slice B' y.l[i].l.length d'))) := Lib.hid fun w' h => by
          have k : ∀ (p : Addr) (v : Value), wr.cell? p = some v → w'.cell? p = some v := fun p v hp => (h.below.cell (World.block_lt_of_cell? _ p hp)).trans hp
          exact ⟨h, k _ _ y5, k _ _ z5, ⟨k _ _ x0, k _ _ x1, k _ _ x2, k _ _ x3, k _ _ x4, k _ _ x5⟩, k _ _ w0, k _ _ w1, k _ _ w2, k _ _ w3, k _ _ w4, k _ _ w5⟩
        go_wp2_with fail
        clear y0 y1 y2 y3 y4 y5 z0 z1 z2 z3 z4 z5 x0 x1 x2 x3 x4 x5 w0 w1 w2 w3 w4 w5
        go_region_held3 (fun w' => Chg No wr w' ∧ w'.cell? ⟨w.heap.size, 5, none⟩ = some (.slice (some ⟨g, o, none⟩) x.l.length c) ∧ w'.cell? ⟨w.heap.size + 1, 5, none⟩ = some (.slice (some ⟨g', o', none⟩) y.l.length c') ∧
            (w'.cell? ⟨g, o + i * 6, none⟩ = some (.int .i64 x.l[i].k) ∧ w'.cell? ⟨g, o + i * 6 + 1, none⟩ = some (.int .i64 x.l[i].f) ∧ w'.cell? ⟨g, o + i * 6 + 2, none⟩ = some (.int .i64 x.l[i].t) ∧ w'.cell? ⟨g, o + i * 6 + 3, none⟩ = some (.int .i64 x.l[i].a) ∧ w'.cell? ⟨g, o + i * 6 + 4, none⟩ = some (.int .i64 x.l[i].b) ∧ w'.cell? ⟨g, o + i * 6 + 5, none⟩ = some (.slice B x.l[i].l.length d)) ∧
            (w'.cell? ⟨g', o' + i * 6, none⟩ = some (.int .i64 y.l[i].k) ∧ w'.cell? ⟨g', o' + i * 6 + 1, none⟩ = some (.int .i64 y.l[i].f) ∧ w'.cell? ⟨g', o' + i * 6 + 2, none⟩ = some (.int .i64 y.l[i].t) ∧ w'.cell? ⟨g', o' + i * 6 + 3, none⟩ = some (.int .i64 y.l[i].a) ∧ w'.cell? ⟨g', o' + i * 6 + 4, none⟩ = some (.int .i64 y.l[i].b) ∧ w'.cell? ⟨g', o' + i * 6 + 5, none⟩ = some (.slice B' y.l[i].l.length d'))) ((refine KS.out _ ?_; with_reducible assumption)) (first | (go_at_call 14; (with_reducible refine HC.mono ?_); rintro e v2 ⟨rfl, hC2⟩; have hK2 := hD.trans hC2))
        cases r with
        | true =>
          go_wp2
          exact ⟨⟨i + 1, by omega, by go_num, Lib.hid (by rw [HST.out, HT.out]; rfl), hc.trans hK2⟩, by simp [intOf]; omega⟩
        | false =>
          have HN : Hid (sameB x y = false) := Lib.hid (by
            rw [HS.out]
            cases h : samesB x.l y.l with
            | false => rfl
            | true =>
              have e := (samesB_iff _ _).1 h
              have h2 := HST.out
              rw [e] at h2
              rw [(samesB_iff _ _).2 rfl] at h2
              simp at h2)
          go_wp2
          go_ret
          exact ⟨by rw [HN.out]; rfl, hc0.trans (hc.trans hK2)⟩
      · obtain rfl : i = x.l.length := by omega
        have HY : Hid (sameB x y = true) := Lib.hid (by
          have h := HT.out
          rw [List.take_of_length_le (Nat.le_refl _), List.take_of_length_le (by have := Q5.out; omega)] at h
          rw [HS.out, h])
        go_wp2
        go_ret
        exact ⟨by rw [HY.out]; rfl, hc0.trans hc⟩
end Go.Proofs.YticipgjbgcdccaaDoor
