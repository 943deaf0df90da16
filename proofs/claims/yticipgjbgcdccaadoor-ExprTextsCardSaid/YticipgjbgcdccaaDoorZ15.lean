/- graftref2's reader: atom, pattern: contracts.
   graftref2's reader: pattern: contract.
   graftref2's reader: row, and the joint induction: contracts.
   graftref2's Parse: contract. -/
import Derived.Test.YticipgjbgcdccaaDoorZ14
import Derived.Test.YticipgjbgcdccaaDoorZ9
set_option linter.unusedSimpArgs false
set_option linter.unusedVariables false
namespace Go.Proofs.YticipgjbgcdccaaDoor
open Go.RowKit

/-- the state that a step leaves: hard faults alone -/
def XSt (res : PR Ex) (x : Ex) (r : Nat) (s : ByteArray) (w : World) : Prop :=
  match res with
  | .ok y j => x = y ∧ ∃ p, RR w r s j 0 p
  | .bad c q => c ≠ 0 ∧ ∃ j, RR w r s j c q
theorem XSt.chg {res : PR Ex} {x : Ex} {r : Nat} {s : ByteArray} {w w' : World} {S : Nat → Prop} (h : XSt res x r s w) (hc : Chg S w w') (hn : ¬ S r) : XSt res x r s w' := by
  cases res with
  | ok y j => exact ⟨h.1, h.2.imp fun p g => g.chg hc hn⟩
  | bad c q => exact ⟨h.1, h.2.imp fun p g => g.chg hc hn⟩
theorem XPo.of {res : PR Ex} {r : Nat} {s : ByteArray} {w w' : World} {e : Ending} {x : Ex} {A : Option Addr} {n c : Nat} (he : e = .returned (exV x A n c)) (hs : Sl w' (fun k => w.heap.size ≤ k) A n c x.l) (hc : Chg (One r) w w') (h : XSt res x r s w') : XPo res r s w e w' := by
  cases res with
  | ok y j => exact ⟨x, A, n, c, he, hs, hc, h⟩
  | bad cc q => exact ⟨x, A, n, c, he, hs, hc, h⟩
theorem XPo.st {res : PR Ex} {r : Nat} {s : ByteArray} {w w' : World} {e : Ending} (h : XPo res r s w e w') : ∃ x A n c, e = .returned (exV x A n c) ∧ Sl w' (fun k => w.heap.size ≤ k) A n c x.l ∧ Chg (One r) w w' ∧ XSt res x r s w' := by
  obtain ⟨x, A, n, c, h1, h2, h3, h4⟩ := h
  cases res with
  | ok y j => exact ⟨x, A, n, c, h1, h2, h3, h4⟩
  | bad cc q => exact ⟨x, A, n, c, h1, h2, h3, h4⟩

/-- a fault that is told, or one that the caller tells -/
def BSt (c : Int) (q : Nat) (r : Nat) (s : ByteArray) (w : World) : Prop :=
  (c ≠ 0 ∧ ∃ j, RR w r s j c q) ∨ (c = 22 ∧ q < s.size ∧ bt s q ≠ 124 ∧ bt s q ≠ 41 ∧ ∃ p, RR w r s q 0 p)
theorem BSt.chg {c : Int} {q r : Nat} {s : ByteArray} {w w' : World} {S : Nat → Prop} (h : BSt c q r s w) (hc : Chg S w w') (hn : ¬ S r) : BSt c q r s w' := by
  rcases h with ⟨h1, j, h2⟩ | ⟨h1, h2, h3, h4, p, h5⟩
  · exact .inl ⟨h1, j, h2.chg hc hn⟩
  · exact .inr ⟨h1, h2, h3, h4, p, h5.chg hc hn⟩
/-- a bad state: the byte c is not taken -/
theorem BSt.no {c : Int} {q r : Nat} {s : ByteArray} {w : World} (h : BSt c q r s w) : ∃ i e p, RR w r s i e p ∧ ((e == 0) && decide (bt s i = 124)) = false := by
  rcases h with ⟨h1, j, h2⟩ | ⟨h1, h2, h3, h4, p, h5⟩
  · exact ⟨j, c, q, h2, ne_bool h1 _⟩
  · exact ⟨q, 0, p, h5, by simpa using h3⟩
/-- the state that a row, a pattern leaves -/
def RSt (res : PR Ex) (x : Ex) (r : Nat) (s : ByteArray) (w : World) : Prop :=
  match res with
  | .ok y j => x = y ∧ ∃ p, RR w r s j 0 p
  | .bad c q => BSt c q r s w
theorem RSt.chg {res : PR Ex} {x : Ex} {r : Nat} {s : ByteArray} {w w' : World} {S : Nat → Prop} (h : RSt res x r s w) (hc : Chg S w w') (hn : ¬ S r) : RSt res x r s w' := by
  cases res with
  | ok y j => exact ⟨h.1, h.2.imp fun p g => g.chg hc hn⟩
  | bad c q => exact BSt.chg h hc hn
/-- what a row, a pattern leaves -/
def XPo2 (res : PR Ex) (r : Nat) (s : ByteArray) (w : World) (e : Ending) (w' : World) : Prop :=
  ∃ x A n c, e = .returned (exV x A n c) ∧ Sl w' (fun k => w.heap.size ≤ k) A n c x.l ∧ Chg (One r) w w' ∧ RSt res x r s w'

def PatT (m : Nat) : Prop := ∀ (w : World) (r : Nat) (s : ByteArray) (i p : Nat), RR w r s i 0 p → s.size ≤ 65536 → i ≤ s.size → 5 * (s.size - i) + 3 < m →
  Calls Tryd.prog 44 #[.pointer (some ⟨r, 0, none⟩)] w fun e w' => XPo2 (patGo s m [] i) r s w e w'
def RowT (m : Nat) : Prop := ∀ (w : World) (r : Nat) (s : ByteArray) (i p : Nat), RR w r s i 0 p → s.size ≤ 65536 → i ≤ s.size → 5 * (s.size - i) + 2 < m →
  Calls Tryd.prog 72 #[.pointer (some ⟨r, 0, none⟩)] w fun e w' => XPo2 (rowGo s m [] i) r s w e w'
def AtomT (m : Nat) : Prop := ∀ (w : World) (r : Nat) (s : ByteArray) (i p : Nat), RR w r s i 0 p → s.size ≤ 65536 → i < s.size → 5 * (s.size - i) + 1 < m → (plainP (bt s i) = true ∨ hasP [40, 91, 46, 92] (bt s i) = true) →
  Calls Tryd.prog 108 #[.pointer (some ⟨r, 0, none⟩)] w fun e w' => XPo (atomP s m i) r s w e w'

/-- next, its world a new name -/
theorem rnext_c (w : World) (r : Nat) (s : ByteArray) (i : Nat) (e : Int) (p c : Nat) (b : Bool) (h : RR w r s i e p) (hc : c < 256) (hb : ((e == 0) && decide (bt s i = c)) = b) :
    Calls Tryd.prog 110 #[.pointer (some ⟨r, 0, none⟩), .int .u8 (c : Int)] w fun e' w' => e' = .returned (.bool b) ∧ RR w' r s i e p ∧ Chg No w w' :=
  (rnext_any w r s i e p c b h hc hb).mono fun _ _ ⟨he, n, hw⟩ => ⟨he, by rw [hw]; exact h.drewN n, by rw [hw]; exact (Chg.refl _ _).drewN n⟩
theorem rtook_c (w : World) (r : Nat) (s : ByteArray) (i : Nat) (e : Int) (p c : Nat) (h : RR w r s i e p) (hc : c < 256) (hb : ((e == 0) && decide (bt s i = c)) = false) :
    Calls Tryd.prog 73 #[.pointer (some ⟨r, 0, none⟩), .int .u8 (c : Int)] w fun e' w' => e' = .returned (.bool false) ∧ RR w' r s i e p ∧ Chg No w w' :=
  (rtook_no w r s i e p c h hc hb).mono fun _ _ ⟨he, n, hw⟩ => ⟨he, by rw [hw]; exact h.drewN n, by rw [hw]; exact (Chg.refl _ _).drewN n⟩
theorem rwrong_c (w : World) (r : Nat) (s : ByteArray) (i : Nat) (e : Int) (p : Nat) (h : RR w r s i e p) (he : e ≠ 0) :
    Calls Tryd.prog 46 #[.pointer (some ⟨r, 0, none⟩)] w fun e' w' => e' = .returned (.tuple #[]) ∧ RR w' r s i e p ∧ Chg (One r) w w' :=
  (rwrong_no w r s i e p h he).mono fun _ _ ⟨he, n, hw⟩ => ⟨he, by rw [hw]; exact h.drewN n, by rw [hw]; exact (Chg.refl _ _).drewN n⟩
theorem rescape_c (w : World) (r : Nat) (s : ByteArray) (i p : Nat) (h : RR w r s i 0 p) (hs : s.size ≤ 65536) (hi : i < s.size) :
    Calls Tryd.prog 134 #[.pointer (some ⟨r, 0, none⟩)] w fun e w' => ∃ a : Nat, e = .returned (.int .i64 (a : Int)) ∧ Chg (One r) w w' ∧ XSt ((escP s i).bind fun c j => .ok (byteEx c) j) (byteEx a) r s w' := by
  refine (rescape_any w r s i p h hs hi).mono fun e w' hp => ?_
  cases hq : escP s i with
  | ok a j =>
    rw [hq] at hp
    exact ⟨a, hp.1, hp.2.2, rfl, hp.2.1⟩
  | bad c q =>
    rw [hq] at hp
    obtain ⟨⟨a, h1⟩, h2, h3, h4⟩ := hp
    exact ⟨a, h1, h3, h4, h2⟩

/-- behind a pattern in parentheses: its closing one is there, or the fault -/
theorem close_cases (s : ByteArray) (m i : Nat) (r : Nat) (w : World) (x : Ex) (hc : bt s i = 40) (h : RSt (patGo s m [] (i + 1)) x r s w) :
    (∃ j p, RR w r s j 0 p ∧ j < s.size ∧ bt s j = 41 ∧ atomP s (m + 1) i = .ok x (j + 1)) ∨ (∃ c q j, c ≠ 0 ∧ RR w r s j c q ∧ atomP s (m + 1) i = .bad c q) ∨
      (∃ j p, RR w r s j 0 p ∧ bt s j ≠ 41 ∧ s.size ≤ j ∧ atomP s (m + 1) i = .bad 23 s.size) ∨ (∃ j p, RR w r s j 0 p ∧ bt s j ≠ 41 ∧ j < s.size ∧ atomP s (m + 1) i = .bad 22 j) := by
  have hf : atomP s (m + 1) i = (patGo s m [] (i + 1)).bind fun x j => if s.size ≤ j then .bad 23 s.size else if bt s j = 41 then .ok x (j + 1) else .bad 22 j := by
    conv => lhs; unfold atomP
    rw [hc]; rfl
  cases hq : patGo s m [] (i + 1) with
  | ok y j =>
    rw [hq] at h hf
    obtain ⟨rfl, p, hr⟩ := h
    rw [PR.bind_ok] at hf
    by_cases h1 : s.size ≤ j
    · rw [if_pos h1] at hf
      exact .inr (.inr (.inl ⟨j, p, hr, by rw [bt_end s j h1]; omega, h1, hf⟩))
    · rw [if_neg h1] at hf
      by_cases h2 : bt s j = 41
      · rw [if_pos h2] at hf
        exact .inl ⟨j, p, hr, by omega, h2, hf⟩
      · rw [if_neg h2] at hf
        exact .inr (.inr (.inr ⟨j, p, hr, h2, by omega, hf⟩))
  | bad c q =>
    rw [hq] at h hf
    rcases h with ⟨h1, j, h2⟩ | ⟨rfl, h2, h3, h4, p, h5⟩
    · exact .inr (.inl ⟨c, q, j, h1, h2, hf⟩)
    · exact .inr (.inr (.inr ⟨q, p, h5, h4, h2, hf⟩))

set_option maxHeartbeats 2000000 in
set_option maxRecDepth 100000 in
theorem ratom_step (m : Nat) (hpat : ∀ k, k ≤ m → PatT k) : AtomT (m + 1) := by
  intro w r s i p h hs hi hm hb
  have HRL := Lib.hid (show r < w.heap.size from Blk.lt h)
  have h1 : RR (w.alloc (.cells #[.int .i64 0, .int .i64 0, .int .i64 0, .int .i64 0, .int .i64 0, .slice none 0 0] 25)) r s i 0 p := Blk.alloc h _
  have hb1 := Blk.new w 25 #[.int .i64 0, .int .i64 0, .int .i64 0, .int .i64 0, .int .i64 0, .slice none 0 0]
  have hc1 : Chg (One r) w (w.alloc (.cells #[.int .i64 0, .int .i64 0, .int .i64 0, .int .i64 0, .int .i64 0, .slice none 0 0] 25)) := (Chg.refl _ _).alloc _
  have hno : ∀ g, w.heap.size ≤ g → ¬ One r g := fun g hg => by have := HRL.out; unfold One; omega
  obtain ⟨c, hc⟩ : ∃ c, bt s i = c := ⟨_, rfl⟩
  have hsc : s[i].toNat = c := (bt_at s i hi).trans hc
  have HI := Lib.hid hi
  have HM := Lib.hid hm
  have HB := Lib.hid hb
  have hlt : c < 256 := by rw [← hc]; exact bt_lt s i hi
  have HC := Lib.hid hc
  clear hm hb h
  by_cases k0 : c = 40
  · subst k0
    have hne : i + 1 ≤ s.size := hi
    clear hsc hi
    have n0 := fun w (h : RR w r s i 0 p) => rnext_c w r s i 0 p 40 true h (by omega) (by simp [HC.out])
    go_enter Tryd.func108, Tryd.ntmps108
    go_wp2_with fail
    refine (n0 _ h1).mono ?_
    rintro e w2 ⟨rfl, g2, c2⟩
    have cc : Chg (One r) w w2 := (hc1.then_ c2 fun _ _ h => h.elim)
    have bb : Blk w2 w.heap.size 25 #[.int .i64 0, .int .i64 0, .int .i64 0, .int .i64 0, .int .i64 0, .slice none 0 0] := (hb1.chg c2 id)
    obtain ⟨y0, y1, y2, y3⟩ := g2.cells
    obtain ⟨z1, z2, z3⟩ := g2.froz
    have hst := g2.step
    have k1 : Chg (One r) w2 (w2.setCell ⟨r, 1, none⟩ (.int .i64 ((i : Int) + 1))) := (Chg.refl (One r) w2).setCell (p := ⟨r, 1, none⟩) _ fun _ => rfl
    go_wp2_with fail
    refine (hpat m (Nat.le_refl _) _ r s (i + 1) p hst hs hne (by have := HM.out; omega)).mono ?_
    rintro e w3 ⟨x, A, n, cap, rfl, hsl, hc3, hS⟩
    have b3 : Blk w3 w.heap.size 25 #[.int .i64 0, .int .i64 0, .int .i64 0, .int .i64 0, .int .i64 0, .slice none 0 0] := (bb.chg k1 (hno _ (Nat.le_refl _))).chg hc3 (hno _ (Nat.le_refl _))
    have cc3 : Chg (One r) w w3 := (cc.trans k1).trans hc3
    have hz2 : w.heap.size < w2.heap.size := by have := bb.lt; omega
    have hsl3 : Sl w3 (fun k => w.heap.size < k ∧ k < w3.heap.size) A n cap x.l := hsl.keep (fun _ _ _ => rfl) (fun k hk hz => ⟨by simp [World.setCell] at hk; omega, hz⟩) (Nat.le_refl _)
    have hz3 : w.heap.size < w3.heap.size := b3.lt
    have cs := close_cases s m i r w3 x HC.out hS
    clear hS hsl hst g2 y0 y1 y2 y3 z1 z2 z3
    have bn := Blk.new w3 25 #[.int .i64 0, .int .i64 0, .int .i64 0, .int .i64 0, .int .i64 0, .slice none 0 0]
    go_wp2_with (refine wpList_store_ex rfl _ _ rfl _ _ _ _ _ _ _ bn rfl _ _ _ _ _ _ _ _ rfl ?_; intro w4 hb4 hc4)
    have r4 : ∀ j e q, RR w3 r s j e q → RR w4 r s j e q := fun j e q h => (Blk.alloc h _ : RR (w3.alloc (.cells #[.int .i64 0, .int .i64 0, .int .i64 0, .int .i64 0, .int .i64 0, .slice none 0 0] 25)) r s j e q).chg hc4 fun e => by have := HRL.out; unfold One at e; omega
    have b4 : Blk w4 w.heap.size 25 #[.int .i64 0, .int .i64 0, .int .i64 0, .int .i64 0, .int .i64 0, .slice none 0 0] := (b3.alloc (.cells #[.int .i64 0, .int .i64 0, .int .i64 0, .int .i64 0, .int .i64 0, .slice none 0 0] 25)).chg hc4 fun e => by unfold One at e; omega
    have cc4 : Chg (One r) w w4 := (cc3.alloc (.cells #[.int .i64 0, .int .i64 0, .int .i64 0, .int .i64 0, .int .i64 0, .slice none 0 0] 25)).then_ hc4 fun q hq e => by unfold One at e; omega
    have hsl4 : Sl w4 (fun k => w.heap.size < k ∧ k < w3.heap.size) A n cap x.l := (hsl3.alloc (.cells #[.int .i64 0, .int .i64 0, .int .i64 0, .int .i64 0, .int .i64 0, .slice none 0 0] 25)).chg hc4 fun k hk e => by unfold One at e; omega
    have HG := Lib.hid (show r < w3.heap.size by have := HRL.out; omega)
    have HZ3 := Lib.hid hz3
    clear hz3 hz2 b3 cc3 cc bb hsl3 bn
    obtain ⟨g4, hg4⟩ : ∃ g4, w3.heap.size = g4 := ⟨_, rfl⟩
    simp only [hg4] at hb4 hsl4 HG HZ3 hc4 ⊢
    rcases cs with ⟨j, q, hr, hj, hb, hf⟩ | ⟨cf, q, j, h0, hr, hf⟩ | ⟨j, q, hr, hb, hj, hf⟩ | ⟨j, q, hr, hb, hj, hf⟩
    · have HX := Lib.hid hf
      have T := rtook_yes w4 r s j q 41 (r4 _ _ _ hr) hs (by omega) hb
      clear hf hb hr r4 hj
      go_wp2_with fail
      refine T.mono ?_
      rintro e w5 ⟨rfl, hr5, hc5⟩
      have cc5 : Chg (One r) w w5 := cc4.then_ hc5 fun q hq e => e
      have b5 : Blk w5 w.heap.size 25 #[.int .i64 0, .int .i64 0, .int .i64 0, .int .i64 0, .int .i64 0, .slice none 0 0] := b4.chg hc5 (hno _ (Nat.le_refl _))
      have e5 := hb4.chg hc5 (hno _ (by have := HZ3.out; omega))
      have hsl5 : Sl w5 (fun k => w.heap.size < k ∧ k < g4) A n cap x.l := hsl4.chg hc5 fun k hk => hno _ (by omega)
      have x0 := e5.cell 0
      have x1 := e5.cell 1
      have x2 := e5.cell 2
      have x3 := e5.cell 3
      have x4 := e5.cell 4
      have x5 := e5.cell 5
      simp only [List.getElem?_toArray, List.getElem?_cons_zero, List.getElem?_cons_succ] at x0 x1 x2 x3 x4 x5
      go_wp2_with (refine wpList_store_ex rfl _ _ rfl _ _ _ _ _ _ _ b5 rfl _ _ _ _ _ _ _ _ rfl ?_; intro wz hbz hcz)
      refine bodyPost_ret_ex rfl rfl rfl hbz (XPo.of rfl ?_ ?_ ?_)
      · exact Sl.mono (hsl5.chg hcz fun k hk e => by unfold One at e; omega) fun k hk => by omega
      · exact cc5.then_ hcz fun q hq e => by unfold One at e; omega
      · rw [HX.out]
        exact ⟨rfl, _, hr5.chg hcz (fun e => by have := HRL.out; unfold One at e; omega)⟩
    · have HX := Lib.hid hf
      have T := rtook_c w4 r s j cf q 41 (r4 _ _ _ hr) (by omega) (ne_bool h0 _)
      have H0 := Lib.hid h0
      clear hf hr r4 h0
      go_wp2_with fail
      refine T.mono ?_
      rintro e w6 ⟨rfl, hr6, hc6⟩
      go_wp2_with fail
      refine (rwrong_c _ r s j cf q hr6 H0.out).mono ?_
      rintro e w5 ⟨rfl, hr5, hc65⟩
      have hc5 : Chg (One r) w4 w5 := (Chg.refl (One r) w4).then_ hc6 (fun _ _ h => h.elim) |>.trans hc65
      have cc5 : Chg (One r) w w5 := cc4.then_ hc5 fun q hq e => e
      have b5 : Blk w5 w.heap.size 25 #[.int .i64 0, .int .i64 0, .int .i64 0, .int .i64 0, .int .i64 0, .slice none 0 0] := b4.chg hc5 (hno _ (Nat.le_refl _))
      have e5 := hb4.chg hc5 (hno _ (by have := HZ3.out; omega))
      have hsl5 : Sl w5 (fun k => w.heap.size < k ∧ k < g4) A n cap x.l := hsl4.chg hc5 fun k hk => hno _ (by omega)
      have x0 := e5.cell 0
      have x1 := e5.cell 1
      have x2 := e5.cell 2
      have x3 := e5.cell 3
      have x4 := e5.cell 4
      have x5 := e5.cell 5
      simp only [List.getElem?_toArray, List.getElem?_cons_zero, List.getElem?_cons_succ] at x0 x1 x2 x3 x4 x5
      go_wp2_with (refine wpList_store_ex rfl _ _ rfl _ _ _ _ _ _ _ b5 rfl _ _ _ _ _ _ _ _ rfl ?_; intro wz hbz hcz)
      refine bodyPost_ret_ex rfl rfl rfl hbz (XPo.of rfl ?_ ?_ ?_)
      · exact Sl.mono (hsl5.chg hcz fun k hk e => by unfold One at e; omega) fun k hk => by omega
      · exact cc5.then_ hcz fun q hq e => by unfold One at e; omega
      · rw [HX.out]
        exact ⟨H0.out, _, hr5.chg hcz (fun e => by have := HRL.out; unfold One at e; omega)⟩
    · have HX := Lib.hid hf
      have T := rtook_c w4 r s j 0 q 41 (r4 _ _ _ hr) (by omega) (by simpa using hb)
      have HJ := Lib.hid hj
      clear hf hr r4 hb hj
      go_wp2_with fail
      refine T.mono ?_
      rintro e w6 ⟨rfl, hr6, hc6⟩
      go_wp2_with fail
      refine (rwrong_end _ r s j q hr6 HJ.out).mono ?_
      rintro e w5 ⟨rfl, hr5, hc65⟩
      have hc5 : Chg (One r) w4 w5 := (Chg.refl (One r) w4).then_ hc6 (fun _ _ h => h.elim) |>.trans hc65
      have cc5 : Chg (One r) w w5 := cc4.then_ hc5 fun q hq e => e
      have b5 : Blk w5 w.heap.size 25 #[.int .i64 0, .int .i64 0, .int .i64 0, .int .i64 0, .int .i64 0, .slice none 0 0] := b4.chg hc5 (hno _ (Nat.le_refl _))
      have e5 := hb4.chg hc5 (hno _ (by have := HZ3.out; omega))
      have hsl5 : Sl w5 (fun k => w.heap.size < k ∧ k < g4) A n cap x.l := hsl4.chg hc5 fun k hk => hno _ (by omega)
      have x0 := e5.cell 0
      have x1 := e5.cell 1
      have x2 := e5.cell 2
      have x3 := e5.cell 3
      have x4 := e5.cell 4
      have x5 := e5.cell 5
      simp only [List.getElem?_toArray, List.getElem?_cons_zero, List.getElem?_cons_succ] at x0 x1 x2 x3 x4 x5
      go_wp2_with (refine wpList_store_ex rfl _ _ rfl _ _ _ _ _ _ _ b5 rfl _ _ _ _ _ _ _ _ rfl ?_; intro wz hbz hcz)
      refine bodyPost_ret_ex rfl rfl rfl hbz (XPo.of rfl ?_ ?_ ?_)
      · exact Sl.mono (hsl5.chg hcz fun k hk e => by unfold One at e; omega) fun k hk => by omega
      · exact cc5.then_ hcz fun q hq e => by unfold One at e; omega
      · rw [HX.out]
        exact ⟨by decide, _, hr5.chg hcz (fun e => by have := HRL.out; unfold One at e; omega)⟩
    · have HX := Lib.hid hf
      have T := rtook_c w4 r s j 0 q 41 (r4 _ _ _ hr) (by omega) (by simpa using hb)
      have HJ := Lib.hid hj
      clear hf hr r4 hb hj
      go_wp2_with fail
      refine T.mono ?_
      rintro e w6 ⟨rfl, hr6, hc6⟩
      go_wp2_with fail
      refine (rwrong_at _ r s j q hr6 HJ.out).mono ?_
      rintro e w5 ⟨rfl, hr5, hc65⟩
      have hc5 : Chg (One r) w4 w5 := (Chg.refl (One r) w4).then_ hc6 (fun _ _ h => h.elim) |>.trans hc65
      have cc5 : Chg (One r) w w5 := cc4.then_ hc5 fun q hq e => e
      have b5 : Blk w5 w.heap.size 25 #[.int .i64 0, .int .i64 0, .int .i64 0, .int .i64 0, .int .i64 0, .slice none 0 0] := b4.chg hc5 (hno _ (Nat.le_refl _))
      have e5 := hb4.chg hc5 (hno _ (by have := HZ3.out; omega))
      have hsl5 : Sl w5 (fun k => w.heap.size < k ∧ k < g4) A n cap x.l := hsl4.chg hc5 fun k hk => hno _ (by omega)
      have x0 := e5.cell 0
      have x1 := e5.cell 1
      have x2 := e5.cell 2
      have x3 := e5.cell 3
      have x4 := e5.cell 4
      have x5 := e5.cell 5
      simp only [List.getElem?_toArray, List.getElem?_cons_zero, List.getElem?_cons_succ] at x0 x1 x2 x3 x4 x5
      go_wp2_with (refine wpList_store_ex rfl _ _ rfl _ _ _ _ _ _ _ b5 rfl _ _ _ _ _ _ _ _ rfl ?_; intro wz hbz hcz)
      refine bodyPost_ret_ex rfl rfl rfl hbz (XPo.of rfl ?_ ?_ ?_)
      · exact Sl.mono (hsl5.chg hcz fun k hk e => by unfold One at e; omega) fun k hk => by omega
      · exact cc5.then_ hcz fun q hq e => by unfold One at e; omega
      · rw [HX.out]
        exact ⟨by decide, _, hr5.chg hcz (fun e => by have := HRL.out; unfold One at e; omega)⟩
  by_cases k1 : c = 91
  · subst k1
    have hf : atomP s (m + 1) i = classP s i := by
      conv => lhs; unfold atomP
      rw [HC.out]; rfl
    have HF := Lib.hid hf
    clear hf k0 hsc
    have n0 := fun w (h : RR w r s i 0 p) => rnext_c w r s i 0 p 40 false h (by omega) (by simp [HC.out])
    have n1 := fun w (h : RR w r s i 0 p) => rnext_c w r s i 0 p 91 true h (by omega) (by simp [HC.out])
    go_enter Tryd.func108, Tryd.ntmps108
    go_wp2_with fail
    refine (n0 _ h1).mono ?_
    rintro e w2 ⟨rfl, g2, c2⟩
    go_wp2_with fail
    refine (n1 _ g2).mono ?_
    rintro e w3 ⟨rfl, g3, c3⟩
    have cc : Chg (One r) w w3 := ((hc1.then_ c2 fun _ _ h => h.elim).then_ c3 fun _ _ h => h.elim)
    have bb : Blk w3 w.heap.size 25 #[.int .i64 0, .int .i64 0, .int .i64 0, .int .i64 0, .int .i64 0, .slice none 0 0] := ((hb1.chg c2 id).chg c3 id)
    obtain ⟨y0, y1, y2, y3⟩ := g3.cells
    obtain ⟨z1, z2, z3⟩ := g3.froz
    go_wp2_with fail
    refine (rclass_any _ r s i p g3 hs HI.out).mono ?_
    intro e w4 hp
    obtain ⟨x, A, n, cap, rfl, hsl, hc4, hS⟩ := hp.st
    have b4 := bb.chg hc4 (hno _ (Nat.le_refl _))
    have hz3 : w.heap.size < w3.heap.size := bb.lt
    have HZ := Lib.hid hz3
    clear hz3
    go_wp2_with (refine wpList_store_ex rfl _ _ rfl _ _ _ _ _ _ _ b4 rfl _ _ _ _ _ _ _ _ rfl ?_; intro wz hbz hcz)
    refine bodyPost_ret_ex rfl rfl rfl hbz (XPo.of rfl ?_ ?_ ?_)
    · exact Sl.mono (hsl.chg hcz fun k hk e => by have := HZ.out; unfold One at e; omega) fun k hk => by have := HZ.out; omega
    · exact (cc.trans hc4).then_ hcz fun q hq e => by unfold One at e; omega
    · rw [HF.out]; exact hS.chg hcz (fun e => by have := HRL.out; unfold One at e; omega)
  by_cases k2 : c = 46
  · subst k2
    have hf : atomP s (m + 1) i = .ok anyEx (i + 1) := by
      conv => lhs; unfold atomP
      rw [HC.out]; rfl
    have HF := Lib.hid hf
    clear hf k0 k1 hsc
    have n0 := fun w (h : RR w r s i 0 p) => rnext_c w r s i 0 p 40 false h (by omega) (by simp [HC.out])
    have n1 := fun w (h : RR w r s i 0 p) => rnext_c w r s i 0 p 91 false h (by omega) (by simp [HC.out])
    have n2 := fun w (h : RR w r s i 0 p) => rnext_c w r s i 0 p 46 true h (by omega) (by simp [HC.out])
    go_enter Tryd.func108, Tryd.ntmps108
    go_wp2_with fail
    refine (n0 _ h1).mono ?_
    rintro e w2 ⟨rfl, g2, c2⟩
    go_wp2_with fail
    refine (n1 _ g2).mono ?_
    rintro e w3 ⟨rfl, g3, c3⟩
    go_wp2_with fail
    refine (n2 _ g3).mono ?_
    rintro e w4 ⟨rfl, g4, c4⟩
    have cc : Chg (One r) w w4 := (((hc1.then_ c2 fun _ _ h => h.elim).then_ c3 fun _ _ h => h.elim).then_ c4 fun _ _ h => h.elim)
    have bb : Blk w4 w.heap.size 25 #[.int .i64 0, .int .i64 0, .int .i64 0, .int .i64 0, .int .i64 0, .slice none 0 0] := (((hb1.chg c2 id).chg c3 id).chg c4 id)
    obtain ⟨y0, y1, y2, y3⟩ := g4.cells
    obtain ⟨z1, z2, z3⟩ := g4.froz
    have hst := g4.step
    have kk : Chg (One r) w4 (w4.setCell ⟨r, 1, none⟩ (.int .i64 ((i : Int) + 1))) := (Chg.refl (One r) w4).setCell (p := ⟨r, 1, none⟩) _ fun _ => rfl
    have b4 := bb.chg kk (hno _ (Nat.le_refl _))
    go_wp2_with (refine wpList_store_ex rfl _ _ rfl _ _ _ _ _ _ _ b4 rfl _ _ _ _ _ _ _ _ rfl ?_; intro wz hbz hcz)
    refine bodyPost_ret_ex rfl rfl rfl hbz (XPo.of (x := anyEx) rfl ?_ ?_ ?_)
    · exact Sl.nil _ _
    · exact (cc.trans kk).then_ hcz fun q hq e => by unfold One at e; omega
    · rw [HF.out]; exact ⟨rfl, _, hst.chg hcz (fun e => by have := HRL.out; unfold One at e; omega)⟩
  by_cases k3 : c = 92
  · subst k3
    have hf : atomP s (m + 1) i = (escP s i).bind fun c j => .ok (byteEx c) j := by
      conv => lhs; unfold atomP
      rw [HC.out]; rfl
    have HF := Lib.hid hf
    clear hf k0 k1 k2 hsc
    have n0 := fun w (h : RR w r s i 0 p) => rnext_c w r s i 0 p 40 false h (by omega) (by simp [HC.out])
    have n1 := fun w (h : RR w r s i 0 p) => rnext_c w r s i 0 p 91 false h (by omega) (by simp [HC.out])
    have n2 := fun w (h : RR w r s i 0 p) => rnext_c w r s i 0 p 46 false h (by omega) (by simp [HC.out])
    have n3 := fun w (h : RR w r s i 0 p) => rnext_c w r s i 0 p 92 true h (by omega) (by simp [HC.out])
    go_enter Tryd.func108, Tryd.ntmps108
    go_wp2_with fail
    refine (n0 _ h1).mono ?_
    rintro e w2 ⟨rfl, g2, c2⟩
    go_wp2_with fail
    refine (n1 _ g2).mono ?_
    rintro e w3 ⟨rfl, g3, c3⟩
    go_wp2_with fail
    refine (n2 _ g3).mono ?_
    rintro e w4 ⟨rfl, g4, c4⟩
    go_wp2_with fail
    refine (n3 _ g4).mono ?_
    rintro e w5 ⟨rfl, g5, c5⟩
    have cc : Chg (One r) w w5 := ((((hc1.then_ c2 fun _ _ h => h.elim).then_ c3 fun _ _ h => h.elim).then_ c4 fun _ _ h => h.elim).then_ c5 fun _ _ h => h.elim)
    have bb : Blk w5 w.heap.size 25 #[.int .i64 0, .int .i64 0, .int .i64 0, .int .i64 0, .int .i64 0, .slice none 0 0] := ((((hb1.chg c2 id).chg c3 id).chg c4 id).chg c5 id)
    obtain ⟨y0, y1, y2, y3⟩ := g5.cells
    obtain ⟨z1, z2, z3⟩ := g5.froz
    go_wp2_with fail
    refine (rescape_c _ r s i p g5 hs HI.out).mono ?_
    rintro e w6 ⟨a, rfl, hc6, hS⟩
    have b6 := bb.chg hc6 (hno _ (Nat.le_refl _))
    go_wp2_with (refine wpList_store_ex rfl _ _ rfl _ _ _ _ _ _ _ b6 rfl _ _ _ _ _ _ _ _ rfl ?_; intro wz hbz hcz)
    refine bodyPost_ret_ex rfl rfl rfl hbz (XPo.of (x := byteEx a) rfl ?_ ?_ ?_)
    · exact Sl.nil _ _
    · exact (cc.trans hc6).then_ hcz fun q hq e => by unfold One at e; omega
    · rw [HF.out]; exact hS.chg hcz (fun e => by have := HRL.out; unfold One at e; omega)
  have hpl : plainP c = true := by
    rcases HB.out with h | h
    · rw [HC.out] at h; exact h
    · rw [HC.out] at h
      have : c = 40 ∨ c = 91 ∨ c = 46 ∨ c = 92 := by unfold hasP at h; simp at h; omega
      omega
  have hf : atomP s (m + 1) i = .ok (byteEx c) (i + 1) := by
    conv => lhs; unfold atomP
    rw [HC.out, if_neg k3, if_neg k2, if_neg k1, if_neg k0, if_pos hpl]
  have HF := Lib.hid hf
  have n0 := fun w (h : RR w r s i 0 p) => rnext_c w r s i 0 p 40 false h (by omega) (by simp [HC.out]; omega)
  have n1 := fun w (h : RR w r s i 0 p) => rnext_c w r s i 0 p 91 false h (by omega) (by simp [HC.out]; omega)
  have n2 := fun w (h : RR w r s i 0 p) => rnext_c w r s i 0 p 46 false h (by omega) (by simp [HC.out]; omega)
  have n3 := fun w (h : RR w r s i 0 p) => rnext_c w r s i 0 p 92 false h (by omega) (by simp [HC.out]; omega)
  have q0 : (0 : Int) ≤ (i : Int) := by omega
  have q1 : (i : Int) < (s.size : Int) := by omega
  clear hf hpl k0 k1 k2 k3
  go_enter Tryd.func108, Tryd.ntmps108
  go_wp2_with fail
  refine (n0 _ h1).mono ?_
  rintro e w2 ⟨rfl, g2, c2⟩
  go_wp2_with fail
  refine (n1 _ g2).mono ?_
  rintro e w3 ⟨rfl, g3, c3⟩
  go_wp2_with fail
  refine (n2 _ g3).mono ?_
  rintro e w4 ⟨rfl, g4, c4⟩
  go_wp2_with fail
  refine (n3 _ g4).mono ?_
  rintro e w5 ⟨rfl, g5, c5⟩
  have cc : Chg (One r) w w5 := ((((hc1.then_ c2 fun _ _ h => h.elim).then_ c3 fun _ _ h => h.elim).then_ c4 fun _ _ h => h.elim).then_ c5 fun _ _ h => h.elim)
  have bb : Blk w5 w.heap.size 25 #[.int .i64 0, .int .i64 0, .int .i64 0, .int .i64 0, .int .i64 0, .slice none 0 0] := ((((hb1.chg c2 id).chg c3 id).chg c4 id).chg c5 id)
  obtain ⟨y0, y1, y2, y3⟩ := g5.cells
  obtain ⟨z1, z2, z3⟩ := g5.froz
  go_wp2
  go_quiet (fail)
  have hst := (g5.drewN nq).step
  have kk : Chg (One r) w5 ((w5.drewN nq).setCell ⟨r, 1, none⟩ (.int .i64 ((i : Int) + 1))) := ((Chg.refl (One r) w5).drewN nq).setCell (p := ⟨r, 1, none⟩) _ fun _ => rfl
  have b6 := bb.chg kk (hno _ (Nat.le_refl _))
  go_wp2_with (refine wpList_store_ex rfl _ _ rfl _ _ _ _ _ _ _ b6 rfl _ _ _ _ _ _ _ _ rfl ?_; intro wz hbz hcz)
  refine bodyPost_ret_ex rfl rfl rfl hbz (XPo.of (x := byteEx c) rfl ?_ ?_ ?_)
  · exact Sl.nil _ _
  · exact (cc.trans kk).then_ hcz fun q hq e => by unfold One at e; omega
  · rw [HF.out]; exact ⟨rfl, _, hst.chg hcz (fun e => by have := HRL.out; unfold One at e; omega)⟩
end Go.Proofs.YticipgjbgcdccaaDoor
namespace Go.Proofs.YticipgjbgcdccaaDoor
open Go.RowKit

def lenM (v : Value) : Nat := 70000 - match v with | .slice _ n _ => n | _ => 0
def patRest (s : ByteArray) (m1 : Nat) (l : List Ex) (j : Nat) : PR Ex := if bt s j = 124 then patGo s m1 l (j + 1) else .ok (oneOr 3 l) j
/-- pattern's loop: what the reader is at -/
def PSt (s : ByteArray) (m : Nat) (fin : PR Ex) (l : List Ex) (r : Nat) (w : World) : Prop :=
  (∃ j m1 q, RR w r s j 0 q ∧ j ≤ s.size ∧ l.length ≤ j + 1 ∧ m1 ≤ m ∧ Hid (patRest s m1 l j = fin) ∧ Hid (bt s j = 124 → 5 * (s.size - (j + 1)) + 3 < m1)) ∨ ∃ c q, Hid (fin = .bad c q) ∧ BSt c q r s w
theorem PSt.chg {s : ByteArray} {m : Nat} {fin : PR Ex} {l : List Ex} {r : Nat} {w w' : World} {S : Nat → Prop} (h : PSt s m fin l r w) (hc : Chg S w w') (hn : ¬ S r) : PSt s m fin l r w' := by
  rcases h with ⟨j, m1, q, h1, h2⟩ | ⟨c, q, h1, h2⟩
  · exact .inl ⟨j, m1, q, h1.chg hc hn, h2⟩
  · exact .inr ⟨c, q, h1, h2.chg hc hn⟩
theorem PSt.of {s : ByteArray} {m m1 : Nat} {fin : PR Ex} {l : List Ex} {x : Ex} {r j : Nat} {w : World} (h : RSt (rowGo s m1 [] j) x r s w) (hf : (rowGo s m1 [] j).bind (fun x j => patRest s m1 (l ++ [x]) j) = fin) (hj : j ≤ s.size) (hl : l.length ≤ j) (hm : m1 ≤ m) (hx : 5 * (s.size - j) + 2 < m1) : PSt s m fin (l ++ [x]) r w := by
  cases hq : rowGo s m1 [] j with
  | ok y j2 =>
    rw [hq] at h hf
    obtain ⟨rfl, q, hr⟩ := h
    have := (read_ok s m1).2.1 _ _ _ _ hj hq
    refine .inl ⟨j2, m1, q, hr, this.2, by simp; omega, hm, Lib.hid hf, Lib.hid fun e => ?_⟩
    have := bt_small e (by omega); omega
  | bad c q =>
    rw [hq] at h hf
    exact .inr ⟨c, q, Lib.hid hf.symm, h⟩
/-- the loop's end is at hand, or a row comes -/
theorem PSt.cases {s : ByteArray} {m : Nat} {fin : PR Ex} {l : List Ex} {r : Nat} {w : World} (h : PSt s m fin l r w) :
    (∃ j m1 q, RR w r s j 0 q ∧ bt s j = 124 ∧ l.length ≤ j + 1 ∧ m1 ≤ m ∧ (rowGo s m1 [] (j + 1)).bind (fun x j => patRest s m1 (l ++ [x]) j) = fin ∧ 5 * (s.size - (j + 1)) + 2 < m1) ∨
      (RSt fin (oneOr 3 l) r s w ∧ ∃ i e p, RR w r s i e p ∧ ((e == 0) && decide (bt s i = 124)) = false) := by
  rcases h with ⟨j, m1, q, h1, h2, h3, h4, h5, h6⟩ | ⟨c, q, h1, h2⟩
  · by_cases hb : bt s j = 124
    · left
      have h7 := h6.out hb
      obtain ⟨m1, rfl⟩ : ∃ m', m1 = m' + 1 := ⟨m1 - 1, by omega⟩
      refine ⟨j, m1, q, h1, hb, h3, by omega, ?_, by omega⟩
      have h8 := h5.out
      unfold patRest at h8
      rw [if_pos hb] at h8
      rw [← h8]; conv => rhs; unfold patGo
      rfl
    · right
      have h8 := h5.out
      unfold patRest at h8
      rw [if_neg hb] at h8
      refine ⟨?_, j, 0, q, h1, by simpa using hb⟩
      rw [← h8]; exact ⟨rfl, q, h1⟩
  · exact .inr ⟨by rw [h1.out]; exact h2, h2.no⟩

def PInv (w : World) (r : Nat) (s : ByteArray) (m : Nat) (fin : PR Ex) (v : Value) (wr : World) : Prop :=
  ∃ l, Own wr (w.heap.size + 1) v l ∧ l.length ≤ 65540 ∧ Blk wr w.heap.size 25 #[.int .i64 0, .int .i64 0, .int .i64 0, .int .i64 0, .int .i64 0, .slice none 0 0] ∧ Chg (One r) w wr ∧ Hid (PSt s m fin l r wr)

set_option maxHeartbeats 2000000 in
set_option maxRecDepth 100000 in
theorem rpattern_step (m : Nat) (hrow : ∀ k, k ≤ m → RowT k) : PatT (m + 1) := by
  intro w r s i p h hs hi hm
  have HRL := Lib.hid (show r < w.heap.size from Blk.lt h)
  have h1 : RR (w.alloc (.cells #[.int .i64 0, .int .i64 0, .int .i64 0, .int .i64 0, .int .i64 0, .slice none 0 0] 25)) r s i 0 p := Blk.alloc h _
  have hb1 := Blk.new w 25 #[.int .i64 0, .int .i64 0, .int .i64 0, .int .i64 0, .int .i64 0, .slice none 0 0]
  have hc1 : Chg (One r) w (w.alloc (.cells #[.int .i64 0, .int .i64 0, .int .i64 0, .int .i64 0, .int .i64 0, .slice none 0 0] 25)) := (Chg.refl _ _).alloc _
  have hno : ∀ g, w.heap.size ≤ g → ¬ One r g := fun g hg => by have := HRL.out; unfold One; omega
  have HM := Lib.hid hm
  have hfin : patGo s (m + 1) [] i = (rowGo s m [] i).bind (fun x j => patRest s m ([] ++ [x]) j) := by
    conv => lhs; unfold patGo
    rfl
  obtain ⟨fin, hf⟩ : ∃ f, patGo s (m + 1) [] i = f := ⟨_, rfl⟩
  rw [hf] at hfin ⊢
  have HF := Lib.hid hfin.symm
  clear hm h hf hfin
  go_enter Tryd.func44, Tryd.ntmps44
  go_wp2_with fail
  refine (hrow m (Nat.le_refl _) _ r s i p h1 hs hi (by have := HM.out; omega)).mono ?_
  rintro e w1 ⟨x, A, n, cap, he, hsl, hc, hS⟩
  unfold exV at he; subst he
  have b1 := hb1.chg hc (hno _ (Nat.le_refl _))
  have cc : Chg (One r) w w1 := hc1.trans hc
  have hz : w.heap.size < w1.heap.size := b1.lt
  have hI : PInv w r s m fin (.slice (some ⟨w1.heap.size, 0, none⟩) 1 1) (w1.alloc (.cells #[.int .i64 x.k, .int .i64 x.f, .int .i64 x.t, .int .i64 x.a, .int .i64 x.b, .slice A n cap] 25)) := by
    refine ⟨[x], Own.one w1 x (by omega) (hsl.mono fun k hk => by simp at hk; omega), by simp, b1.alloc _, cc.alloc _, Lib.hid ?_⟩
    exact PSt.chg (S := No) (PSt.of (l := []) hS HF.out hi (by simp) (Nat.le_refl _) (by have := HM.out; omega)) ((Chg.refl _ _).alloc _) id
  have HI := Lib.hid hI
  clear hI hS hsl b1 cc hz hb1 hc1 h1
  go_wp2_with fail
  go_loopw [3] (fun v wr => PInv w r s m fin v wr) (fun v _ => lenM v)
  case atStart => exact HI.out
  case round =>
    clear HI
    obtain ⟨l, hO, hl, hb, hC, HP⟩ := hrel
    have hbl := hb.lt
    have hOlt := hO.lt
    rcases HP.out.cases with ⟨j, m1, q, hr, hbt, hlj, hm1, hg, hfu⟩ | ⟨hR, j, e, q, hr, hbt⟩
    · have hj1 := bt_small hbt (by omega)
      have HG := Lib.hid hg
      have HFU := Lib.hid hfu
      have T := rtook_yes wr r s j q 124 hr hs (by omega) hbt
      have HJ := Lib.hid hj1
      clear hg hfu hbt hj1 HP
      go_wp2_with fail
      refine T.mono ?_
      rintro e w2 ⟨rfl, hr2, hc2⟩
      go_wp2_with fail
      refine (hrow m1 hm1 _ r s (j + 1) q hr2 hs HJ.out HFU.out).mono ?_
      rintro e w3 ⟨x2, A2, n2, cap2, he, hsl2, hc3, hS2⟩
      unfold exV at he; subst he
      have hc23 := hc2.trans hc3
      have hO3 := hO.chg hc23 fun q hq => hno q (by omega)
      have b3 := hb.chg hc23 (hno _ (Nat.le_refl _))
      have cc3 := hC.trans hc23
      have hz2 := hc2.size
      have hz3 := hc3.size
      have hS3 := PSt.of (l := l) hS2 HG.out HJ.out (by have := HJ.out; omega) hm1 HFU.out
      have hslB : Sl w3 (fun k => w.heap.size + 1 ≤ k ∧ some k ≠ u3.ownBlock) A2 n2 cap2 x2.l := hsl2.mono fun k hk => ⟨by omega, fun e => by have := (hOlt k e.symm).2; omega⟩
      have HS3 := Lib.hid hS3
      have b3l := b3.lt
      clear hS2 hS3 hr hr2 hsl2
      go_wp2_with (at_builtin; refine wpList_append_ex rfl _ _ rfl (w.heap.size + 1) _ _ rfl (hO3.chg ((Chg.refl No _).alloc _) fun _ _ h => h) _ 1 x2 A2 n2 cap2 rfl (Blk.new _ _ _) (hslB.alloc _) (by first | omega | (simp; omega)) (by first | omega | (simp; omega)) ?_; intro v' w5 hO5 hgr hat)
      have h35 : Chg (fun q => some q = u3.ownBlock) _ w5 := ((Chg.refl _ _).alloc _).then_ (Chg.of_grown (S := fun q => some q = _) hgr fun q e _ => e.symm) fun q _ e => e
      have hnr : ¬ some r = u3.ownBlock := fun e => by have := (hOlt _ e.symm).1; have := HRL.out; omega
      have hnw : ¬ some w.heap.size = u3.ownBlock := fun e => by have := (hOlt _ e.symm).1; omega
      obtain ⟨A5, c5, hv5, _⟩ := hO5.form
      obtain ⟨A3, c3, hv3, _⟩ := hO.form
      refine ⟨⟨l ++ [x2], hO5, by have := HJ.out; simp; omega, b3.chg h35 hnw, cc3.then_ h35 fun q hq e => by have := (hOlt _ e.symm).1; omega, Lib.hid (HS3.out.chg h35 hnr)⟩, ?_⟩
      rw [hv5, hv3]
      unfold lenM
      simp; omega
    · obtain ⟨A0, c0, rfl, hSl⟩ := hO.form
      have T := rtook_c wr r s j e q 124 hr (by omega) hbt
      have HR := Lib.hid hR
      have HSL := Lib.hid hSl
      clear hbt hR hSl HP hr hO hOlt
      go_wp2_with fail
      refine T.mono ?_
      rintro e w2 ⟨rfl, hr2, hc2⟩
      go_wp2_with fail
      refine (reither_any _ l A0 _ c0 _ (HSL.out.chgNo hc2)).mono ?_
      rintro e w4 ⟨A4, n4, c4, rfl, hS4, hc4⟩
      have b4 := (hb.chg hc2 id).chg hc4 id
      have hC4 := (hC.then_ hc2 fun k hk e => e.elim).then_ hc4 fun k hk e => e.elim
      go_wp2_with (refine wpList_store_ex rfl _ _ rfl _ _ _ _ _ _ _ b4 rfl _ _ _ _ _ _ _ _ rfl ?_; intro wz hbz hcz)
      refine bodyPost_ret_ex rfl rfl rfl hbz ⟨oneOr 3 l, A4, n4, c4, rfl, ?_, ?_, ?_⟩
      · exact Sl.mono (hS4.chg hcz fun k hk e => by unfold One at e; omega) fun k hk => by omega
      · exact hC4.then_ hcz fun q hq e => by unfold One at e; omega
      · exact ((HR.out.chg hc2 id).chg hc4 id).chg hcz fun e => by have := HRL.out; unfold One at e; omega
end Go.Proofs.YticipgjbgcdccaaDoor
namespace Go.Proofs.YticipgjbgcdccaaDoor
open Go.RowKit

theorem quiet_eq {P : Program} {f : FuncId} {args : Array Value} {w : World} {v : Value} (h : Calls P f args w fun e w' => e = .returned v ∧ w = w') : Calls P f args w fun e w' => e = .returned v ∧ ∃ n, w' = w.drewN n :=
  h.mono fun _ _ ⟨he, hw⟩ => ⟨he, 0, by rw [← hw]; rfl⟩
theorem among_atom (c : Nat) (w : World) :
    Calls Tryd.prog 107 #[.int .u8 (c : Int), .string ⟨#[40, 91, 46, 92]⟩] w fun e w' => e = .returned (.bool (hasP [40, 91, 46, 92] c)) ∧ w = w' :=
  among_any _ c w (by simp [ByteArray.size])
theorem among_times (c : Nat) (w : World) :
    Calls Tryd.prog 107 #[.int .u8 (c : Int), .string ⟨#[42, 43, 63, 123]⟩] w fun e w' => e = .returned (.bool (hasP [42, 43, 63, 123] c)) ∧ w = w' :=
  among_any _ c w (by simp [ByteArray.size])

/-- row's loop: what the reader is at -/
def QSt (s : ByteArray) (M : Nat) (fin : PR Ex) (l : List Ex) (r : Nat) (w : World) : Prop :=
  (∃ j m1 q, RR w r s j 0 q ∧ j ≤ s.size ∧ l.length ≤ j ∧ m1 ≤ M ∧ Hid (rowGo s m1 l j = fin) ∧ 5 * (s.size - j) + 2 < m1) ∨ ∃ c q, Hid (fin = .bad c q) ∧ Hid (c ≠ 0) ∧ ∃ j, RR w r s j c q
theorem QSt.chg {s : ByteArray} {M : Nat} {fin : PR Ex} {l : List Ex} {r : Nat} {w w' : World} {S : Nat → Prop} (h : QSt s M fin l r w) (hc : Chg S w w') (hn : ¬ S r) : QSt s M fin l r w' := by
  rcases h with ⟨j, m1, q, h1, h2⟩ | ⟨c, q, h1, h2, j, h3⟩
  · exact .inl ⟨j, m1, q, h1.chg hc hn, h2⟩
  · exact .inr ⟨c, q, h1, h2, j, h3.chg hc hn⟩
def RwGo (s : ByteArray) (M : Nat) (fin : PR Ex) (l : List Ex) (r : Nat) (w : World) : Prop :=
  ∃ j m1 q, RR w r s j 0 q ∧ j < s.size ∧ l.length ≤ j ∧ m1 < M ∧ Hid ((atomP s m1 j).bind (fun x j => (timesGo s (s.size + 1) x j).bind fun y j2 => rowGo s m1 (l ++ [y]) j2) = fin) ∧ 5 * (s.size - j) + 1 < m1 ∧ Hid (plainP (bt s j) = true ∨ hasP [40, 91, 46, 92] (bt s j) = true)
theorem QSt.cases {s : ByteArray} {M : Nat} {fin : PR Ex} {l : List Ex} {r : Nat} {w : World} (h : QSt s M fin l r w) :
    (RSt fin (oneOr 2 l) r s w ∧ ∃ j e q, RR w r s j e q ∧ ((e == 0) && decide (j < s.size)) = false) ∨
      (RSt fin (oneOr 2 l) r s w ∧ ∃ j q, RR w r s j 0 q ∧ j < s.size ∧ plainP (bt s j) = false ∧ hasP [40, 91, 46, 92] (bt s j) = false) ∨
      ∃ j q, RwGo s M fin l r w ∧ RR w r s j 0 q ∧ j < s.size ∧ (plainP (bt s j) = true ∨ (plainP (bt s j) = false ∧ hasP [40, 91, 46, 92] (bt s j) = true)) := by
  rcases h with ⟨j, m1, q, h1, h2, h3, h4, h5, h6⟩ | ⟨c, q, h1, h2, j, h3⟩
  · obtain ⟨m1, rfl⟩ : ∃ m', m1 = m' + 1 := ⟨m1 - 1, by omega⟩
    have h7 := h5.out
    unfold rowGo at h7
    by_cases hz : s.size ≤ j
    · left
      rw [if_pos (.inl hz)] at h7
      exact ⟨by rw [← h7]; exact ⟨rfl, q, h1⟩, j, 0, q, h1, by simpa using hz⟩
    · have hjl : j < s.size := by omega
      right
      by_cases ha : plainP (bt s j) = true ∨ hasP [40, 91, 46, 92] (bt s j) = true
      · right
        have hn : ¬ (s.size ≤ j ∨ bt s j = 124 ∨ bt s j = 41) := by
          rintro (h | h | h)
          · exact hz h
          · rw [h] at ha; exact absurd ha (by decide)
          · rw [h] at ha; exact absurd ha (by decide)
        rw [if_neg hn] at h7
        refine ⟨j, q, ⟨j, m1, q, h1, hjl, h3, by omega, Lib.hid h7, by omega, Lib.hid ha⟩, h1, hjl, ?_⟩
        cases hp : plainP (bt s j) with
        | true => exact .inl rfl
        | false => rw [hp] at ha; exact .inr ⟨rfl, ha.resolve_left (by simp)⟩
      · left
        have ha1 : plainP (bt s j) = false := by
          cases hp : plainP (bt s j) with
          | false => rfl
          | true => exact absurd (.inl hp) ha
        have ha2 : hasP [40, 91, 46, 92] (bt s j) = false := by
          cases hp : hasP [40, 91, 46, 92] (bt s j) with
          | false => rfl
          | true => exact absurd (.inr hp) ha
        refine ⟨?_, j, q, h1, hjl, ha1, ha2⟩
        by_cases hn : bt s j = 124 ∨ bt s j = 41
        · rw [if_pos (.inr hn)] at h7
          rw [← h7]; exact ⟨rfl, q, h1⟩
        · rw [if_neg (by rintro (h | h); exact hz h; exact hn h)] at h7
          have h8 : atomP s m1 j = .bad 22 j := by
            obtain ⟨m1, rfl⟩ : ∃ m', m1 = m' + 1 := ⟨m1 - 1, by omega⟩
            have hne : ∀ d : Nat, (d = 40 ∨ d = 91 ∨ d = 46 ∨ d = 92) → bt s j ≠ d := by
              intro d hd he
              rw [he] at ha2
              rcases hd with rfl | rfl | rfl | rfl <;> exact absurd ha2 (by decide)
            unfold atomP
            rw [if_neg (hne 92 (by omega)), if_neg (hne 46 (by omega)), if_neg (hne 91 (by omega)), if_neg (hne 40 (by omega)), if_neg (by rw [ha1]; simp)]
          rw [h8] at h7
          rw [← h7]
          exact .inr ⟨rfl, hjl, fun e => hn (.inl e), fun e => hn (.inr e), q, h1⟩
  · left
    exact ⟨by rw [h1.out]; exact .inl ⟨h2.out, j, h3⟩, j, c, q, h3, ne_bool h2.out _⟩

/-- the loop over an atom's times: what the reader is at -/
def TSt (s : ByteArray) (m1 : Nat) (l : List Ex) (fin : PR Ex) (j0 : Nat) (y : Ex) (r : Nat) (w : World) : Prop :=
  (∃ j mt q, RR w r s j 0 q ∧ j ≤ s.size ∧ j0 < j ∧ s.size < j + mt ∧ Hid ((timesGo s mt y j).bind (fun y j2 => rowGo s m1 (l ++ [y]) j2) = fin)) ∨ ∃ c q j, Hid (fin = .bad c q) ∧ Hid (c ≠ 0) ∧ RR w r s j c q
namespace TSt
variable {s : ByteArray} {m1 : Nat} {l : List Ex} {fin : PR Ex} {j0 : Nat} {y : Ex} {r : Nat} {w w' : World}
theorem chg {S : Nat → Prop} (h : TSt s m1 l fin j0 y r w) (hc : Chg S w w') (hn : ¬ S r) : TSt s m1 l fin j0 y r w' := by
  rcases h with ⟨j, mt, q, h1, h2⟩ | ⟨c, q, j, h1, h2, h3⟩
  · exact .inl ⟨j, mt, q, h1.chg hc hn, h2⟩
  · exact .inr ⟨c, q, j, h1, h2, h3.chg hc hn⟩
theorem mono {j1 : Nat} (h : TSt s m1 l fin j1 y r w) (hj : j0 ≤ j1) : TSt s m1 l fin j0 y r w := by
  rcases h with ⟨j, mt, q, h1, h2, h3, h4⟩ | h
  · exact .inl ⟨j, mt, q, h1, h2, by omega, h4⟩
  · exact .inr h
theorem less (h : TSt s m1 l fin j0 y r w) (hj : j0 < s.size) : rrM r s.size w < s.size + 2 - j0 := by
  rcases h with ⟨j, mt, q, h1, h2, h3, h4⟩ | ⟨c, q, j, h1, h2, h3⟩
  · rw [rrM_good h1]; omega
  · rw [rrM_bad h3 h2.out]; omega
theorem of_atom (h : XSt (atomP s m1 j0) y r s w) (hf : (atomP s m1 j0).bind (fun x j => (timesGo s (s.size + 1) x j).bind fun y j2 => rowGo s m1 (l ++ [y]) j2) = fin) (hj : j0 < s.size) : TSt s m1 l fin j0 y r w := by
  cases hq : atomP s m1 j0 with
  | ok x j =>
    rw [hq] at h hf
    obtain ⟨rfl, q, hr⟩ := h
    have := (read_ok s m1).2.2 _ _ _ hj hq
    exact .inl ⟨j, s.size + 1, q, hr, this.2, this.1, by omega, Lib.hid hf⟩
  | bad c q =>
    rw [hq] at h hf
    obtain ⟨h1, j, h2⟩ := h
    exact .inr ⟨c, q, j, Lib.hid hf.symm, Lib.hid h1, h2⟩
theorem cases {M : Nat} (h : TSt s m1 l fin j0 y r w) (hm : m1 < M) (hl : l.length ≤ j0) (hfu : 5 * (s.size - j0) + 1 < m1) :
    (QSt s M fin (l ++ [y]) r w ∧ ∃ j e q, RR w r s j e q ∧ ((e == 0) && decide (j < s.size)) = false) ∨
      (QSt s M fin (l ++ [y]) r w ∧ ∃ j q, RR w r s j 0 q ∧ j < s.size ∧ hasP [42, 43, 63, 123] (bt s j) = false) ∨
      ∃ j mt q, RR w r s j 0 q ∧ j < s.size ∧ j0 < j ∧ s.size < j + (mt + 1) ∧ Hid ((timesGo s (mt + 1) y j).bind (fun y j2 => rowGo s m1 (l ++ [y]) j2) = fin) ∧ hasP [42, 43, 63, 123] (bt s j) = true := by
  rcases h with ⟨j, mt, q, h1, h2, h3, h4, h5⟩ | ⟨c, q, j, h1, h2, h3⟩
  · obtain ⟨mt, rfl⟩ : ∃ m', mt = m' + 1 := ⟨mt - 1, by omega⟩
    cases ha : hasP [42, 43, 63, 123] (bt s j) with
    | true =>
      refine .inr (.inr ⟨j, mt, q, h1, ?_, h3, h4, h5, ha⟩)
      rcases Nat.lt_or_ge j s.size with hz | hz
      · exact hz
      · rw [bt_end s j hz] at ha; exact absurd ha (by decide)
    | false =>
      have hne : ∀ d : Nat, (d = 42 ∨ d = 43 ∨ d = 63 ∨ d = 123) → bt s j ≠ d := by
        intro d hd he
        rw [he] at ha
        rcases hd with rfl | rfl | rfl | rfl <;> exact absurd ha (by decide)
      have ht : timesGo s (mt + 1) y j = .ok y j := by
        conv => lhs; unfold timesGo
        rw [if_neg (hne 42 (by omega)), if_neg (hne 43 (by omega)), if_neg (hne 63 (by omega)), if_neg (hne 123 (by omega))]
      have hQ : QSt s M fin (l ++ [y]) r w := by
        have h6 := h5.out
        rw [ht] at h6
        exact .inl ⟨j, m1, q, h1, h2, by simp; omega, by omega, Lib.hid h6, by omega⟩
      rcases Nat.lt_or_ge j s.size with hz | hz
      · exact .inr (.inl ⟨hQ, j, q, h1, hz, ha⟩)
      · exact .inl ⟨hQ, j, 0, q, h1, by simpa using hz⟩
  · exact .inl ⟨.inr ⟨c, q, h1, h2, j, h3⟩, j, c, q, h3, ne_bool h2.out _⟩
end TSt
/-- the round over an atom's times: the value so far, the reader -/
def TInv (wb : World) (r : Nat) (s : ByteArray) (ge m1 : Nat) (l : List Ex) (fin : PR Ex) (j0 : Nat) (wq : World) : Prop :=
  ∃ y A n cap, Blk wq ge 25 #[.int .i64 y.k, .int .i64 y.f, .int .i64 y.t, .int .i64 y.a, .int .i64 y.b, .slice A n cap] ∧ Sl wq (fun k => wb.heap.size ≤ k ∧ k ≠ ge) A n cap y.l ∧ Chg (One r) wb wq ∧ Hid (TSt s m1 l fin j0 y r wq)
theorem TInv.next {wb w6 wz : World} {r : Nat} {s : ByteArray} {ge m1 : Nat} {l : List Ex} {fin : PR Ex} {j0 : Nat} {y : Ex} {A : Option Addr} {n cap z : Nat} {a b : Int} (hr : r < wb.heap.size) (hge : wb.heap.size ≤ ge)
    (hbe : Blk w6 ge 25 #[.int .i64 y.k, .int .i64 y.f, .int .i64 y.t, .int .i64 y.a, .int .i64 y.b, .slice A n cap]) (hsl : Sl w6 (fun k => wb.heap.size ≤ k ∧ k ≠ ge) A n cap y.l) (hC : Chg (One r) wb w6) (hT : TSt s m1 l fin j0 (repEx a b y) r w6)
    (hbz : Blk wz ge 25 #[.int .i64 4, .int .i64 0, .int .i64 0, .int .i64 a, .int .i64 b, .slice (some ⟨z, 0, none⟩) 1 1]) (hz : w6.heap.size = z) (hcz : Chg (One ge) (w6.alloc (.cells #[.int .i64 y.k, .int .i64 y.f, .int .i64 y.t, .int .i64 y.a, .int .i64 y.b, .slice A n cap] 25)) wz) : TInv wb r s ge m1 l fin j0 wz := by
  subst hz
  have hl := hbe.lt
  have h1 := Sl.one (y := y) hsl (show wb.heap.size ≤ w6.heap.size ∧ w6.heap.size ≠ ge by omega)
  have h2 : Chg (One ge) w6 wz := (Chg.alloc (Chg.refl _ _) _).trans hcz
  refine ⟨repEx a b y, _, 1, 1, hbz, h1.chgb hcz fun k hk _ e => hk.2 e, hC.then_ h2 fun q hq e => ?_, Lib.hid (hT.chg h2 fun e => ?_)⟩
  · unfold One at e; omega
  · unfold One at e; omega

def RInv (w : World) (r : Nat) (s : ByteArray) (M : Nat) (fin : PR Ex) (v : Value) (wr : World) : Prop :=
  ∃ l, Own wr (w.heap.size + 1) v l ∧ l.length ≤ 65540 ∧ Blk wr w.heap.size 25 #[.int .i64 0, .int .i64 0, .int .i64 0, .int .i64 0, .int .i64 0, .slice none 0 0] ∧ Chg (One r) w wr ∧ Hid (QSt s M fin l r wr)
def RwH (s : ByteArray) (M : Nat) (fin : PR Ex) (l : List Ex) (r : Nat) (w : World) (b : Bool) : Prop :=
  match b with
  | true => RwGo s M fin l r w
  | false => RSt fin (oneOr 2 l) r s w
def TmH (s : ByteArray) (M m1 : Nat) (fin : PR Ex) (l : List Ex) (j0 : Nat) (y : Ex) (r : Nat) (w : World) (b : Bool) : Prop :=
  match b with
  | true => ∃ j mt q, RR w r s j 0 q ∧ j < s.size ∧ j0 < j ∧ s.size < j + (mt + 1) ∧ Hid ((timesGo s (mt + 1) y j).bind (fun y j2 => rowGo s m1 (l ++ [y]) j2) = fin) ∧ Hid (hasP [42, 43, 63, 123] (bt s j) = true)
  | false => QSt s M fin (l ++ [y]) r w

set_option maxHeartbeats 2000000 in
set_option maxRecDepth 100000 in
theorem rrow_step (m : Nat) (hatom : ∀ k, k ≤ m → AtomT k) : RowT (m + 1) := by
  intro w r s i p h hs hi hm
  have HRL := Lib.hid (show r < w.heap.size from Blk.lt h)
  have hno : ∀ g, w.heap.size ≤ g → ¬ One r g := fun g hg => by have := HRL.out; unfold One; omega
  obtain ⟨fin, hf⟩ : ∃ f, rowGo s (m + 1) [] i = f := ⟨_, rfl⟩
  have hI : RInv w r s (m + 1) fin (.slice none 0 0) (w.alloc (.cells #[.int .i64 0, .int .i64 0, .int .i64 0, .int .i64 0, .int .i64 0, .slice none 0 0] 25)) :=
    ⟨[], Own.nil _ _, by simp, Blk.new _ _ _, (Chg.refl _ _).alloc _, Lib.hid (.inl ⟨i, m + 1, p, Blk.alloc h _, hi, by simp, Nat.le_refl _, Lib.hid hf, hm⟩)⟩
  rw [hf]
  have HI := Lib.hid hI
  clear hI hf h hm
  go_enter Tryd.func72, Tryd.ntmps72
  go_wp2
  go_loopw [3] (fun v wr => RInv w r s (m + 1) fin v wr) (fun v _ => lenM v)
  case atStart => exact HI.out
  case round =>
    clear HI
    obtain ⟨l, hO, hl, hb, hC, HQ⟩ := hrel
    have hOlt := hO.lt
    go_upto_region 2 with fail
    go_cut [32] (fun s32 wx => ∃ b, IsV s32 (.bool b) ∧ RwH s (m + 1) fin l r wr b ∧ ∃ n, wx = wr.drewN n)
    case first =>
      rcases HQ.out.cases with ⟨hR, j, e, q, hr, hbt⟩ | ⟨hR, j, q, hr, hj, hp1, ha1⟩ | ⟨j, q, hR, hr, hj, hpa⟩
      · have hh := fun n => rhas_any (wr.drewN n) r s j e q false (hr.drewN n) hbt
        clear hbt hr
        go_wp2
        go_quiet ((go_at_call 45; exact Calls.quiet_of (hh _)))
        go_wp2
        go_meet
        exact ⟨false, rfl, hR, _, rfl⟩
      · obtain ⟨c, hc⟩ : ∃ c, s[j].toNat = c := ⟨_, rfl⟩
        have hcb : bt s j = c := by rw [← bt_at s j hj, hc]
        have hz0 : (0 : Int) ≤ (j : Int) := by omega
        have hz9 : (j : Int) < (s.size : Int) := by omega
        obtain ⟨y0, y1, y2, y3⟩ := hr.cells
        have hh := fun n => rhas_any (wr.drewN n) r s j 0 q true (hr.drewN n) (by simpa using hj)
        have hp := fun w => rplain_any c w
        have ha := fun w => among_atom c w
        rw [hcb] at hp1 ha1
        simp only [hp1] at hp
        simp only [ha1] at ha
        clear hp1 ha1
        clear hcb hr
        go_wp2
        go_quiet (first | (go_at_call 45; exact Calls.quiet_of (hh _)) | (go_at_call 83; exact Calls.quiet_of (quiet_eq (hp _))) | (go_at_call 107; exact Calls.quiet_of (quiet_eq (ha _))))
        go_wp2
        go_meet
        exact ⟨false, rfl, hR, _, rfl⟩
      · obtain ⟨c, hc⟩ : ∃ c, s[j].toNat = c := ⟨_, rfl⟩
        have hcb : bt s j = c := by rw [← bt_at s j hj, hc]
        have hz0 : (0 : Int) ≤ (j : Int) := by omega
        have hz9 : (j : Int) < (s.size : Int) := by omega
        obtain ⟨y0, y1, y2, y3⟩ := hr.cells
        have hh := fun n => rhas_any (wr.drewN n) r s j 0 q true (hr.drewN n) (by simpa using hj)
        rw [hcb] at hpa
        rcases hpa with hp1 | ⟨hp1, ha1⟩
        · have hp := fun w => rplain_any c w
          simp only [hp1] at hp
          clear hp1
          clear hcb hr
          go_wp2
          go_quiet (first | (go_at_call 45; exact Calls.quiet_of (hh _)) | (go_at_call 83; exact Calls.quiet_of (quiet_eq (hp _))))
          go_wp2
          go_meet
          exact ⟨true, rfl, hR, _, rfl⟩
        · have hp := fun w => rplain_any c w
          have ha := fun w => among_atom c w
          simp only [hp1] at hp
          simp only [ha1] at ha
          clear hp1 ha1
          clear hcb hr
          go_wp2
          go_quiet (first | (go_at_call 45; exact Calls.quiet_of (hh _)) | (go_at_call 83; exact Calls.quiet_of (quiet_eq (hp _))) | (go_at_call 107; exact Calls.quiet_of (quiet_eq (ha _))))
          go_wp2
          go_meet
          exact ⟨true, rfl, hR, _, rfl⟩
    case rest =>
      obtain ⟨b, h32, hH, n0, rfl⟩ := hcut
      unfold IsV at h32; subst h32
      clear HQ
      cases b with
      | false =>
        have hR := Lib.hid (show RSt fin (oneOr 2 l) r s wr from hH)
        obtain ⟨A0, c0, rfl, hSl⟩ := hO.form
        clear hH hO hOlt
        cases l with
        | nil =>
          go_wp2_with (refine wpList_store_ex rfl _ _ rfl _ _ _ _ _ _ _ (hb.drewN n0) rfl _ _ _ _ _ _ _ _ rfl ?_; intro wz hbz hcz)
          refine bodyPost_ret_ex rfl rfl rfl hbz ⟨oneOr 2 [], _, _, _, rfl, ?_, ?_, ?_⟩
          · refine Sl.mono ((hSl.drewN n0).chg hcz fun k hk e => by unfold One at e; omega) fun k hk => by omega
          · exact (hC.drewN n0).then_ hcz fun q hq e => by unfold One at e; omega
          · exact (RSt.chg (S := No) hR.out ((Chg.refl _ _).drewN n0) id).chg hcz fun e => by have := HRL.out; unfold One at e; omega
        | cons x l =>
          simp only [List.length_cons] at hSl
          cases l with
          | nil =>
            simp only [List.length_nil, Nat.zero_add] at hSl
            obtain ⟨g, o, A', c', rfl, _, x0, x1, x2, x3, x4, x5, hx⟩ := hSl.at_ 0 (by simp)
            simp only [List.getElem_cons_zero, Nat.zero_mul, Nat.add_zero] at x0 x1 x2 x3 x4 x5 hx
            go_wp2_with (refine wpList_store_ex rfl _ _ rfl _ _ _ _ _ _ _ (hb.drewN n0) rfl _ _ _ _ _ _ _ _ rfl ?_; intro wz hbz hcz)
            refine bodyPost_ret_ex rfl rfl rfl hbz ⟨x, A', _, c', rfl, ?_, ?_, ?_⟩
            · refine Sl.mono ((hx.drewN n0).chg hcz fun k hk e => by unfold One at e; omega) fun k hk => by omega
            · exact (hC.drewN n0).then_ hcz fun q hq e => by unfold One at e; omega
            · exact (RSt.chg (S := No) hR.out ((Chg.refl _ _).drewN n0) id).chg hcz fun e => by have := HRL.out; unfold One at e; omega
          | cons x2 l =>
            simp only [List.length_cons] at hSl
            go_wp2_with (refine wpList_store_ex rfl _ _ rfl _ _ _ _ _ _ _ (hb.drewN n0) rfl _ _ _ _ _ _ _ _ rfl ?_; intro wz hbz hcz)
            refine bodyPost_ret_ex rfl rfl rfl hbz ⟨oneOr 2 (x :: x2 :: l), _, _, _, rfl, ?_, ?_, ?_⟩
            · refine Sl.mono ((hSl.drewN n0).chg hcz fun k hk e => by unfold One at e; omega) fun k hk => by omega
            · exact (hC.drewN n0).then_ hcz fun q hq e => by unfold One at e; omega
            · exact (RSt.chg (S := No) hR.out ((Chg.refl _ _).drewN n0) id).chg hcz fun e => by have := HRL.out; unfold One at e; omega
      | true =>
        obtain ⟨j0, m1, q0, hr, hj, hlj, hm1, HG, hfu, HB⟩ := hH
        have hrb := hr.drewN n0
        have hOb := hO.chg ((Chg.refl No _).drewN n0) fun _ _ h => h
        have hbb := hb.drewN n0
        have hCb := hC.drewN n0
        have hzb : (wr.drewN n0).heap.size = wr.heap.size := rfl
        have hbl := hb.lt
        generalize wr.drewN n0 = wb at hrb hOb hbb hCb hzb ⊢
        have hnb : ∀ g, wb.heap.size ≤ g → ¬ One r g := fun g hg => by have := HRL.out; unfold One; omega
        have HRB := Lib.hid (show r < wb.heap.size by have := HRL.out; omega)
        clear hr hO hb hC
        go_wp2_with fail
        refine (hatom m1 (by omega) _ r s j0 q0 hrb hs hj hfu HB.out).mono ?_
        intro e w3 hp
        obtain ⟨x, A, n, cap, rfl, hsl, hc3, hS⟩ := hp.st
        have hT := TSt.of_atom hS HG.out hj
        have bn := Blk.new w3 25 #[.int .i64 0, .int .i64 0, .int .i64 0, .int .i64 0, .int .i64 0, .slice none 0 0]
        have hz3 := hc3.size
        go_wp2_with (refine wpList_store_ex rfl _ _ rfl _ _ _ _ _ _ _ bn rfl _ _ _ _ _ _ _ _ rfl ?_; intro w4 hbn hcn)
        have hge : wb.heap.size ≤ w3.heap.size := hz3
        obtain ⟨ge, hg⟩ : ∃ g, w3.heap.size = g := ⟨_, rfl⟩
        have hc4 : Chg (One r) wb w4 := (hc3.alloc (.cells #[.int .i64 0, .int .i64 0, .int .i64 0, .int .i64 0, .int .i64 0, .slice none 0 0] 25)).then_ hcn fun q hq e => by unfold One at e; omega
        have hI : TInv wb r s ge m1 l fin j0 w4 := by
          refine ⟨x, A, n, cap, hg ▸ hbn, ?_, hc4, Lib.hid ?_⟩
          · have h1 : Sl w3 (fun k => wb.heap.size ≤ k ∧ k < ge) A n cap x.l := hsl.keep (fun _ _ _ => rfl) (fun k hk hz => ⟨hk, by omega⟩) (Nat.le_refl _)
            exact ((h1.alloc (.cells #[.int .i64 0, .int .i64 0, .int .i64 0, .int .i64 0, .int .i64 0, .slice none 0 0] 25)).chg hcn fun k hk e => by unfold One at e; omega).mono fun k hk => ⟨hk.1, by omega⟩
          · exact (hT.chg (S := No) ((Chg.refl _ _).alloc _) id).chg hcn fun e => by have := HRB.out; unfold One at e; omega
        have HI := Lib.hid hI
        rw [hg] at hge ⊢
        clear hI hT hS hsl bn hc4 hbn hcn hg hz3 hc3 hrb
        go_wp2
        simp only [Act.put]
        go_loopw [] (fun wq => TInv wb r s ge m1 l fin j0 wq) (fun wq => rrM r s.size wq)
        case atStart => exact HI.out
        case round =>
          clear HI
          obtain ⟨y, A, n, cap, hbe, hsl, hcq, HT⟩ := hrel
          go_upto_region 4 with fail
          go_cut [48] (fun s48 wx => ∃ b, IsV s48 (.bool b) ∧ TmH s (m + 1) m1 fin l j0 y r wr b ∧ ∃ n, wx = wr.drewN n)
          case first =>
            rcases HT.out.cases hm1 hlj hfu with ⟨hR, j, e, q, hr, hbt⟩ | ⟨hR, j, q, hr, hj, ha1⟩ | ⟨j, mt, q, hr, hj, h1, h2, h3, ha1⟩
            · have hh := fun n => rhas_any (wr.drewN n) r s j e q false (hr.drewN n) hbt
              clear hbt hr
              go_wp2
              go_quiet ((go_at_call 45; exact Calls.quiet_of (hh _)))
              go_wp2
              go_meet
              exact ⟨false, rfl, hR, _, rfl⟩
            · obtain ⟨c, hc⟩ : ∃ c, s[j].toNat = c := ⟨_, rfl⟩
              have hcb : bt s j = c := by rw [← bt_at s j hj, hc]
              have hz0 : (0 : Int) ≤ (j : Int) := by omega
              have hz9 : (j : Int) < (s.size : Int) := by omega
              obtain ⟨y0, y1, y2, y3⟩ := hr.cells
              have hh := fun n => rhas_any (wr.drewN n) r s j 0 q true (hr.drewN n) (by simpa using hj)
              have ha := fun w => among_times c w
              rw [hcb] at ha1
              simp only [ha1] at ha
              clear ha1
              clear hcb hr
              go_wp2
              go_quiet (first | (go_at_call 45; exact Calls.quiet_of (hh _)) | (go_at_call 107; exact Calls.quiet_of (quiet_eq (ha _))))
              go_wp2
              go_meet
              exact ⟨false, rfl, hR, _, rfl⟩
            · obtain ⟨c, hc⟩ : ∃ c, s[j].toNat = c := ⟨_, rfl⟩
              have hcb : bt s j = c := by rw [← bt_at s j hj, hc]
              have hz0 : (0 : Int) ≤ (j : Int) := by omega
              have hz9 : (j : Int) < (s.size : Int) := by omega
              obtain ⟨y0, y1, y2, y3⟩ := hr.cells
              have hh := fun n => rhas_any (wr.drewN n) r s j 0 q true (hr.drewN n) (by simpa using hj)
              have ha := fun w => among_times c w
              have HA := Lib.hid ha1
              have HR := Lib.hid hr
              rw [hcb] at ha1
              simp only [ha1] at ha
              clear ha1
              clear hcb hr
              go_wp2
              go_quiet (first | (go_at_call 45; exact Calls.quiet_of (hh _)) | (go_at_call 107; exact Calls.quiet_of (quiet_eq (ha _))))
              go_wp2
              go_meet
              exact ⟨true, rfl, ⟨j, mt, q, HR.out, hj, h1, h2, h3, HA⟩, _, rfl⟩
          case rest =>
            obtain ⟨b, h48, hH, n9, rfl⟩ := hcut
            unfold IsV at h48; subst h48
            clear HT
            cases b with
            | false =>
              have HQ2 := Lib.hid (show QSt s (m + 1) fin (l ++ [y]) r wr from hH)
              have d0 := hbe.cell 0
              have d1 := hbe.cell 1
              have d2 := hbe.cell 2
              have d3 := hbe.cell 3
              have d4 := hbe.cell 4
              have d5 := hbe.cell 5
              simp only [List.getElem?_toArray, List.getElem?_cons_zero, List.getElem?_cons_succ] at d0 d1 d2 d3 d4 d5
              have hO3 := (hOb.chg hcq fun q hq => hno q (by omega)).chg ((Chg.refl No _).drewN n9) fun _ _ h => h
              have b3 := (hbb.chg hcq (hno _ (Nat.le_refl _))).drewN n9
              have cc3 := (hCb.trans hcq).drewN n9
              have hslB : Sl (wr.drewN n9) (fun k => w.heap.size + 1 ≤ k ∧ some k ≠ u3.ownBlock) A n cap y.l := (hsl.drewN n9).mono fun k hk => ⟨by omega, fun e => by have := (hOlt k e.symm).2; omega⟩
              have b3l := b3.lt
              have hOq := hO3
              clear hH hbe hsl hcq
              go_wp2_with (at_builtin; refine wpList_append_ex rfl _ _ rfl (w.heap.size + 1) _ _ rfl (hO3.chg ((Chg.refl No _).alloc _) fun _ _ h => h) _ 1 y A n cap rfl (Blk.new _ _ _) (hslB.alloc _) (by first | omega | (simp; omega)) (by first | omega | (simp at b3l ⊢; omega)) ?_; intro v' w5 hO5 hgr hat)
              have h35 : Chg (fun q => some q = u3.ownBlock) _ w5 := ((Chg.refl _ _).alloc _).then_ (Chg.of_grown (S := fun q => some q = _) hgr fun q e _ => e.symm) fun q _ e => e
              have hnr : ¬ some r = u3.ownBlock := fun e => by have := (hOlt _ e.symm).1; have := HRL.out; omega
              have hnw : ¬ some w.heap.size = u3.ownBlock := fun e => by have := (hOlt _ e.symm).1; omega
              obtain ⟨A5, c5, hv5, _⟩ := hO5.form
              obtain ⟨A3, c3, hv3, _⟩ := hOq.form
              refine ⟨⟨l ++ [y], hO5, by simp; omega, b3.chg h35 hnw, cc3.then_ h35 fun q hq e => by have := (hOlt _ e.symm).1; omega, Lib.hid ((HQ2.out.chg (S := No) ((Chg.refl _ _).drewN n9) id).chg h35 hnr)⟩, ?_⟩
              rw [hv5, hv3]
              unfold lenM
              simp; omega
            | true =>
              obtain ⟨j, mt, q, hr, hj, h1, h2, HG2, HA⟩ := hH
              have HM : Hid (rrM r s.size wr = s.size + 2 - j) := Lib.hid (rrM_good hr)
              have hHA : bt s j = 42 ∨ bt s j = 43 ∨ bt s j = 63 ∨ bt s j = 123 := by
                have := HA.out
                unfold hasP at this; simp at this; omega
              have hrq := hr.drewN n9
              have hbq := hbe.drewN n9
              have hslq := hsl.drewN n9
              have hcqq := hcq.drewN n9
              obtain ⟨w5, hw5⟩ : ∃ x, wr.drewN n9 = x := ⟨_, rfl⟩
              rw [hw5] at hrq hbq hslq hcqq ⊢
              clear hw5 hr hbe hsl HA
              obtain ⟨c, hc⟩ : ∃ c, s[j].toNat = c := ⟨_, rfl⟩
              have hcb : bt s j = c := by rw [← bt_at s j hj, hc]
              have hz0 : (0 : Int) ≤ (j : Int) := by omega
              have hz9 : (j : Int) < (s.size : Int) := by omega
              obtain ⟨y0, y1, y2, y3⟩ := hrq.cells
              rw [hcb] at hHA
              have HCB := Lib.hid hcb
              clear hcb
              go_wp2
              go_quiet (fail)
              have hrw := hrq.drewN nq
              have hbw := hbq.drewN nq
              have hslw := hslq.drewN nq
              have hcw := hcqq.drewN nq
              obtain ⟨w6, hw6⟩ : ∃ x, w5.drewN nq = x := ⟨_, rfl⟩
              rw [hw6] at hrw hbw hslw hcw ⊢
              clear hw6 y0 y1 y2 y3 hz0 hz9
              obtain ⟨y0, y1, y2, y3⟩ := hrw.cells
              obtain ⟨z1, z2, z3⟩ := hrw.froz
              rcases hHA with rfl | rfl | rfl | rfl
              · have ht : timesGo s (mt + 1) y j = timesGo s mt (repEx 0 (-1) y) (j + 1) := by
                  conv => lhs; unfold timesGo
                  rw [HCB.out]; rfl
                have hr7 := hrw.step
                have kk : Chg (One r) w6 (w6.setCell ⟨r, 1, none⟩ (.int .i64 ((j : Int) + 1))) := (Chg.refl (One r) w6).setCell (p := ⟨r, 1, none⟩) _ fun _ => rfl
                have hT7 : TSt s m1 l fin j (repEx 0 (-1) y) r (w6.setCell ⟨r, 1, none⟩ (.int .i64 ((j : Int) + 1))) := .inl ⟨j + 1, mt, q, hr7, by omega, by omega, by omega, Lib.hid (by rw [← HG2.out, ht])⟩
                clear ht hr7
                have b7 := hbw.chg kk (hnb _ hge)
                have s7 := hslw.chg kk fun k hk => hnb k hk.1
                have c7 := hcw.trans kk
                have d0 := b7.cell 0
                have d1 := b7.cell 1
                have d2 := b7.cell 2
                have d3 := b7.cell 3
                have d4 := b7.cell 4
                have d5 := b7.cell 5
                simp only [List.getElem?_toArray, List.getElem?_cons_zero, List.getElem?_cons_succ] at d0 d1 d2 d3 d4 d5
                have b8 := b7.alloc (.cells #[.int .i64 y.k, .int .i64 y.f, .int .i64 y.t, .int .i64 y.a, .int .i64 y.b, .slice A n cap] 25)
                go_wp2_with (refine wpList_store_ex rfl _ _ rfl _ _ _ _ _ _ _ b8 rfl _ _ _ _ _ _ _ _ rfl ?_; intro wz hbz hcz)
                have hI := TInv.next HRB.out hge b7 s7 c7 hT7 hbz (by first | rfl | simp [World.setCell]) hcz
                refine ⟨by first | exact (show TInv wb r s ge m1 l fin j0 wz from hI.imp fun _ h => h.imp fun _ h => h.imp fun _ h => h.imp fun _ h => ⟨h.1, h.2.1, h.2.2.1, Lib.hid (h.2.2.2.out.mono (Nat.le_of_lt h1))⟩) | ((repeat apply Exists.intro); exact ⟨(show TInv wb r s ge m1 l fin j0 wz from hI.imp fun _ h => h.imp fun _ h => h.imp fun _ h => h.imp fun _ h => ⟨h.1, h.2.1, h.2.2.1, Lib.hid (h.2.2.2.out.mono (Nat.le_of_lt h1))⟩), rfl⟩), ?_⟩
                show rrM r s.size wz < rrM r s.size wr
                rw [HM.out]
                obtain ⟨_, _, _, _, _, _, _, HT8⟩ := hI
                exact HT8.out.less hj
              · have ht : timesGo s (mt + 1) y j = timesGo s mt (repEx 1 (-1) y) (j + 1) := by
                  conv => lhs; unfold timesGo
                  rw [HCB.out]; rfl
                have hr7 := hrw.step
                have kk : Chg (One r) w6 (w6.setCell ⟨r, 1, none⟩ (.int .i64 ((j : Int) + 1))) := (Chg.refl (One r) w6).setCell (p := ⟨r, 1, none⟩) _ fun _ => rfl
                have hT7 : TSt s m1 l fin j (repEx 1 (-1) y) r (w6.setCell ⟨r, 1, none⟩ (.int .i64 ((j : Int) + 1))) := .inl ⟨j + 1, mt, q, hr7, by omega, by omega, by omega, Lib.hid (by rw [← HG2.out, ht])⟩
                clear ht hr7
                have b7 := hbw.chg kk (hnb _ hge)
                have s7 := hslw.chg kk fun k hk => hnb k hk.1
                have c7 := hcw.trans kk
                have d0 := b7.cell 0
                have d1 := b7.cell 1
                have d2 := b7.cell 2
                have d3 := b7.cell 3
                have d4 := b7.cell 4
                have d5 := b7.cell 5
                simp only [List.getElem?_toArray, List.getElem?_cons_zero, List.getElem?_cons_succ] at d0 d1 d2 d3 d4 d5
                have b8 := b7.alloc (.cells #[.int .i64 y.k, .int .i64 y.f, .int .i64 y.t, .int .i64 y.a, .int .i64 y.b, .slice A n cap] 25)
                go_wp2_with (refine wpList_store_ex rfl _ _ rfl _ _ _ _ _ _ _ b8 rfl _ _ _ _ _ _ _ _ rfl ?_; intro wz hbz hcz)
                have hI := TInv.next HRB.out hge b7 s7 c7 hT7 hbz (by first | rfl | simp [World.setCell]) hcz
                refine ⟨by first | exact (show TInv wb r s ge m1 l fin j0 wz from hI.imp fun _ h => h.imp fun _ h => h.imp fun _ h => h.imp fun _ h => ⟨h.1, h.2.1, h.2.2.1, Lib.hid (h.2.2.2.out.mono (Nat.le_of_lt h1))⟩) | ((repeat apply Exists.intro); exact ⟨(show TInv wb r s ge m1 l fin j0 wz from hI.imp fun _ h => h.imp fun _ h => h.imp fun _ h => h.imp fun _ h => ⟨h.1, h.2.1, h.2.2.1, Lib.hid (h.2.2.2.out.mono (Nat.le_of_lt h1))⟩), rfl⟩), ?_⟩
                show rrM r s.size wz < rrM r s.size wr
                rw [HM.out]
                obtain ⟨_, _, _, _, _, _, _, HT8⟩ := hI
                exact HT8.out.less hj
              · have ht : timesGo s (mt + 1) y j = timesGo s mt (repEx 0 1 y) (j + 1) := by
                  conv => lhs; unfold timesGo
                  rw [HCB.out]; rfl
                have hr7 := hrw.step
                have kk : Chg (One r) w6 (w6.setCell ⟨r, 1, none⟩ (.int .i64 ((j : Int) + 1))) := (Chg.refl (One r) w6).setCell (p := ⟨r, 1, none⟩) _ fun _ => rfl
                have hT7 : TSt s m1 l fin j (repEx 0 1 y) r (w6.setCell ⟨r, 1, none⟩ (.int .i64 ((j : Int) + 1))) := .inl ⟨j + 1, mt, q, hr7, by omega, by omega, by omega, Lib.hid (by rw [← HG2.out, ht])⟩
                clear ht hr7
                have b7 := hbw.chg kk (hnb _ hge)
                have s7 := hslw.chg kk fun k hk => hnb k hk.1
                have c7 := hcw.trans kk
                have d0 := b7.cell 0
                have d1 := b7.cell 1
                have d2 := b7.cell 2
                have d3 := b7.cell 3
                have d4 := b7.cell 4
                have d5 := b7.cell 5
                simp only [List.getElem?_toArray, List.getElem?_cons_zero, List.getElem?_cons_succ] at d0 d1 d2 d3 d4 d5
                have b8 := b7.alloc (.cells #[.int .i64 y.k, .int .i64 y.f, .int .i64 y.t, .int .i64 y.a, .int .i64 y.b, .slice A n cap] 25)
                go_wp2_with (refine wpList_store_ex rfl _ _ rfl _ _ _ _ _ _ _ b8 rfl _ _ _ _ _ _ _ _ rfl ?_; intro wz hbz hcz)
                have hI := TInv.next HRB.out hge b7 s7 c7 hT7 hbz (by first | rfl | simp [World.setCell]) hcz
                refine ⟨by first | exact (show TInv wb r s ge m1 l fin j0 wz from hI.imp fun _ h => h.imp fun _ h => h.imp fun _ h => h.imp fun _ h => ⟨h.1, h.2.1, h.2.2.1, Lib.hid (h.2.2.2.out.mono (Nat.le_of_lt h1))⟩) | ((repeat apply Exists.intro); exact ⟨(show TInv wb r s ge m1 l fin j0 wz from hI.imp fun _ h => h.imp fun _ h => h.imp fun _ h => h.imp fun _ h => ⟨h.1, h.2.1, h.2.2.1, Lib.hid (h.2.2.2.out.mono (Nat.le_of_lt h1))⟩), rfl⟩), ?_⟩
                show rrM r s.size wz < rrM r s.size wr
                rw [HM.out]
                obtain ⟨_, _, _, _, _, _, _, HT8⟩ := hI
                exact HT8.out.less hj
              · have ht : timesGo s (mt + 1) y j = (bracesP s j).bind fun p j => timesGo s mt (repEx p.1 p.2 y) j := by
                  conv => lhs; unfold timesGo
                  rw [HCB.out]; rfl
                have HT9 := Lib.hid ht
                clear ht
                go_wp2_with fail
                refine (rbraces_any _ r s j q hrw hs hj).mono ?_
                intro e w7 hp
                have hpx : ∃ (a b : Int), e = .returned (.tuple #[.int .i64 a, .int .i64 b]) ∧ Chg (One r) w6 w7 ∧ TSt s m1 l fin j (repEx a b y) r w7 := by
                  cases hq : bracesP s j with
                  | ok p j2 =>
                    rw [hq] at hp
                    have hj2 := bracesP_ok s j p j2 hj hq
                    obtain ⟨g1, ⟨q2, g2⟩, g3⟩ := hp
                    exact ⟨p.1, p.2, g1, g3, .inl ⟨j2, mt, q2, g2, hj2.2, hj2.1, by omega, Lib.hid (by rw [← HG2.out, HT9.out, hq]; rfl)⟩⟩
                  | bad cf q2 =>
                    rw [hq] at hp
                    obtain ⟨⟨a, g1⟩, ⟨j2, g2⟩, g3, g4⟩ := hp
                    exact ⟨a.1, a.2, g1, g3, .inr ⟨cf, q2, j2, Lib.hid (by rw [← HG2.out, HT9.out, hq]; rfl), Lib.hid g4, g2⟩⟩
                obtain ⟨a, b, rfl, kk, hT7⟩ := hpx
                clear hp hrw y0 y1 y2 y3 z1 z2 z3
                have b7 := hbw.chg kk (hnb _ hge)
                have s7 := hslw.chg kk fun k hk => hnb k hk.1
                have c7 := hcw.trans kk
                have d0 := b7.cell 0
                have d1 := b7.cell 1
                have d2 := b7.cell 2
                have d3 := b7.cell 3
                have d4 := b7.cell 4
                have d5 := b7.cell 5
                simp only [List.getElem?_toArray, List.getElem?_cons_zero, List.getElem?_cons_succ] at d0 d1 d2 d3 d4 d5
                have b8 := b7.alloc (.cells #[.int .i64 y.k, .int .i64 y.f, .int .i64 y.t, .int .i64 y.a, .int .i64 y.b, .slice A n cap] 25)
                go_wp2_with (refine wpList_store_ex rfl _ _ rfl _ _ _ _ _ _ _ b8 rfl _ _ _ _ _ _ _ _ rfl ?_; intro wz hbz hcz)
                have hI := TInv.next HRB.out hge b7 s7 c7 hT7 hbz (by first | rfl | simp [World.setCell]) hcz
                refine ⟨by first | exact (show TInv wb r s ge m1 l fin j0 wz from hI.imp fun _ h => h.imp fun _ h => h.imp fun _ h => h.imp fun _ h => ⟨h.1, h.2.1, h.2.2.1, Lib.hid (h.2.2.2.out.mono (Nat.le_of_lt h1))⟩) | ((repeat apply Exists.intro); exact ⟨(show TInv wb r s ge m1 l fin j0 wz from hI.imp fun _ h => h.imp fun _ h => h.imp fun _ h => h.imp fun _ h => ⟨h.1, h.2.1, h.2.2.1, Lib.hid (h.2.2.2.out.mono (Nat.le_of_lt h1))⟩), rfl⟩), ?_⟩
                show rrM r s.size wz < rrM r s.size wr
                rw [HM.out]
                obtain ⟨_, _, _, _, _, _, _, HT8⟩ := hI
                exact HT8.out.less hj

theorem rread_all : ∀ m : Nat, PatT m ∧ RowT m ∧ AtomT m := by
  intro m
  induction m using Nat.strongRecOn with
  | ind m ih =>
    cases m with
    | zero => exact ⟨fun w r s i p h hs hi hm => by omega, fun w r s i p h hs hi hm => by omega, fun w r s i p h hs hi hm => by omega⟩
    | succ m => exact ⟨rpattern_step m fun k hk => (ih k (by omega)).2.1, rrow_step m fun k hk => (ih k (by omega)).2.2, ratom_step m fun k hk => (ih k (by omega)).1⟩
end Go.Proofs.YticipgjbgcdccaaDoor
namespace Go.Proofs.YticipgjbgcdccaaDoor
open Go.RowKit

theorem lenOk_mk {k f t a b : Int} {l : List Ex} (h1 : l.length ≤ 3000000) (h2 : ∀ y ∈ l, lenOk y) : lenOk (.mk k f t a b l) := by
  unfold lenOk
  exact ⟨by omega, (lensOk_iff l).2 h2⟩
theorem lenOk_oneOr {k : Int} {l : List Ex} (h1 : l.length ≤ 3000000) (h2 : ∀ y ∈ l, lenOk y) : lenOk (oneOr k l) := by
  match l with
  | [] => exact lenOk_mk h1 h2
  | [x] => exact h2 x (by simp)
  | x :: y :: l => exact lenOk_mk h1 h2
theorem lenOk_byte (c : Nat) : lenOk (byteEx c) := lenOk_mk (by simp) (by simp)
theorem lenOk_rg (p : Nat × Nat) : lenOk (rg p) := lenOk_mk (by simp) (by simp)
theorem classGo_len (s : ByteArray) (i : Nat) (nt : Bool) : ∀ (m : Nat) (l : List (Nat × Nat)) (k : Nat) (l' : List (Nat × Nat)) (j : Nat), classGo s i nt m l k = .ok l' j → l'.length ≤ l.length + m
  | 0, l, k, l', j, h => by simp [classGo] at h
  | m + 1, l, k, l', j, h => by
    unfold classGo at h
    split at h
    · cases h
    · split at h
      · cases h; omega
      · cases hq : oneP s (l.isEmpty && !nt) k with
        | bad c p => rw [hq] at h; cases h
        | ok a j1 =>
          rw [hq, PR.bind_ok] at h
          split at h
          · cases h
          · split at h
            · cases hq2 : oneP s false (j1 + 1) with
              | bad c p => rw [hq2] at h; cases h
              | ok b j2 =>
                rw [hq2, PR.bind_ok] at h
                split at h
                · cases h
                · have := classGo_len s i nt m _ _ _ _ h
                  simp at this; omega
            · have := classGo_len s i nt m _ _ _ _ h
              simp at this; omega
theorem classP_len {s : ByteArray} {i : Nat} {x : Ex} {j : Nat} (hs : s.size ≤ 65536) (h : classP s i = .ok x j) : lenOk x := by
  unfold classP at h
  cases hc : classGo s i (decide (bt s (i + 1) = 94)) (s.size + 1) [] (if bt s (i + 1) = 94 then i + 2 else i + 1) with
  | bad c p => rw [hc] at h; cases h
  | ok l j0 =>
    rw [hc, PR.bind_ok] at h
    have h2 := classGo_len _ _ _ _ _ _ _ _ hc
    unfold classEnd at h
    have h3 : (if decide (bt s (i + 1) = 94) = true then othersP l else l).length ≤ 70000 := by
      split
      · have : (othersP l).length ≤ 256 := othersTo_len _ 256
        omega
      · simp at h2; omega
    generalize (if decide (bt s (i + 1) = 94) = true then othersP l else l) = q at h h3
    by_cases hz : q = []
    · rw [if_pos hz] at h; cases h
    · rw [if_neg hz] at h
      cases h
      rw [eitherR_one]
      refine lenOk_oneOr ?_ fun y hy => ?_
      · rw [List.length_map]; omega
      · obtain ⟨p, _, rfl⟩ := List.mem_map.1 hy
        exact lenOk_rg p
theorem timesGo_len (s : ByteArray) : ∀ (m : Nat) (x : Ex) (i : Nat) (y : Ex) (j : Nat), lenOk x → timesGo s m x i = .ok y j → lenOk y
  | 0, x, i, y, j, _, h => by simp [timesGo] at h
  | m + 1, x, i, y, j, hx, h => by
    have hr : ∀ a b, lenOk (repEx a b x) := fun a b => lenOk_mk (by simp) (by simpa using hx)
    unfold timesGo at h
    split at h
    · exact timesGo_len s m _ _ _ _ (hr _ _) h
    · split at h
      · exact timesGo_len s m _ _ _ _ (hr _ _) h
      · split at h
        · exact timesGo_len s m _ _ _ _ (hr _ _) h
        · split at h
          · cases hb : bracesP s i with
            | bad c p => rw [hb] at h; cases h
            | ok p j2 => rw [hb, PR.bind_ok] at h; exact timesGo_len s m _ _ _ _ (hr _ _) h
          · cases h; exact hx
theorem read_len {s : ByteArray} (hs : s.size ≤ 65536) : ∀ m : Nat, m ≤ 1000000 → (∀ l i x j, l.length + m ≤ 2000000 → (∀ y ∈ l, lenOk y) → patGo s m l i = .ok x j → lenOk x) ∧
    (∀ l i x j, l.length + m ≤ 2000000 → (∀ y ∈ l, lenOk y) → rowGo s m l i = .ok x j → lenOk x) ∧ (∀ i x j, atomP s m i = .ok x j → lenOk x)
  | 0, _ => ⟨fun _ _ _ _ _ _ h => by simp [patGo] at h, fun _ _ _ _ _ _ h => by simp [rowGo] at h, fun _ _ _ h => by simp [atomP] at h⟩
  | m + 1, hm => by
    obtain ⟨h1, h2, h3⟩ := read_len hs m (by omega)
    have hsn : ∀ (l : List Ex) (x : Ex), (∀ y ∈ l, lenOk y) → lenOk x → ∀ y ∈ l ++ [x], lenOk y := by
      intro l x hl hx y hy
      rcases List.mem_append.1 hy with h | h
      · exact hl y h
      · simp at h; subst h; exact hx
    refine ⟨fun l i x j hl ha h => ?_, fun l i x j hl ha h => ?_, fun i x j h => ?_⟩
    · unfold patGo at h
      cases hr : rowGo s m [] i with
      | bad c p => rw [hr] at h; cases h
      | ok y j1 =>
        rw [hr, PR.bind_ok] at h
        have hy := h2 [] i y j1 (by simp; omega) (by simp) hr
        split at h
        · exact h1 _ _ _ _ (by simp; omega) (hsn l y ha hy) h
        · cases h; exact lenOk_oneOr (by simp; omega) (hsn l y ha hy)
    · unfold rowGo at h
      split at h
      · cases h; exact lenOk_oneOr (by omega) ha
      · cases hr : atomP s m i with
        | bad c p => rw [hr] at h; cases h
        | ok y j1 =>
          rw [hr, PR.bind_ok] at h
          cases ht : timesGo s (s.size + 1) y j1 with
          | bad c p => rw [ht] at h; cases h
          | ok z j2 =>
            rw [ht, PR.bind_ok] at h
            exact h2 _ _ _ _ (by simp; omega) (hsn l z ha (timesGo_len s _ _ _ _ _ (h3 _ _ _ hr) ht)) h
    · unfold atomP at h
      split at h
      · cases hr : escP s i with
        | bad c p => rw [hr] at h; cases h
        | ok c j1 => rw [hr] at h; cases h; exact lenOk_byte c
      · split at h
        · cases h; exact lenOk_mk (by simp) (by simp)
        · split at h
          · exact classP_len hs h
          · split at h
            · cases hr : patGo s m [] (i + 1) with
              | bad c p => rw [hr] at h; cases h
              | ok y j1 =>
                rw [hr, PR.bind_ok] at h
                have hy := h1 [] _ _ _ (by simp; omega) (by simp) hr
                split at h
                · cases h
                · split at h
                  · cases h; exact hy
                  · cases h
            · split at h
              · cases h; exact lenOk_byte _
              · cases h

theorem info_flt : (Tryd.prog.info? 28).map (fun i => (i.zero, i.size, i.bytes)) = some (some (.agg #[.int .i64 0, .int .i64 0, .string ⟨#[]⟩]), 3, 32) := by kernel_rfl
/-- a fault is stored into a block of its own -/
theorem wpList_store_flt {w : World} {ops : Array Oper} {rest : List Oper} {o : Oper} {a : Act} {Q : Exit → Act → World → Prop} (hgd : o.guard = none) (x y : Operand) (ho : o.op = .store 28 x y)
    (g : Nat) (v0 v1 v2 : Value) (hb : Blk w g 28 #[v0, v1, v2]) (hx : a.eval x = .pointer (some ⟨g, 0, none⟩)) (u v : Int) (m : ByteArray)
    (hy : a.eval y = .agg #[.int .i64 u, .int .i64 v, .string m])
    (h : ∀ w', Blk w' g 28 #[.int .i64 u, .int .i64 v, .string m] → Chg (One g) w w' → wpList Tryd.prog ops Q rest (a.put o.dst undef) w') : wpList Tryd.prog ops Q (o :: rest) a w := by
  obtain ⟨i0, hi, hz0, hz1, hz2⟩ := info_parts info_flt
  exact wpList_store_blk hgd _ x y ho g _ _ _ hx hy hb rfl (by rw [hi]; simp [hz1]) (by simp [Value.oneCell']) h

/-- what this Parse leaves -/
def RParsePost (s : ByteArray) (w : World) (e : Ending) (w' : World) : Prop :=
  ∃ A n c, e = .returned (.tuple #[exV (parseP s).1 A n c, .agg #[.int .i64 (parseP s).2.1, .int .i64 ((parseP s).2.2 : Int), .string ⟨#[]⟩]]) ∧
    Sl w' (fun k => w.heap.size ≤ k) A n c (parseP s).1.l ∧ Chg No w w'
theorem RParsePost.of {s : ByteArray} {w w' : World} {e : Ending} {x : Ex} {c : Int} {q : Nat} {A : Option Addr} {n cap : Nat} (h : parseP s = (x, c, q)) (he : e = .returned (.tuple #[exV x A n cap, .agg #[.int .i64 c, .int .i64 (q : Int), .string ⟨#[]⟩]]))
    (hs : Sl w' (fun k => w.heap.size ≤ k) A n cap x.l) (hc : Chg No w w') : RParsePost s w e w' := by
  unfold RParsePost; rw [h]; exact ⟨A, n, cap, he, hs, hc⟩

theorem rparse_cases (s : ByteArray) (x : Ex) (r : Nat) (w : World) (h0 : ¬ 4096 < s.size) (h : RSt (patGo s (5 * s.size + 4) [] 0) x r s w) :
    (∃ j p, RR w r s j 0 p ∧ s.size ≤ j ∧ lenOk x ∧ parseP s = if checkP x = 0 then (x, 0, 0) else (zeroEx, checkP x, 0)) ∨
      (∃ c q j, c ≠ 0 ∧ RR w r s j c q ∧ parseP s = (zeroEx, c, q)) ∨ (∃ j p, RR w r s j 0 p ∧ j < s.size ∧ parseP s = (zeroEx, 22, j)) := by
  have hP : parseP s = match patGo s (5 * s.size + 4) [] 0 with
      | .bad c p => (zeroEx, c, p)
      | .ok x j => if j < s.size then (zeroEx, 22, j) else if checkP x = 0 then (x, 0, 0) else (zeroEx, checkP x, 0) := by unfold parseP; rw [if_neg h0] <;> rfl
  cases hq : patGo s (5 * s.size + 4) [] 0 with
  | ok y j =>
    rw [hq] at h hP
    obtain ⟨rfl, p, hr⟩ := h
    by_cases hj : j < s.size
    · exact .inr (.inr ⟨j, p, hr, hj, by rw [hP]; exact if_pos hj⟩)
    · refine .inl ⟨j, p, hr, by omega, ?_, by rw [hP]; exact if_neg hj⟩
      exact (read_len (by omega) _ (by omega)).1 [] 0 x j (by simp; omega) (by simp) hq
  | bad c q =>
    rw [hq] at h hP
    rcases h with ⟨h1, j, h2⟩ | ⟨rfl, h2, h3, h4, p, h5⟩
    · exact .inr (.inl ⟨c, q, j, h1, h2, hP⟩)
    · exact .inr (.inr ⟨q, p, h5, h2, hP⟩)

set_option maxHeartbeats 2000000 in
set_option maxRecDepth 100000 in
theorem rparse_any (s : ByteArray) (w : World) : Calls Tryd.prog 13 #[.string s] w fun e w' => RParsePost s w e w' := by
  have hb0 := (Blk.new w 25 #[.int .i64 0, .int .i64 0, .int .i64 0, .int .i64 0, .int .i64 0, .slice none 0 0]).alloc (.cells #[.int .i64 0, .int .i64 0, .string ⟨#[]⟩] 28)
  have hf0 := Blk.new' (w := w.alloc (.cells #[.int .i64 0, .int .i64 0, .int .i64 0, .int .i64 0, .int .i64 0, .slice none 0 0] 25)) (g := w.heap.size + 1) (t := 28) (cs := #[.int .i64 0, .int .i64 0, .string ⟨#[]⟩]) (by simp)
  have hc0 : Chg No w ((w.alloc (.cells #[.int .i64 0, .int .i64 0, .int .i64 0, .int .i64 0, .int .i64 0, .slice none 0 0] 25)).alloc (.cells #[.int .i64 0, .int .i64 0, .string ⟨#[]⟩] 28)) := ((Chg.refl _ _).alloc _).alloc _
  go_enter Tryd.func13, Tryd.ntmps13
  by_cases h0 : 4096 < s.size
  · have HP : Hid (parseP s = (zeroEx, 2, 0)) := Lib.hid (by unfold parseP; rw [if_pos h0])
    have h0' : (s.size : Int) > 4096 := by omega
    go_wp2_with (first | (refine wpList_store_ex rfl _ _ rfl _ _ _ _ _ _ _ hb0 rfl _ _ _ _ _ _ _ _ rfl ?_; intro wz hbz hcz) | (refine wpList_store_flt rfl _ _ rfl _ _ _ _ (hf0.chg hcz fun e => by unfold One at e; omega) rfl _ _ _ rfl ?_; intro wy hfy hcy))
    refine bodyPost_ret (res_xf rfl rfl rfl (hbz.chg hcy fun e => by unfold One at e; omega) hfy) rfl (RParsePost.of HP.out rfl (Sl.nil _ _) ((hc0.then_ hcz fun k hk e => by unfold One at e; omega).then_ hcy fun k hk e => by unfold One at e; omega))
  · have h0' : ¬ (s.size : Int) > 4096 := by omega
    have H0 := Lib.hid h0
    have hs : s.size ≤ 65536 := by omega
    have hr0 : RR (((w.alloc (.cells #[.int .i64 0, .int .i64 0, .int .i64 0, .int .i64 0, .int .i64 0, .slice none 0 0] 25)).alloc (.cells #[.int .i64 0, .int .i64 0, .string ⟨#[]⟩] 28)).alloc (.cells #[.string s, .int .i64 0, .int .i64 0, .int .i64 0] 77)) (w.heap.size + 2) s 0 0 0 := Blk.new' (by simp)
    have hb1 := hb0.alloc (.cells #[.string s, .int .i64 0, .int .i64 0, .int .i64 0] 77)
    have hf1 := hf0.alloc (.cells #[.string s, .int .i64 0, .int .i64 0, .int .i64 0] 77)
    have hc1 := hc0.alloc (.cells #[.string s, .int .i64 0, .int .i64 0, .int .i64 0] 77)
    clear hb0 hf0 hc0 h0
    go_wp2_with fail
    refine ((rread_all (5 * s.size + 4)).1 _ _ s 0 0 hr0 hs (by omega) (by omega)).mono ?_
    rintro e w2 ⟨x, A, n, cap, rfl, hsl, hc2, hS⟩
    have hne : ∀ k, k ≤ w.heap.size + 1 → ¬ One (w.heap.size + 2) k := fun k hk e => by unfold One at e; omega
    have hb2 := hb1.chg hc2 (hne _ (by omega))
    have hf2 := hf1.chg hc2 (hne _ (by omega))
    have hc3 : Chg No w w2 := hc1.then_ hc2 fun k hk e => by unfold One at e; omega
    have hz2 : w.heap.size + 2 < w2.heap.size := by have := hc2.size; simp at this; omega
    have hslB : Sl w2 (fun k => w.heap.size + 2 < k ∧ k < w2.heap.size) A n cap x.l := hsl.keep (fun _ _ _ => rfl) (fun k hk hz => ⟨by simp at hk; omega, hz⟩) (Nat.le_refl _)
    have hcs := rparse_cases s x _ w2 H0.out hS
    have bn := Blk.new w2 25 #[.int .i64 0, .int .i64 0, .int .i64 0, .int .i64 0, .int .i64 0, .slice none 0 0]
    clear hsl hS hb1 hf1 hc1 hc2 hr0
    go_wp2_with (refine wpList_store_ex rfl _ _ rfl _ _ _ _ _ _ _ bn rfl _ _ _ _ _ _ _ _ rfl ?_; intro wz hbz hcz)
    have hb4 : Blk wz w.heap.size 25 #[.int .i64 0, .int .i64 0, .int .i64 0, .int .i64 0, .int .i64 0, .slice none 0 0] := (hb2.alloc (.cells #[.int .i64 0, .int .i64 0, .int .i64 0, .int .i64 0, .int .i64 0, .slice none 0 0] 25)).chg hcz fun e => by unfold One at e; omega
    have hf4 : Blk wz (w.heap.size + 1) 28 #[.int .i64 0, .int .i64 0, .string ⟨#[]⟩] := (hf2.alloc (.cells #[.int .i64 0, .int .i64 0, .int .i64 0, .int .i64 0, .int .i64 0, .slice none 0 0] 25)).chg hcz fun e => by unfold One at e; omega
    have hc4 : Chg No w wz := (hc3.alloc (.cells #[.int .i64 0, .int .i64 0, .int .i64 0, .int .i64 0, .int .i64 0, .slice none 0 0] 25)).then_ hcz fun k hk e => by unfold One at e; omega
    have hsl4 : Sl wz (fun k => w.heap.size + 2 < k ∧ k < w2.heap.size) A n cap x.l := (hslB.alloc (.cells #[.int .i64 0, .int .i64 0, .int .i64 0, .int .i64 0, .int .i64 0, .slice none 0 0] 25)).chg hcz fun k hk e => by unfold One at e; omega
    have hr4 : ∀ j e q, RR w2 (w.heap.size + 2) s j e q → RR wz (w.heap.size + 2) s j e q := fun j e q h => (Blk.alloc h _ : RR (w2.alloc (.cells #[.int .i64 0, .int .i64 0, .int .i64 0, .int .i64 0, .int .i64 0, .slice none 0 0] 25)) (w.heap.size + 2) s j e q).chg hcz fun e => by unfold One at e; omega
    have HZ := Lib.hid hz2
    clear hz2 hb2 hf2 hc3 hslB bn hcz
    obtain ⟨G, hG⟩ : ∃ g, w2.heap.size = g := ⟨_, rfl⟩
    simp only [hG] at hbz hsl4 HZ ⊢
    rcases hcs with ⟨j, p, hr, hj, hok, hP⟩ | ⟨c, q, j, hc, hr, hP⟩ | ⟨j, p, hr, hj, hP⟩
    · have T := rhas_any wz _ s j 0 p false (hr4 _ _ _ hr) (by simpa using hj)
      have HR := Lib.hid (hr4 _ _ _ hr)
      clear hr hr4 hj
      go_wp2_with fail
      refine T.mono ?_
      rintro e w5 ⟨rfl, n5, rfl⟩
      obtain ⟨y0, y1, y2, y3⟩ := (HR.out.drewN n5).cells
      have b5 := hbz.drewN n5
      have x0 := b5.cell 0
      have x1 := b5.cell 1
      have x2 := b5.cell 2
      have x3 := b5.cell 3
      have x4 := b5.cell 4
      have x5 := b5.cell 5
      simp only [List.getElem?_toArray, List.getElem?_cons_zero, List.getElem?_cons_succ] at x0 x1 x2 x3 x4 x5
      have hck := rCheck_any x A n cap _ (wz.drewN n5) (hsl4.drewN n5) hok
      obtain ⟨u, hu⟩ : ∃ u, checkP x = u := ⟨_, rfl⟩
      rw [hu] at hck hP
      have HX := Lib.hid hP
      clear hP hu hok
      go_wp2_with fail
      refine hck.mono ?_
      rintro e w6 ⟨rfl, hc6⟩
      have hb6 := (hb4.drewN n5).chg hc6 id
      have hf6 := (hf4.drewN n5).chg hc6 id
      have hc7 : Chg No w w6 := (hc4.drewN n5).trans hc6
      have hsl6 := (hsl4.drewN n5).chgNo hc6
      have b6 := b5.chg hc6 id
      clear x0 x1 x2 x3 x4 x5 y0 y1 y2 y3 hck T
      have x0 := b6.cell 0
      have x1 := b6.cell 1
      have x2 := b6.cell 2
      have x3 := b6.cell 3
      have x4 := b6.cell 4
      have x5 := b6.cell 5
      simp only [List.getElem?_toArray, List.getElem?_cons_zero, List.getElem?_cons_succ] at x0 x1 x2 x3 x4 x5
      by_cases q0 : u = 0
      · have HP : Hid (parseP s = (x, 0, 0)) := Lib.hid (by rw [HX.out, if_pos q0])
        subst q0
        clear HX hbz b5 b6 hf4 hb4 hc4 hsl4
        go_wp2_with (first | (refine wpList_store_ex rfl _ _ rfl _ _ _ _ _ _ _ hb6 rfl _ _ _ _ _ _ _ _ rfl ?_; intro w8 hb8 hc8) | (refine wpList_store_flt rfl _ _ rfl _ _ _ _ (hf6.chg hc8 fun e => by unfold One at e; omega) rfl _ _ _ rfl ?_; intro wy hfy hcy))
        refine bodyPost_ret (res_xf (A := A) (n := n) (c := cap) rfl rfl rfl (hb8.chg hcy fun e => by unfold One at e; omega) hfy) rfl (RParsePost.of HP.out rfl (Sl.mono ((hsl6.chg hc8 fun k hk e => by unfold One at e; omega).chg hcy fun k hk e => by unfold One at e; omega) fun k hk => by omega) ((hc7.then_ hc8 fun k hk e => by unfold One at e; omega).then_ hcy fun k hk e => by unfold One at e; omega))
      · have HP : Hid (parseP s = (zeroEx, u, 0)) := Lib.hid (by rw [HX.out, if_neg q0])
        have e1 : (u != 0) = true := by simpa using q0
        clear HX hbz b5 b6 hf4 hb4 hc4 hsl4 x0 x1 x2 x3 x4 x5
        go_wp2_with (first | (refine wpList_store_ex rfl _ _ rfl _ _ _ _ _ _ _ hb6 rfl _ _ _ _ _ _ _ _ rfl ?_; intro w8 hb8 hc8) | (refine wpList_store_flt rfl _ _ rfl _ _ _ _ (hf6.chg hc8 fun e => by unfold One at e; omega) rfl _ _ _ rfl ?_; intro wy hfy hcy))
        refine bodyPost_ret (res_xf rfl rfl rfl (hb8.chg hcy fun e => by unfold One at e; omega) hfy) rfl (RParsePost.of HP.out rfl (Sl.nil _ _) ((hc7.then_ hc8 fun k hk e => by unfold One at e; omega).then_ hcy fun k hk e => by unfold One at e; omega))
    · have T := rhas_any wz _ s j c q false (hr4 _ _ _ hr) (ne_bool hc _)
      have HR := Lib.hid (hr4 _ _ _ hr)
      have HP := Lib.hid hP
      have e1 : (c != 0) = true := by simpa using hc
      clear hr hr4 hP
      go_wp2_with fail
      refine T.mono ?_
      rintro e w5 ⟨rfl, n5, rfl⟩
      have hr9 := HR.out.drewN n5
      have hb9 := hb4.drewN n5
      have hf9 := hf4.drewN n5
      have hc9 := hc4.drewN n5
      obtain ⟨w9, hw9⟩ : ∃ x, wz.drewN n5 = x := ⟨_, rfl⟩
      rw [hw9] at hr9 hb9 hf9 hc9 ⊢
      clear hw9 HR hb4 hf4 hc4 hbz hsl4 T
      obtain ⟨y0, y1, y2, y3⟩ := hr9.cells
      have z0 := hb9.cell 0
      have f0 := hb9.frozen 0
      have z1 := hb9.cell 1
      have f1 := hb9.frozen 1
      have z2 := hb9.cell 2
      have f2 := hb9.frozen 2
      have z3 := hb9.cell 3
      have f3 := hb9.frozen 3
      have z4 := hb9.cell 4
      have f4 := hb9.frozen 4
      have z5 := hb9.cell 5
      have f5 := hb9.frozen 5
      have v0 := hf9.cell 0
      have g0 := hf9.frozen 0
      have v1 := hf9.cell 1
      have g1 := hf9.frozen 1
      have v2 := hf9.cell 2
      have g2 := hf9.frozen 2
      simp only [List.getElem?_toArray, List.getElem?_cons_zero, List.getElem?_cons_succ] at z0 z1 z2 z3 z4 z5 v0 v1 v2
      go_wp2
      go_region
      all_goals
        go_wp2
        refine bodyPost_ret (res_xf (g := w.heap.size) (h := w.heap.size + 1) (k := 0) (f := 0) (t := 0) (a' := 0) (b := 0) (A := none) (n := 0) (c := 0) (u := c) (v := (q : Nat)) (m := ⟨#[]⟩) rfl rfl rfl ?_ ?_) rfl (RParsePost.of HP.out rfl (Sl.nil _ _) ?_)
        · unfold Blk at hb9 ⊢
          simp [World.setCell, World.drew, Array.getElem?_modify, hb9]
        · unfold Blk at hf9 ⊢
          simp [World.setCell, World.drew, Array.getElem?_modify, hf9]
        · repeat' (first | with_reducible exact hc9 | with_reducible refine Chg.drew ?_ | with_reducible refine Chg.setCell ?_ _ ?_ | exact fun e => by dsimp only at e; omega)
    · have T := rhas_any wz _ s j 0 p true (hr4 _ _ _ hr) (by simpa using hj)
      have HR := Lib.hid (hr4 _ _ _ hr)
      have HP := Lib.hid hP
      have HJ := Lib.hid hj
      clear hr hr4 hP hj
      go_wp2_with fail
      refine T.mono ?_
      rintro e w5 ⟨rfl, n5, rfl⟩
      go_wp2_with fail
      refine (rwrong_at _ _ s j p (HR.out.drewN n5) HJ.out).mono ?_
      rintro e w9 ⟨rfl, hr9, hc8⟩
      have hb9 := (hb4.drewN n5).chg hc8 (hne _ (by omega))
      have hf9 := (hf4.drewN n5).chg hc8 (hne _ (by omega))
      have hc9 : Chg No w w9 := (hc4.drewN n5).then_ hc8 fun k hk e => by unfold One at e; omega
      have e1 : ((22 : Int) != 0) = true := rfl
      clear HR hb4 hf4 hc4 hbz hsl4 T hc8
      obtain ⟨y0, y1, y2, y3⟩ := hr9.cells
      have z0 := hb9.cell 0
      have f0 := hb9.frozen 0
      have z1 := hb9.cell 1
      have f1 := hb9.frozen 1
      have z2 := hb9.cell 2
      have f2 := hb9.frozen 2
      have z3 := hb9.cell 3
      have f3 := hb9.frozen 3
      have z4 := hb9.cell 4
      have f4 := hb9.frozen 4
      have z5 := hb9.cell 5
      have f5 := hb9.frozen 5
      have v0 := hf9.cell 0
      have g0 := hf9.frozen 0
      have v1 := hf9.cell 1
      have g1 := hf9.frozen 1
      have v2 := hf9.cell 2
      have g2 := hf9.frozen 2
      simp only [List.getElem?_toArray, List.getElem?_cons_zero, List.getElem?_cons_succ] at z0 z1 z2 z3 z4 z5 v0 v1 v2
      go_wp2
      go_region
      all_goals
        go_wp2
        refine bodyPost_ret (res_xf (g := w.heap.size) (h := w.heap.size + 1) (k := 0) (f := 0) (t := 0) (a' := 0) (b := 0) (A := none) (n := 0) (c := 0) (u := 22) (v := (j : Nat)) (m := ⟨#[]⟩) rfl rfl rfl ?_ ?_) rfl (RParsePost.of HP.out rfl (Sl.nil _ _) ?_)
        · unfold Blk at hb9 ⊢
          simp [World.setCell, World.drew, Array.getElem?_modify, hb9]
        · unfold Blk at hf9 ⊢
          simp [World.setCell, World.drew, Array.getElem?_modify, hf9]
        · repeat' (first | with_reducible exact hc9 | with_reducible refine Chg.drew ?_ | with_reducible refine Chg.setCell ?_ _ ?_ | exact fun e => by dsimp only at e; omega)
end Go.Proofs.YticipgjbgcdccaaDoor
