/- Package graftref2: right: contract.
   Package graftref2: positions, empty: contracts.
   Package graftref2: empty: contract.
   Package graftref2: Guard: contract.
   Package graftref2: Check, Positions, Empty; package graftlaw2: Flat: contracts.
   Package graftlaw2: deep copies with a mark in each list's spare room: twin: contract.
   Package graftlaw2: kept, TwinExpr, KeptExpr: contracts. -/
import Derived.Test.YticipgjbgcdccaaDoorZ5
import Derived.Test.YticipgjbgcdccaaDoorZ1
set_option linter.unusedSimpArgs false
set_option linter.unusedVariables false
namespace Go.Proofs.YticipgjbgcdccaaDoor
open Go.RowKit

theorem rightP_one {f t a b : Int} {l : List Ex} : rightP (.mk 1 f t a b l) = (((l.length : Int) == 0) && (a == 0) && (b == 0) && decide (0 ≤ f) && decide (f ≤ t) && decide (t ≤ 255)) := by
  rw [Bool.eq_iff_iff]
  unfold rightP
  rw [rightsP_all]
  cases l with
  | nil => simp [headOk]; omega
  | cons x l => simp [headOk]; omega
theorem rightP_of_head {k f t a b : Int} {l : List Ex} (h : headOk k f t a b l.length = false) : rightP (.mk k f t a b l) = false := by unfold rightP; rw [h]; rfl
theorem rightP_all {k f t a b : Int} {l : List Ex} (h : headOk k f t a b l.length = true) : rightP (.mk k f t a b l) = l.all rightP := by unfold rightP; rw [h, rightsP_all]; rfl

/-- the loop over the parts: what is done, what comes -/
theorem allR_step (l : List Ex) (i : Nat) (hi : i < l.length) (B : Bool) (h : (l.drop i).all rightP = B) : rightP l[i] = false ∧ B = false ∨ rightP l[i] = true ∧ (l.drop (i + 1)).all rightP = B := by
  rw [List.drop_eq_getElem_cons hi, List.all_cons] at h
  cases q : rightP l[i]
  · rw [q] at h; exact .inl ⟨rfl, h.symm⟩
  · rw [q, Bool.true_and] at h; exact .inr ⟨rfl, h⟩

set_option maxHeartbeats 4000000 in
set_option maxRecDepth 100000 in
theorem rright_any : ∀ (N : Nat) (k f t a b : Int) (A : Option Addr) (n c : Nat) (l : List Ex) (S : Nat → Prop) (w : World), SizeOf.sizeOf (Ex.mk k f t a b l) < N → Sl w S A n c l →
    Calls Tryd.prog 77 #[.agg #[.int .i64 k, .int .i64 f, .int .i64 t, .int .i64 a, .int .i64 b, .slice A n c]] w
      fun e w' => e = .returned (.bool (rightP (.mk k f t a b l))) ∧ Chg No w w' := by
  intro N
  induction N with
  | zero => intro _ _ _ _ _ _ _ _ _ _ _ h; omega
  | succ N ih =>
    intro k f t a b A n c l S w hN hl
    have IH := Lib.hid ih; clear ih
    have hkid : ∀ x ∈ l, SizeOf.sizeOf x < N := fun x hx => by have := Ex.lt_of_mem hx k f t a b; omega
    obtain ⟨rfl, hc1, hc2⟩ : n = l.length ∧ l.length ≤ c ∧ c ≤ 9223372036854775807 := ⟨hl.1, by have := hl.2.1; have := hl.1; omega, hl.2.2.1⟩
    have hb := Blk.new w 25 #[.int .i64 k, .int .i64 f, .int .i64 t, .int .i64 a, .int .i64 b, .slice A l.length c]
    have hc0 : Chg No w (w.alloc (.cells #[.int .i64 k, .int .i64 f, .int .i64 t, .int .i64 a, .int .i64 b, .slice A l.length c] 25)) := (Chg.refl _ _).alloc _
    have y0 := hb.cell 0
    have y1 := hb.cell 1
    have y2 := hb.cell 2
    have y3 := hb.cell 3
    have y4 := hb.cell 4
    have y5 := hb.cell 5
    simp only [List.getElem?_toArray, List.getElem?_cons_zero, List.getElem?_cons_succ] at y0 y1 y2 y3 y4 y5
    by_cases k1 : k = 1
    · subst k1
      have hF := @rightP_one f t a b l
      obtain ⟨e8, h8⟩ : ∃ e : Bool, ((l.length : Int) == 0) = e := ⟨_, rfl⟩
      obtain ⟨e6, h6⟩ : ∃ e : Bool, (a == 0) = e := ⟨_, rfl⟩
      obtain ⟨e7, h7⟩ : ∃ e : Bool, (b == 0) = e := ⟨_, rfl⟩
      obtain ⟨e9, h9⟩ : ∃ e : Bool, decide (0 ≤ f) = e := ⟨_, rfl⟩
      obtain ⟨e10, h10⟩ : ∃ e : Bool, decide (f ≤ t) = e := ⟨_, rfl⟩
      obtain ⟨e11, h11⟩ : ∃ e : Bool, decide (t ≤ 255) = e := ⟨_, rfl⟩
      rw [h8, h6, h7, h9, h10, h11] at hF
      have HF := Lib.hid hF
      clear hF
      go_enter Tryd.func77, Tryd.ntmps77
      go_wp2
      all_goals
        go_ret
        refine ⟨?_, hc0⟩
        rw [HF.out]
        simp [*]
    by_cases hH : headOk k f t a b l.length = true
    · have hF := rightP_all hH
      rw [hF]
      obtain ⟨B, hB⟩ : ∃ B, l.all rightP = B := ⟨_, rfl⟩
      rw [hB]
      have hS0 : (l.drop 0).all rightP = B := by simpa using hB
      have HB := Lib.hid hS0
      clear hF hB hS0
      have hcase : (k = 2 ∧ f = 0 ∧ t = 0 ∧ a = 0 ∧ b = 0 ∧ ((l.length : Int) == 1) = false) ∨ (k = 3 ∧ f = 0 ∧ t = 0 ∧ a = 0 ∧ b = 0 ∧ ((l.length : Int) == 1) = false ∧ ((l.length : Int) == 0) = false) ∨
          (k = 4 ∧ f = 0 ∧ t = 0 ∧ ((l.length : Int) != 1) = false ∧ decide (a < 0) = false ∧ decide (1000 < a) = false ∧ ((b != -1) = false ∨ (b != -1) = true ∧ decide (b < a) = false ∧ decide (1000 < b) = false)) := by
        have e1 : k ≠ 1 := k1
        unfold headOk at hH
        rw [if_neg e1] at hH
        split at hH
        · exact .inl ⟨‹_›, by simp at hH; exact ⟨by omega, by omega, by omega, by omega, by rw [beq_eq_false_iff_ne]; omega⟩⟩
        · split at hH
          · exact .inr (.inl ⟨‹_›, by simp at hH; exact ⟨by omega, by omega, by omega, by omega, by rw [beq_eq_false_iff_ne]; omega, by rw [beq_eq_false_iff_ne]; omega⟩⟩)
          · split at hH
            · exact .inr (.inr ⟨‹_›, by simp at hH; simp; omega⟩)
            · cases hH
      clear hH
      rcases hcase with ⟨rfl, rfl, rfl, rfl, rfl, q1⟩ | ⟨rfl, rfl, rfl, rfl, rfl, q1, q2⟩ | ⟨rfl, rfl, rfl, q1, q2, q3, q4 | ⟨q4, q5, q6⟩⟩
      all_goals
        go_enter Tryd.func77, Tryd.ntmps77
        go_wp2_with fail
        go_loopw [4] (fun v4 wr => ∃ i : Nat, i ≤ l.length ∧ v4 = .int .i64 (i : Int) ∧ Hid ((l.drop i).all rightP = B) ∧ Chg No w wr ∧ wr.cell? ⟨w.heap.size, 5, none⟩ = some (.slice A l.length c)) (fun v _ => l.length - (intOf v).toNat)
        case atStart => exact ⟨0, Nat.zero_le _, rfl, HB, hc0, y5⟩
        case round =>
          obtain ⟨i, hi, rfl, HW, hc, z5⟩ := hrel
          have hkeep : ∀ w2, Chg No wr w2 → w2.cell? ⟨w.heap.size, 5, none⟩ = some (.slice A l.length c) := fun w2 h => (h.below.cell (World.block_lt_of_cell? _ _ z5)).trans z5
          by_cases hlt : i < l.length
          · obtain ⟨g, o, A', c', rfl, hS, x0, x1, x2, x3, x4, x5, hx⟩ := (hl.chgNo hc).at_ i hlt
            have hy := fun w1 (h : Sl w1 S A' l[i].l.length c' l[i].l) => IH.out l[i].k l[i].f l[i].t l[i].a l[i].b A' l[i].l.length c' l[i].l S w1 (by rw [Ex.eta]; exact hkid _ (List.getElem_mem hlt)) h
            rw [Ex.eta] at hy
            have hst := allR_step l i hlt B HW.out
            obtain ⟨E, hE⟩ : ∃ E, rightP l[i] = E := ⟨_, rfl⟩
            rw [hE] at hy hst
            have HST := Lib.hid hst
            clear hst hE
            cases E
            · go_wp2_with (go_at_call 77; refine (hy _ hx).mono ?_; rintro e w1 ⟨rfl, hc1⟩)
              go_ret
              obtain ⟨_, hBf⟩ | ⟨hBt, _⟩ := HST.out
              · exact ⟨by rw [hBf]; rfl, hc.trans hc1⟩
              · cases hBt
            · go_wp2_with (go_at_call 77; refine (hy _ hx).mono ?_; rintro e w1 ⟨rfl, hc1⟩)
              obtain ⟨hBf, _⟩ | ⟨_, hBt⟩ := HST.out
              · cases hBf
              · exact ⟨⟨i + 1, by omega, by go_num, Lib.hid hBt, hc.trans hc1, hkeep _ hc1⟩, by simp [intOf]; omega⟩
          · obtain rfl : i = l.length := by omega
            go_wp2
            go_ret
            have := HW.out
            rw [List.drop_length] at this
            exact ⟨by rw [← this]; rfl, hc⟩
    · have hH' : headOk k f t a b l.length = false := by simpa using hH
      rw [rightP_of_head hH']
      obtain ⟨e1, h1⟩ : ∃ e : Bool, (f != 0) = e := ⟨_, rfl⟩
      obtain ⟨e2, h2⟩ : ∃ e : Bool, (t != 0) = e := ⟨_, rfl⟩
      obtain ⟨e3, h3⟩ : ∃ e : Bool, (a != 0) = e := ⟨_, rfl⟩
      obtain ⟨e4, h4⟩ : ∃ e : Bool, (b != 0) = e := ⟨_, rfl⟩
      obtain ⟨e5, h5⟩ : ∃ e : Bool, ((l.length : Int) == 1) = e := ⟨_, rfl⟩
      obtain ⟨e6, h6⟩ : ∃ e : Bool, ((l.length : Int) == 0) = e := ⟨_, rfl⟩
      by_cases k2 : k = 2
      · subst k2
        have HH : Hid ((e1 || e2 || e3 || e4 || e5) = true) := Lib.hid (by
          subst h1 h2 h3 h4 h5
          unfold headOk at hH'
          rw [if_neg (by omega), if_pos rfl] at hH'
          simp at hH' ⊢
          omega)
        clear hH hH'
        go_enter Tryd.func77, Tryd.ntmps77
        go_wp2_with fail
        all_goals first
          | (go_ret; exact ⟨rfl, hc0⟩)
          | (exfalso; have := HH.out; simp_all)
      by_cases k3 : k = 3
      · subst k3
        have HH : Hid ((e1 || e2 || e3 || e4 || e5 || e6) = true) := Lib.hid (by
          subst h1 h2 h3 h4 h5 h6
          unfold headOk at hH'
          rw [if_neg (by omega), if_neg (by omega), if_pos rfl] at hH'
          have hn0 : (0 : Int) ≤ (l.length : Int) := by omega
          revert hH' hn0
          generalize (l.length : Int) = m
          intro hH' hn0
          simp at hH' ⊢
          omega)
        clear hH hH'
        go_enter Tryd.func77, Tryd.ntmps77
        go_wp2_with fail
        all_goals first
          | (go_ret; exact ⟨rfl, hc0⟩)
          | (exfalso; have := HH.out; simp_all)
      by_cases k4 : k = 4
      · subst k4
        obtain ⟨e7, h7⟩ : ∃ e : Bool, ((l.length : Int) != 1) = e := ⟨_, rfl⟩
        obtain ⟨e8, h8⟩ : ∃ e : Bool, decide (a < 0) = e := ⟨_, rfl⟩
        obtain ⟨e9, h9⟩ : ∃ e : Bool, decide (1000 < a) = e := ⟨_, rfl⟩
        obtain ⟨e10, h10⟩ : ∃ e : Bool, (b != -1) = e := ⟨_, rfl⟩
        obtain ⟨e11, h11⟩ : ∃ e : Bool, decide (b < a) = e := ⟨_, rfl⟩
        obtain ⟨e12, h12⟩ : ∃ e : Bool, decide (1000 < b) = e := ⟨_, rfl⟩
        have HH : Hid ((e1 || e2 || e7 || e8 || e9 || (e10 && (e11 || e12))) = true) := Lib.hid (by
          subst h1 h2 h7 h8 h9 h10 h11 h12
          unfold headOk at hH'
          rw [if_neg (by omega), if_neg (by omega), if_neg (by omega), if_pos rfl] at hH'
          simp at hH' ⊢
          omega)
        clear hH hH'
        go_enter Tryd.func77, Tryd.ntmps77
        go_wp2_with fail
        all_goals first
          | (go_ret; exact ⟨rfl, hc0⟩)
          | (exfalso; have := HH.out; simp_all)
      clear hH hH' h1 h2 h3 h4 h5 h6
      have e1 : (k == 1) = false := by simpa using k1
      have e2 : (k == 2) = false := by simpa using k2
      have e3 : (k == 3) = false := by simpa using k3
      have e4 : (k == 4) = false := by simpa using k4
      clear k1 k2 k3 k4
      go_enter Tryd.func77, Tryd.ntmps77
      go_wp2
      go_ret
      exact ⟨rfl, hc0⟩
end Go.Proofs.YticipgjbgcdccaaDoor
namespace Go.Proofs.YticipgjbgcdccaaDoor
open Go.RowKit

/-- the sum, counted no further than 4097 -/
theorem min_step (s p : Int) (hs : 0 ≤ s) (hp : 0 ≤ p) : (if 4096 < min s 4097 + p then (4097 : Int) else min s 4097 + p) = min (s + p) 4097 := by
  split <;> omega
theorem min_mul (s c : Int) (hs : 0 ≤ s) (hc : 0 ≤ c) : min (min s 4097 * c) 4097 = min (s * c) 4097 := by
  by_cases h : s ≤ 4097
  · rw [show min s 4097 = s by omega]
  · rw [show min s 4097 = 4097 by omega]
    by_cases h0 : c = 0
    · subst h0; simp
    · have h1 : 4097 * 1 ≤ 4097 * c := Int.mul_le_mul_of_nonneg_left (by omega) (by omega)
      have h2 : 4097 * c ≤ s * c := Int.mul_le_mul_of_nonneg_right (by omega) hc
      omega

set_option maxHeartbeats 4000000 in
set_option maxRecDepth 100000 in
theorem rpositions_any : ∀ (N : Nat) (x : Ex) (A : Option Addr) (n c : Nat) (S : Nat → Prop) (w : World), SizeOf.sizeOf x < N → rightP x = true → Sl w S A n c x.l →
    Calls Tryd.prog 64 #[.agg #[.int .i64 x.k, .int .i64 x.f, .int .i64 x.t, .int .i64 x.a, .int .i64 x.b, .slice A n c]] w
      fun e w' => e = .returned (.int .i64 (positionsP x)) ∧ Chg No w w' := by
  intro N
  induction N with
  | zero => intro _ _ _ _ _ _ h; omega
  | succ N ih =>
    intro x A n c S w hN hR hl
    have IH := Lib.hid ih; clear ih
    obtain ⟨k, f, t, a, b, l⟩ := x
    simp only [Ex.k, Ex.f, Ex.t, Ex.a, Ex.b, Ex.l] at hl ⊢
    obtain ⟨rfl, hc1, hc2⟩ : n = l.length ∧ l.length ≤ c ∧ c ≤ 9223372036854775807 := ⟨hl.1, by have := hl.2.1; have := hl.1; omega, hl.2.2.1⟩
    obtain ⟨hh, hr⟩ := rightP_head hR
    have hb := Blk.new w 25 #[.int .i64 k, .int .i64 f, .int .i64 t, .int .i64 a, .int .i64 b, .slice A l.length c]
    have hc0 : Chg No w (w.alloc (.cells #[.int .i64 k, .int .i64 f, .int .i64 t, .int .i64 a, .int .i64 b, .slice A l.length c] 25)) := (Chg.refl _ _).alloc _
    have y5 := hb.cell 5
    simp only [List.getElem?_toArray, List.getElem?_cons_zero, List.getElem?_cons_succ] at y5
    have hkid : ∀ x ∈ l, SizeOf.sizeOf x < N := fun x hx => by have := Ex.lt_of_mem hx k f t a b; omega
    have HR := Lib.hid hr
    have hpl := positionsS_le l hr
    have hF : positionsP (.mk k f t a b l) = if k = 1 then 1 else min (if k = 4 then positionsS l * copiesP a b else positionsS l) 4097 := by conv => lhs; unfold positionsP
    have hk4 : k = 4 → 0 ≤ a ∧ a ≤ 1000 ∧ (b = -1 ∨ a ≤ b ∧ b ≤ 1000) := fun e => by subst e; simp [headOk] at hh; omega
    have HK4 := Lib.hid hk4
    have HF := Lib.hid hF
    clear hF hh hr hk4 hR
    go_enter Tryd.func64, Tryd.ntmps64
    go_wp2_with fail
    go_loopw [3, 4] (fun v3 v4 wr => ∃ i : Nat, i ≤ l.length ∧ v4 = .int .i64 (i : Int) ∧ v3 = .int .i64 (min (positionsS (l.take i)) 4097) ∧ Chg No w wr ∧ Blk wr w.heap.size 25 #[.int .i64 k, .int .i64 f, .int .i64 t, .int .i64 a, .int .i64 b, .slice A l.length c]) (fun _ v _ => l.length - (intOf v).toNat)
    case atStart => exact ⟨0, Nat.zero_le _, rfl, by rw [List.take_zero]; rfl, hc0, hb⟩
    case round =>
      obtain ⟨i, hi, rfl, rfl, hc, hbr⟩ := hrel
      have z5 := hbr.cell 5
      simp only [List.getElem?_toArray, List.getElem?_cons_zero, List.getElem?_cons_succ] at z5
      have hq0 : 0 ≤ positionsS (l.take i) := (positionsS_le (l.take i) fun y hy => HR.out y (List.mem_of_mem_take hy)).1
      by_cases hlt : i < l.length
      · obtain ⟨g, o, A', c', rfl, hS, x0, x1, x2, x3, x4, x5, hx⟩ := (hl.chgNo hc).at_ i hlt
        have hy := IH.out l[i] A' l[i].l.length c' S wr (hkid _ (List.getElem_mem hlt)) (HR.out _ (List.getElem_mem hlt)) hx
        have hple := positionsP_le l[i] (HR.out _ (List.getElem_mem hlt))
        have htk := positionsS_take l i hlt
        have hms := min_step _ _ hq0 hple.1
        rw [← htk] at hms
        obtain ⟨P, hP⟩ : ∃ P, positionsP l[i] = P := ⟨_, rfl⟩
        obtain ⟨Q, hQ⟩ : ∃ Q, min (positionsS (l.take i)) 4097 = Q := ⟨_, rfl⟩
        rw [hP] at hy hple hms
        rw [hQ] at hms ⊢
        have hQ1 : 0 ≤ Q ∧ Q ≤ 4097 := by omega
        obtain ⟨hQ1, hQ2⟩ := hQ1
        obtain ⟨hP1, hP2⟩ := hple
        have HMS := Lib.hid hms
        clear hms hP hQ htk hq0
        by_cases hbig : 4096 < Q + P
        · go_wp2_with (go_at_call 64; refine hy.mono ?_; rintro e w1 ⟨rfl, hc1⟩)
          have := HMS.out
          rw [if_pos hbig] at this
          exact ⟨⟨i + 1, by omega, by go_num, by rw [← this], hc.trans hc1, hbr.chg hc1 id⟩, by simp [intOf]; omega⟩
        · go_wp2_with (go_at_call 64; refine hy.mono ?_; rintro e w1 ⟨rfl, hc1⟩)
          have := HMS.out
          rw [if_neg (by omega)] at this
          exact ⟨⟨i + 1, by omega, by go_num, by rw [← this], hc.trans hc1, hbr.chg hc1 id⟩, by simp [intOf]; omega⟩
      · obtain rfl : i = l.length := by omega
        rw [List.take_length] at hq0 ⊢
        have z0 := hbr.cell 0
        have z3 := hbr.cell 3
        have z4 := hbr.cell 4
        simp only [List.getElem?_toArray, List.getElem?_cons_zero, List.getElem?_cons_succ] at z0 z3 z4
        by_cases k1 : k = 1
        · have HG : Hid (positionsP (.mk k f t a b l) = 1) := Lib.hid (by rw [HF.out, if_pos k1])
          subst k1
          clear hpl hq0
          go_wp2
          go_ret
          exact ⟨by rw [HG.out]; rfl, hc⟩
        have e1 : (k == 1) = false := by simpa using k1
        have HG : Hid (positionsP (.mk k f t a b l) = min (if k = 4 then positionsS l * copiesP a b else positionsS l) 4097) := Lib.hid (by rw [HF.out, if_neg k1])
        clear k1 HF
        obtain ⟨Z, hZ⟩ : ∃ Z, positionsS l = Z := ⟨_, rfl⟩
        rw [hZ] at HG hpl ⊢
        obtain ⟨Q, hQ⟩ : ∃ Q, min Z 4097 = Q := ⟨_, rfl⟩
        rw [hQ]
        have hQ1 : 0 ≤ Q := by omega
        have hQ2 : Q ≤ 4097 := by omega
        by_cases k4 : k = 4
        · subst k4
          have hk := HK4.out rfl
          have hmm := fun c h => min_mul Z c hpl.1 h
          rw [hQ] at hmm
          have HQ := Lib.hid hQ
          clear hpl hq0 hQ hZ
          have ha0 := hk.1
          have ha1 := hk.2.1
          by_cases b0 : 0 ≤ b
          · have hb1 : b ≤ 1000 := by omega
            have hcp : copiesP a b = b := by unfold copiesP; rw [if_neg (by omega)]
            have hm := hmm b b0
            have HG2 : Hid (positionsP (.mk 4 f t a b l) = min (Q * b) 4097) := Lib.hid (by rw [HG.out, if_pos rfl, hcp, hm])
            have m1 : 0 ≤ Q * b := Int.mul_nonneg hQ1 b0
            have m2 : Q * b ≤ 4097 * 1000 := Int.mul_le_mul hQ2 hb1 b0 (by omega)
            clear hm hmm hcp HG hk HK4
            obtain ⟨M, hM⟩ : ∃ M, Q * b = M := ⟨_, rfl⟩
            rw [hM] at HG2 m1 m2
            by_cases hbig : 4096 < M
            · have HG3 : Hid (positionsP (.mk 4 f t a b l) = 4097) := Lib.hid (by rw [HG2.out]; omega)
              go_wp2
              go_ret
              exact ⟨by rw [HG3.out]; rfl, hc⟩
            · have HG3 : Hid (positionsP (.mk 4 f t a b l) = M) := Lib.hid (by rw [HG2.out]; omega)
              go_wp2
              go_ret
              exact ⟨by rw [HG3.out]; rfl, hc⟩
          · have hbm : b = -1 := by omega
            subst hbm
            by_cases a1 : 1 < a
            · have hcp : copiesP a (-1) = a := by unfold copiesP; rw [if_pos (by omega)]; omega
              have hm := hmm a ha0
              have HG2 : Hid (positionsP (.mk 4 f t a (-1) l) = min (Q * a) 4097) := Lib.hid (by rw [HG.out, if_pos rfl, hcp, hm])
              have m1 : 0 ≤ Q * a := Int.mul_nonneg hQ1 ha0
              have m2 : Q * a ≤ 4097 * 1000 := Int.mul_le_mul hQ2 ha1 ha0 (by omega)
              clear hm hmm hcp HG hk HK4
              obtain ⟨M, hM⟩ : ∃ M, Q * a = M := ⟨_, rfl⟩
              rw [hM] at HG2 m1 m2
              by_cases hbig : 4096 < M
              · have HG3 : Hid (positionsP (.mk 4 f t a (-1) l) = 4097) := Lib.hid (by rw [HG2.out]; omega)
                go_wp2
                go_ret
                exact ⟨by rw [HG3.out]; rfl, hc⟩
              · have HG3 : Hid (positionsP (.mk 4 f t a (-1) l) = M) := Lib.hid (by rw [HG2.out]; omega)
                go_wp2
                go_ret
                exact ⟨by rw [HG3.out]; rfl, hc⟩
            · have hcp : copiesP a (-1) = 1 := by unfold copiesP; rw [if_pos (by omega)]; omega
              have HG2 : Hid (positionsP (.mk 4 f t a (-1) l) = Q) := Lib.hid (by rw [HG.out, if_pos rfl, hcp, Int.mul_one, HQ.out])
              clear hmm hcp HG hk HK4
              by_cases hbig : 4096 < Q
              · have HG3 : Hid (positionsP (.mk 4 f t a (-1) l) = 4097) := Lib.hid (by rw [HG2.out]; omega)
                go_wp2
                go_ret
                exact ⟨by rw [HG3.out]; rfl, hc⟩
              · go_wp2
                go_ret
                exact ⟨by rw [HG2.out]; rfl, hc⟩
        · have e4 : (k == 4) = false := by simpa using k4
          have HG2 : Hid (positionsP (.mk k f t a b l) = Q) := Lib.hid (by rw [HG.out, if_neg k4, hQ])
          clear k4 HG hpl hq0 HK4 hQ hZ
          by_cases hbig : 4096 < Q
          · have HG3 : Hid (positionsP (.mk k f t a b l) = 4097) := Lib.hid (by rw [HG2.out]; omega)
            go_wp2
            go_ret
            exact ⟨by rw [HG3.out]; rfl, hc⟩
          · go_wp2
            go_ret
            exact ⟨by rw [HG2.out]; rfl, hc⟩
end Go.Proofs.YticipgjbgcdccaaDoor
namespace Go.Proofs.YticipgjbgcdccaaDoor
open Go.RowKit

set_option maxHeartbeats 2000000 in
set_option maxRecDepth 100000 in
theorem rempty_any : ∀ (N : Nat) (x : Ex) (A : Option Addr) (n c : Nat) (S : Nat → Prop) (w : World), SizeOf.sizeOf x < N → rightP x = true → Sl w S A n c x.l →
    Calls Tryd.prog 66 #[.agg #[.int .i64 x.k, .int .i64 x.f, .int .i64 x.t, .int .i64 x.a, .int .i64 x.b, .slice A n c]] w
      fun e w' => e = .returned (.bool (emptyP x)) ∧ Chg No w w' := by
  intro N
  induction N with
  | zero => intro _ _ _ _ _ _ h; omega
  | succ N ih =>
    intro x A n c S w hN hR hl
    have IH := Lib.hid ih; clear ih
    obtain ⟨k, f, t, a, b, l⟩ := x
    simp only [Ex.k, Ex.f, Ex.t, Ex.a, Ex.b, Ex.l] at hl ⊢
    obtain ⟨rfl, hc1, hc2⟩ : n = l.length ∧ l.length ≤ c ∧ c ≤ 9223372036854775807 := ⟨hl.1, by have := hl.2.1; have := hl.1; omega, hl.2.2.1⟩
    obtain ⟨hh, hr⟩ := rightP_head hR
    have hkid : ∀ x ∈ l, SizeOf.sizeOf x < N := fun x hx => by have := Ex.lt_of_mem hx k f t a b; omega
    have hb := Blk.new w 25 #[.int .i64 k, .int .i64 f, .int .i64 t, .int .i64 a, .int .i64 b, .slice A l.length c]
    have hc0 : Chg No w (w.alloc (.cells #[.int .i64 k, .int .i64 f, .int .i64 t, .int .i64 a, .int .i64 b, .slice A l.length c] 25)) := (Chg.refl _ _).alloc _
    have y0 := hb.cell 0
    have y3 := hb.cell 3
    have y5 := hb.cell 5
    simp only [List.getElem?_toArray, List.getElem?_cons_zero, List.getElem?_cons_succ] at y0 y3 y5
    by_cases k1 : k = 1
    · have HF : Hid (emptyP (.mk k f t a b l) = false) := Lib.hid (by unfold emptyP; rw [if_pos k1])
      subst k1
      clear hh
      go_enter Tryd.func66, Tryd.ntmps66
      go_wp2
      go_ret
      exact ⟨by rw [HF.out]; rfl, hc0⟩
    have e1 : (k == 1) = false := by simpa using k1
    by_cases k4 : k = 4
    · subst k4
      have hab : l.length = 1 := by simp [headOk] at hh; omega
      obtain ⟨y, rfl⟩ : ∃ y, l = [y] := List.length_eq_one_iff.1 hab
      have hF : emptyP (.mk 4 f t a b [y]) = (a == 0 || emptyP y) := by
        conv => lhs; unfold emptyP
        rw [if_neg (by omega), if_pos rfl, emptiesP_eq]; rfl
      have hy := fun (w1 : World) (A' : Option Addr) (n' c' : Nat) (h : Sl w1 S A' n' c' y.l) => IH.out y A' n' c' S w1 (hkid y (by simp)) (hr y (by simp)) h
      obtain ⟨k0, h0⟩ : ∃ q : Bool, (a == 0) = q := ⟨_, rfl⟩
      obtain ⟨E, hE⟩ : ∃ E, emptyP y = E := ⟨_, rfl⟩
      rw [h0, hE] at hF
      rw [hE] at hy
      have HF := Lib.hid hF
      clear hF hE hh hr
      simp only [List.length_cons, List.length_nil, Nat.zero_add] at hl hb hc0 y0 y3 y5
      obtain ⟨g, o, A', c', rfl, hS, x0, x1, x2, x3, x4, x5, hx⟩ := (hl.chgNo hc0).at_ 0 (by simp)
      simp only [List.getElem_cons_zero, Nat.zero_mul, Nat.add_zero] at x0 x1 x2 x3 x4 x5 hx
      have hc := hy _ A' _ c' hx
      go_enter Tryd.func66, Tryd.ntmps66
      cases k0
      all_goals
        go_wp2_with (go_at_call 66; refine hc.mono ?_; rintro e w2 ⟨rfl, hu⟩)
        go_ret
        refine ⟨by rw [HF.out]; rfl, ?_⟩
        first | exact hc0.trans hu | exact hc0
    have e4 : (k == 4) = false := by simpa using k4
    have hF : emptyP (.mk k f t a b l) = loopE k (emptiesP l) := by
      conv => lhs; unfold emptyP
      rw [if_neg k1, if_neg k4]
    have HF := Lib.hid hF
    have HR := Lib.hid hr
    obtain ⟨q2, h2⟩ : ∃ q : Bool, (k == 2) = q := ⟨_, rfl⟩
    obtain ⟨q3, h3⟩ : ∃ q : Bool, (k == 3) = q := ⟨_, rfl⟩
    clear hF hh hr k1 k4
    go_enter Tryd.func66, Tryd.ntmps66
    go_wp2_with fail
    go_loopw [3] (fun v3 wr => ∃ i : Nat, i ≤ l.length ∧ v3 = .int .i64 (i : Int) ∧ loopE k (emptiesP l) = loopE k (emptiesP (l.drop i)) ∧ Chg No (w.alloc (.cells #[.int .i64 k, .int .i64 f, .int .i64 t, .int .i64 a, .int .i64 b, .slice A l.length c] 25)) wr) (fun v _ => l.length - (intOf v).toNat)
    case atStart => exact ⟨0, Nat.zero_le _, rfl, by simp, Chg.refl No _⟩
    case round =>
      obtain ⟨i, hi, rfl, hw, hc⟩ := hrel
      have z0 := (hb.chg hc id).cell 0
      have z5 := (hb.chg hc id).cell 5
      simp only [List.getElem?_toArray, List.getElem?_cons_zero, List.getElem?_cons_succ] at z0 z5
      by_cases hlt : i < l.length
      · obtain ⟨g, o, A', c', rfl, hS, x0, x1, x2, x3, x4, x5, hx⟩ := (hl.chgNo (hc0.trans hc)).at_ i hlt
        have hy := fun (w1 : World) (h : Sl w1 S A' l[i].l.length c' l[i].l) => IH.out l[i] A' _ c' S w1 (hkid _ (List.getElem_mem hlt)) (HR.out _ (List.getElem_mem hlt)) h
        have hst : loopE k (emptiesP (l.drop i)) = if (emptyP l[i] != q2) = true then q3 else loopE k (emptiesP (l.drop (i + 1))) := by
          rw [List.drop_eq_getElem_cons hlt, ← h2, ← h3]; rfl
        obtain ⟨E, hE⟩ : ∃ E, emptyP l[i] = E := ⟨_, rfl⟩
        rw [hE] at hy hst
        have HW := Lib.hid (hw.trans hst)
        clear hw hst hE
        have hkeep : ∀ w2, Chg No wr w2 → w2.cell? ⟨w.heap.size, 0, none⟩ = some (.int .i64 k) := fun w2 h => (h.below.cell (World.block_lt_of_cell? _ _ z0)).trans z0
        go_wp2_with fail
        go_region_law (go_simp; go_at_call 66; refine (hy _ (hx.chgNo ((Chg.refl No wr).drew))).mono ?_; rintro e w2 ⟨rfl, hu⟩; have HU := ((Chg.refl No wr).drew).trans hu; have u0 := hkeep _ HU)
        all_goals
          have hC := hc.trans HU
          cases E <;> cases q2
        all_goals
          go_wp2
          first
          | (go_ret; exact ⟨by rw [HF.out, HW.out]; rfl, hc0.trans hC⟩)
          | exact ⟨⟨i + 1, by omega, by go_num, HW.out, hC⟩, by simp [intOf]; omega⟩
      · obtain rfl : i = l.length := by omega
        have HW : Hid (loopE k (emptiesP l) = (k == 2)) := Lib.hid (by rw [hw, List.drop_length]; rfl)
        rw [h2] at HW
        clear hw
        go_wp2
        go_ret
        exact ⟨by rw [HF.out, HW.out]; rfl, hc0.trans hc⟩
end Go.Proofs.YticipgjbgcdccaaDoor
namespace Go.Proofs.YticipgjbgcdccaaDoor
open Go.RowKit

mutual
/-- how deep a pattern lies -/
def depthP : Ex → Nat
  | .mk _ _ _ _ _ l => 1 + depthsP l
def depthsP : List Ex → Nat
  | [] => 0
  | x :: xs => max (depthP x) (depthsP xs)
end
mutual
theorem walkedP_deep : ∀ (x : Ex) (d s : Nat), (walkedP x d s).1 ≤ 4096 → (walkedP x d s).2 + 1 = d + depthP x
  | .mk _ _ _ _ _ l, d, s, h => by
    unfold walkedP at h ⊢
    rw [walkedsP_deep l _ _ _ h (Nat.le_refl _)]; unfold depthP; omega
theorem walkedsP_deep : ∀ (l : List Ex) (d s m : Nat), (walkedsP l d s m).1 ≤ 4096 → d ≤ m → (walkedsP l d s m).2 = max m (d + depthsP l)
  | [], d, s, m, _, hm => by unfold walkedsP depthsP; simp only; omega
  | x :: xs, d, s, m, h, hm => by
    unfold walkedsP at h ⊢
    by_cases q : 4096 < s
    · rw [if_pos q] at h; simp only at h; omega
    · rw [if_neg q] at h ⊢
      have h2 := walkedsP_deep xs _ _ _ h (by omega)
      have h3 : (walkedP x (d + 1) s).1 ≤ 4096 := by have := walkedsP_nodes xs _ _ _ h; omega
      have h4 := walkedP_deep x _ _ h3
      have h5 : depthsP (x :: xs) = max (depthP x) (depthsP xs) := by conv => lhs; unfold depthsP
      rw [h2, h5]
      omega
end
mutual
/-- no list is longer than memory can hold -/
def lenOk : Ex → Prop
  | .mk _ _ _ _ _ l => l.length ≤ 140737488355328 ∧ lensOk l
def lensOk : List Ex → Prop
  | [] => True
  | x :: xs => lenOk x ∧ lensOk xs
end
theorem lensOk_iff : ∀ l : List Ex, lensOk l ↔ ∀ x ∈ l, lenOk x
  | [] => by simp [lensOk]
  | x :: xs => by unfold lensOk; rw [lensOk_iff xs]; simp
theorem lenOk.len {x : Ex} (h : lenOk x) : x.l.length ≤ 140737488355328 := by cases x; unfold lenOk at h; exact h.1
theorem lenOk.kids {x : Ex} (h : lenOk x) : ∀ y ∈ x.l, lenOk y := by cases x; unfold lenOk at h; exact (lensOk_iff _).1 h.2
mutual
theorem lenOk_nodes : ∀ x : Ex, nodesP x ≤ 4096 → lenOk x
  | .mk _ _ _ _ _ l, h => by
    unfold nodesP at h
    have := nodesS_len l
    unfold lenOk
    exact ⟨by omega, lensOk_nodes l (by omega)⟩
theorem lensOk_nodes : ∀ l : List Ex, nodesS l ≤ 4096 → lensOk l
  | [], _ => by unfold lensOk; trivial
  | x :: xs, h => by
    unfold nodesS at h
    unfold lensOk
    exact ⟨lenOk_nodes x (by omega), lensOk_nodes xs (by omega)⟩
end
mutual
theorem walkedP_up : ∀ (x : Ex) (d s : Nat), (walkedP x d s).1 ≤ s + nodesP x
  | .mk _ _ _ _ _ l, d, s => by
    unfold walkedP nodesP
    have := walkedsP_up l d (s + 1) d
    omega
theorem walkedsP_up : ∀ (l : List Ex) (d s m : Nat), (walkedsP l d s m).1 ≤ s + nodesS l
  | [], d, s, m => by simp [walkedsP, nodesS]
  | x :: xs, d, s, m => by
    unfold walkedsP nodesS
    split
    · simp only; omega
    · have h1 := walkedP_up x (d + 1) s
      have h2 := walkedsP_up xs d (walkedP x (d + 1) s).1 (max m (walkedP x (d + 1) s).2)
      omega
end
/-- what P6 refuses: 0: nothing -/
def guardP (x : Ex) : Int := if 4096 < nodesP x then 2 else if 64 < depthP x then 5 else 0
theorem checkP_guard (x : Ex) : checkP x = if guardP x ≠ 0 then guardP x else if rightP x = false then 20 else if 4096 < positionsP x then 21 else 0 := by
  have h1 := walkedP_nodes x 1 0
  have h2 := walkedP_deep x 1 0
  have h3 := walkedP_up x 1 0
  unfold checkP guardP
  by_cases q : 4096 < nodesP x
  · rw [if_pos q, if_pos (by omega)]; simp
  · rw [if_neg q, if_neg (by omega)]
    by_cases q2 : 64 < depthP x
    · rw [if_pos q2, if_pos (by omega)]; simp
    · rw [if_neg q2, if_neg (by omega)]; simp

theorem nodesS_append : ∀ (a b : List Ex), nodesS (a ++ b) = nodesS a + nodesS b
  | [], b => by simp [nodesS]
  | x :: a, b => by have := nodesS_append a b; simp only [List.cons_append, nodesS]; omega
theorem depthsP_append : ∀ (a b : List Ex), depthsP (a ++ b) = max (depthsP a) (depthsP b)
  | [], b => by simp [depthsP]
  | x :: a, b => by have := depthsP_append a b; simp only [List.cons_append, depthsP]; omega
theorem nodesS_level : ∀ l : List Ex, nodesS l = l.length + nodesS (l.flatMap Ex.l)
  | [] => by simp [nodesS]
  | x :: l => by
    have := nodesS_level l
    cases x with
    | mk k f t a b l' => simp only [List.flatMap_cons, nodesS_append, nodesS, nodesP, Ex.l, List.length_cons]; omega
theorem depthsP_level : ∀ l : List Ex, l ≠ [] → depthsP l = 1 + depthsP (l.flatMap Ex.l)
  | [], h => absurd rfl h
  | x :: l, _ => by
    cases x with
    | mk k f t a b l' =>
      simp only [List.flatMap_cons, depthsP_append, depthsP, depthP, Ex.l]
      by_cases e : l = []
      · subst e; simp [depthsP]
      · have := depthsP_level l e
        omega

/-- a row of patterns in a block from b1 on; their own lists lie below b0 -/
def OwnG (w : World) (b0 b1 : Nat) (v : Value) (l : List Ex) : Prop :=
  ∃ cs, w.ownsRow b1 25 6 v l.length cs ∧ RowOk w (fun k => k < b0) l cs
theorem LsAt.row {w : World} {S : Nat → Prop} {g : Nat} : ∀ (l : List Ex) (o : Nat), LsAt w S g o l → ∃ cs : List Value, RowOk w S l cs ∧ cs.length = l.length * 6 ∧ (∀ (j : Nat) u, cs[j]? = some u → w.cell? ⟨g, o + j, none⟩ = some u) ∧ ∀ u ∈ cs, u.oneCell' = true
  | [], o, _ => ⟨[], rfl, rfl, fun j u h => by simp at h, by simp⟩
  | x :: xs, o, h => by
    unfold LsAt at h
    obtain ⟨cs, h1, h2, h3, h4⟩ := LsAt.row xs (o + 6) h.2
    have hx := h.1
    cases x with
    | mk k f t a b l =>
      unfold ExAt at hx
      obtain ⟨c0, c1, c2, c3, c4, A, c, c5, c6, c7, c8⟩ := hx
      refine ⟨[.int .i64 k, .int .i64 f, .int .i64 t, .int .i64 a, .int .i64 b, .slice A l.length c] ++ cs, ⟨A, l.length, c, cs, rfl, ⟨rfl, c6, c7, c8⟩, h1⟩, by simp [h2]; omega, fun j u hj => ?_, fun u hu => ?_⟩
      · rcases j with _ | _ | _ | _ | _ | _ | j
        · simp at hj; subst hj; simpa using c0
        · simp at hj; subst hj; simpa using c1
        · simp at hj; subst hj; simpa using c2
        · simp at hj; subst hj; simpa using c3
        · simp at hj; subst hj; simpa using c4
        · simp at hj; subst hj; simpa using c5
        · have := h3 j u (by simpa using hj)
          rw [show o + (j + 6) = o + 6 + j by omega]; exact this
      · simp only [List.mem_append, List.mem_cons, List.not_mem_nil, or_false] at hu
        rcases hu with (rfl | rfl | rfl | rfl | rfl | rfl) | hu
        · rfl
        · rfl
        · rfl
        · rfl
        · rfl
        · rfl
        · exact h4 u hu
theorem RowOk.append {w : World} {S : Nat → Prop} : ∀ {l l2 : List Ex} {cs cs2 : List Value}, RowOk w S l cs → RowOk w S l2 cs2 → RowOk w S (l ++ l2) (cs ++ cs2)
  | [], l2, cs, cs2, h, h2 => by
    unfold RowOk at h
    subst h; simpa using h2
  | x :: xs, l2, cs, cs2, h, h2 => by
    unfold RowOk at h
    obtain ⟨A, n, c, rest, rfl, hx, hr⟩ := h
    exact ⟨A, n, c, rest ++ cs2, by rw [List.append_assoc], hx, RowOk.append hr h2⟩
theorem RowOk.get {w : World} {S : Nat → Prop} : ∀ {l : List Ex} {cs : List Value}, RowOk w S l cs → ∀ (i : Nat) (hi : i < l.length), ∃ A c, cs[i * 6 + 5]? = some (.slice A l[i].l.length c) ∧ Sl w S A l[i].l.length c l[i].l
  | x :: xs, cs, h, 0, _ => by
    unfold RowOk at h
    obtain ⟨A, n, c, rest, rfl, hx, hr⟩ := h
    have hn := hx.1
    subst hn
    exact ⟨A, c, rfl, hx⟩
  | x :: xs, cs, h, i + 1, hi => by
    unfold RowOk at h
    obtain ⟨A, n, c, rest, rfl, hx, hr⟩ := h
    obtain ⟨A', c', h1, h2⟩ := RowOk.get hr i (by simpa using hi)
    refine ⟨A', c', ?_, h2⟩
    rw [show (i + 1) * 6 + 5 = (i * 6 + 5) + 6 by omega]
    simpa using h1

namespace OwnG
variable {w w' : World} {b0 b1 : Nat} {v : Value} {l : List Ex}
theorem nil (w : World) (b0 b1 : Nat) : OwnG w b0 b1 (.slice none 0 0) [] := ⟨[], ⟨by simp, .inl ⟨rfl, rfl⟩⟩, rfl⟩
theorem at_ (h : OwnG w b0 b1 v l) (i : Nat) (hi : i < l.length) : ∃ g cap A' c', v = .slice (some ⟨g, 0, none⟩) l.length cap ∧ w.cell? ⟨g, i * 6 + 5, none⟩ = some (.slice A' l[i].l.length c') ∧ Sl w (fun k => k < b0) A' l[i].l.length c' l[i].l := by
  obtain ⟨cs, ⟨h1, h2⟩, h3⟩ := h
  rcases h2 with ⟨rfl, h0⟩ | ⟨g, cap, cur, rfl, hb, hh, h4, h5, h6, h7⟩
  · omega
  · obtain ⟨A, c, q1, q2⟩ := RowOk.get h3 i hi
    refine ⟨g, cap, A, c, rfl, ?_, q2⟩
    rw [cell_of_row w g _ cur _ _ hh]
    rw [← h7, List.getElem?_take] at q1
    split at q1
    · simpa using q1
    · cases q1
theorem form (h : OwnG w b0 b1 v l) : ∃ A c, v = .slice A l.length c := by
  obtain ⟨cs, ⟨h1, h2⟩, h3⟩ := h
  rcases h2 with ⟨rfl, h0⟩ | ⟨g, cap, cur, rfl, hb, hh, h4, h5, h6, h7⟩
  · rw [h0]; exact ⟨none, 0, rfl⟩
  · exact ⟨_, cap, rfl⟩
theorem lt (h : OwnG w b0 b1 v l) : ∀ k, v.ownBlock = some k → b1 ≤ k ∧ k < w.heap.size := by
  obtain ⟨cs, ⟨_, h⟩, _⟩ := h
  intro k hk
  rcases h with ⟨rfl, _⟩ | ⟨g, cap, cur, rfl, hb, hh, _⟩
  · simp [Value.ownBlock] at hk
  · have : g = k := by simpa [Value.ownBlock] using hk
    subst this
    exact ⟨hb, (Array.getElem?_eq_some_iff.1 hh).1⟩
theorem keep (h : OwnG w b0 b1 v l) (hb : b0 ≤ w.heap.size) (hw : ∀ k, k < w.heap.size → w'.heap[k]? = w.heap[k]?) (hz : w.heap.size ≤ w'.heap.size) : OwnG w' b0 b1 v l := by
  obtain ⟨cs, ⟨h1, h2⟩, h3⟩ := h
  refine ⟨cs, ⟨h1, ?_⟩, h3.keep (fun k hk hz => hw k hz) (fun k hk _ => hk) hz⟩
  rcases h2 with h2 | ⟨g, cap, cur, rfl, hb, hh, hr⟩
  · exact .inl h2
  · exact .inr ⟨g, cap, cur, rfl, hb, (hw g (Array.getElem?_eq_some_iff.1 hh).1).trans hh, hr⟩
theorem lower {b2 : Nat} (h : OwnG w b0 b1 v l) (hb : b2 ≤ b1) : OwnG w b0 b2 v l := by
  obtain ⟨cs, ⟨h1, h2⟩, h3⟩ := h
  refine ⟨cs, ⟨h1, ?_⟩, h3⟩
  rcases h2 with h2 | ⟨g, cap, cur, rfl, hb', hr⟩
  · exact .inl h2
  · exact .inr ⟨g, cap, cur, rfl, by omega, hr⟩
theorem one (w : World) {b0 b1 : Nat} (y : Ex) {A : Option Addr} {n c : Nat} (hb : b1 ≤ w.heap.size) (hy : Sl w (fun k => k < b0) A n c y.l) :
    OwnG (w.alloc (.cells #[.int .i64 y.k, .int .i64 y.f, .int .i64 y.t, .int .i64 y.a, .int .i64 y.b, .slice A n c] 25)) b0 b1 (.slice (some ⟨w.heap.size, 0, none⟩) 1 1) [y] := by
  refine ⟨_, ⟨rfl, .inr ⟨w.heap.size, 1, _, rfl, hb, heap_alloc_new w _, Nat.le_refl _, by simp [maxLen], rfl, rfl⟩⟩, A, n, c, [], rfl, ?_, rfl⟩
  exact hy.keep (fun k _ hz => Below.heap_alloc w _ k hz) (fun k hk hz => hk) (by simp)
end OwnG

/-- 'l = append(l, m...)' -/
theorem wpList_append_exG {w : World} {ops : Array Oper} {rest : List Oper} {o : Oper} {a : Act} {Q : Exit → Act → World → Prop} (hgd : o.guard = none) (s x : Operand)
    (ho : o.op = .call { callee := .builtin .append, args := #[s, x], argTypes := #[23, 23] })
    (b0 b1 : Nat) (v : Value) (l l2 : List Ex) (hs : a.eval s = v) (hown : OwnG w b0 b1 v l) (A : Option Addr) (m c : Nat) (hx : a.eval x = .slice A m c)
    (hy : Sl w (fun k => k < b0) A m c l2) (hlen : l.length + l2.length ≤ 1000000) (hb01 : b0 ≤ b1) (hb1 : b1 ≤ w.heap.size)
    (h : ∀ v' w', OwnG w' b0 b1 v' (l ++ l2) → Chg (fun k => b1 ≤ k) w w' → wpList Tryd.prog ops Q rest (a.put o.dst v') w') :
    wpList Tryd.prog ops Q (o :: rest) a w := by
  obtain ⟨i0, hi, hz0, hz1, hz2⟩ := info_parts info_ex
  have hlt := hown.lt
  have hown0 := hown
  obtain ⟨cs, h1, h2⟩ := hown
  obtain ⟨rfl, y1, y2, y3⟩ := hy
  by_cases hl2 : l2 = []
  · subst hl2
    cases A with
    | none =>
      refine wpList_plain hgd fun K hK => ?_
      have hr : ∀ ty, (Builtin.append_ #[23, 23] ty #[v, .slice none 0 c]).run Tryd.prog w = .ok v w := by
        intro ty
        rcases h1.2 with ⟨rfl, _⟩ | ⟨g, cap, cur, rfl, _, _, hnc, _⟩
        · simp [Builtin.append_, run_underlying Tryd.underlying23, sizeOf, typeInfo, hi, Builtin.lenOf, Builtin.firstCells]
        · simp [Builtin.append_, run_underlying Tryd.underlying23, sizeOf, typeInfo, hi, Builtin.lenOf, Builtin.firstCells, hnc, storeCells]
      unfold Oper.wp execOp
      have hx' : a.eval x = .slice none 0 c := hx
      simp only [ho, resolve, invoke, builtin, Sem.run_bind, Sem.run_pure, Result.andThen_ok, List.map_toArray, List.map_cons, List.map_nil, hs, hx', hr]
      exact hK _ _ (h v w (by simpa using hown0) (Chg.refl _ w))
    | some ad =>
      refine wpList_append_own_at _ hgd s x _ ho b1 25 i0 _ 6 64 Tryd.underlying23 hi hz0 hz1 hz2 rfl (by decide) v l.length cs hs h1 ad 0 c [] hx rfl (fun j u hu => by simp at hu) (by simp) (by unfold maxLen; omega) (by omega) hb1 ?_
      intro v' w' ho' hg _ hat
      have hc : Chg (fun k => b1 ≤ k) w w' := Chg.of_grown hg fun k hk _ => (hlt k hk).1
      refine h v' w' ⟨_, by simpa using ho', ?_⟩ hc
      simpa using h2.keep (w' := w') (S' := fun k => k < b0) (fun k hk hz => hc.block k hz (by omega)) (fun k hk hz => hk) hc.size
  · obtain ⟨g, o', rfl, hg0, hgz, hls⟩ := y3 hl2
    obtain ⟨news, n1, n2, n3, n4⟩ := LsAt.row l2 o' hls
    refine wpList_append_own_at _ hgd s x _ ho b1 25 i0 _ 6 64 Tryd.underlying23 hi hz0 hz1 hz2 rfl (by decide) v l.length cs hs h1 ⟨g, o', none⟩ l2.length c news hx n2 (fun j u hu => ?_) n4 (by unfold maxLen; omega) (by omega) hb1 ?_
    · have := n3 j u hu
      have e : (⟨g, o', none⟩ : Addr).add j = ⟨g, o' + j, none⟩ := by unfold Addr.add; split <;> simp_all
      rw [e]; exact this
    · intro v' w' ho' hg _ hat
      have hc : Chg (fun k => b1 ≤ k) w w' := Chg.of_grown hg fun k hk _ => (hlt k hk).1
      refine h v' w' ⟨_, by simpa using ho', ?_⟩ hc
      exact (RowOk.append h2 n1).keep (w' := w') (S' := fun k => k < b0) (fun k hk hz => hc.block k hz (by omega)) (fun k hk hz => hk) hc.size

set_option maxHeartbeats 4000000 in
set_option maxRecDepth 100000 in
theorem Guard_any (x : Ex) (A : Option Addr) (n c : Nat) (S : Nat → Prop) (w : World) (hl : Sl w S A n c x.l) (hsm : lenOk x) :
    Calls Tryd.prog 76 #[.agg #[.int .i64 x.k, .int .i64 x.f, .int .i64 x.t, .int .i64 x.a, .int .i64 x.b, .slice A n c]] w
      fun e w' => e = .returned (.int .i64 (guardP x)) ∧ Chg No w w' := by
  have hb := Blk.new w 25 #[.int .i64 x.k, .int .i64 x.f, .int .i64 x.t, .int .i64 x.a, .int .i64 x.b, .slice A n c]
  have hc0 : Chg No w (w.alloc (.cells #[.int .i64 x.k, .int .i64 x.f, .int .i64 x.t, .int .i64 x.a, .int .i64 x.b, .slice A n c] 25)) := (Chg.refl _ _).alloc _
  have hlS : Sl w (fun k => k < w.heap.size) A n c x.l := hl.keep (fun _ _ _ => rfl) (fun k _ hz => hz) (Nat.le_refl _)
  have hn0 : nodesP x = 1 + nodesS x.l := by cases x; simp [nodesP, Ex.l]
  have hd0 : depthP x = 1 + depthsP x.l := by cases x; simp [depthP, Ex.l]
  have hG : guardP x = if 4096 < nodesP x then 2 else if 64 < depthP x then 5 else 0 := rfl
  obtain ⟨Nn, hNn⟩ : ∃ N, nodesP x = N := ⟨_, rfl⟩
  obtain ⟨Dd, hDd⟩ : ∃ D, depthP x = D := ⟨_, rfl⟩
  rw [hNn] at hn0 hG
  rw [hDd] at hd0 hG
  have h1 : OwnG ((w.alloc (.cells #[.int .i64 x.k, .int .i64 x.f, .int .i64 x.t, .int .i64 x.a, .int .i64 x.b, .slice A n c] 25)).alloc (.cells #[.int .i64 x.k, .int .i64 x.f, .int .i64 x.t, .int .i64 x.a, .int .i64 x.b, .slice A n c] 25)) w.heap.size w.heap.size (.slice (some ⟨w.heap.size + 1, 0, none⟩) 1 1) [x] := by
    have := OwnG.one (w.alloc (.cells #[.int .i64 x.k, .int .i64 x.f, .int .i64 x.t, .int .i64 x.a, .int .i64 x.b, .slice A n c] 25)) (b0 := w.heap.size) (b1 := w.heap.size) x (by simp) (hlS.alloc _)
    simpa using this
  have HN := Lib.hid (show Nn = 1 + nodesS ([x].flatMap Ex.l) by simpa using hn0)
  have HD := Lib.hid (show Dd = 1 + depthsP ([x].flatMap Ex.l) by simpa using hd0)
  have HG := Lib.hid hG
  clear hn0 hd0 hG hNn hDd hl
  have y0 := hb.cell 0
  have y1 := hb.cell 1
  have y2 := hb.cell 2
  have y3 := hb.cell 3
  have y4 := hb.cell 4
  have y5 := hb.cell 5
  simp only [List.getElem?_toArray, List.getElem?_cons_zero, List.getElem?_cons_succ] at y0 y1 y2 y3 y4 y5
  go_enter Tryd.func76, Tryd.ntmps76
  go_wp2_with fail
  go_loopw [3, 4, 5] (fun v3 v4 v5 wr => ∃ (lv : List Ex) (cnt d : Nat), OwnG wr w.heap.size w.heap.size v3 lv ∧ lv ≠ [] ∧ lv.length ≤ cnt ∧ v4 = .int .i64 (cnt : Int) ∧ v5 = .int .i64 (d : Int) ∧ cnt ≤ 4096 ∧ d ≤ cnt ∧ Hid (Nn = cnt + nodesS (lv.flatMap Ex.l) ∧ Dd = d + depthsP (lv.flatMap Ex.l) ∧ ∀ y ∈ lv, lenOk y) ∧ Chg No w wr) (fun _ v _ _ => 4097 - (intOf v).toNat)
  case atStart => exact ⟨[x], 1, 1, h1, by simp, by simp, rfl, rfl, by omega, by omega, Lib.hid ⟨HN.out, HD.out, fun y hy => by rw [List.mem_singleton.1 hy]; exact hsm⟩, hc0.alloc _⟩
  case round =>
    obtain ⟨lv, cnt, d, ho, hne, hlc, rfl, rfl, hcnt, hd, HI, hc⟩ := hrel
    obtain ⟨wo, hwo⟩ : ∃ wo : World, wo = wr := ⟨wr, rfl⟩
    rw [← hwo] at ho hc ⊢
    clear hwo
    have hWo := hc.size
    have hlv : 0 < lv.length := List.length_pos_iff.2 hne
    obtain ⟨AL, cL, rfl⟩ := ho.form
    go_wp2_with fail
    go_loopw [4, 6, 7] (fun v4 v6 v7 wr' => ∃ (i C : Nat), i ≤ lv.length ∧ v7 = .int .i64 (i : Int) ∧ v4 = .int .i64 (C : Int) ∧ Hid (C = cnt + ((lv.take i).flatMap Ex.l).length) ∧ C ≤ 4096 ∧ OwnG wr' w.heap.size wo.heap.size v6 ((lv.take i).flatMap Ex.l) ∧ Chg No wo wr') (fun _ _ v _ => lv.length - (intOf v).toNat)
    case atStart => exact ⟨0, cnt, Nat.zero_le _, rfl, rfl, Lib.hid (by simp), hcnt, by simpa using OwnG.nil _ _ _, Chg.refl No _⟩
    case round =>
      obtain ⟨i, C, hi, rfl, rfl, HC, hC, hnx, hcw⟩ := hrel
      have hcwz := hcw.size
      by_cases hlt : i < lv.length
      · obtain ⟨g, cap, A', c', he, x5, hx⟩ := (ho.keep hWo (fun k hk => hcw.block k hk id) hcw.size).at_ i hlt
        injection he with he1 he2 he3
        subst he1 he3
        have htk : (lv.take (i + 1)).flatMap Ex.l = (lv.take i).flatMap Ex.l ++ lv[i].l := by
          rw [List.take_succ_eq_append_getElem hlt, List.flatMap_append]; simp
        have hsum : C + lv[i].l.length = cnt + ((lv.take (i + 1)).flatMap Ex.l).length := by rw [htk, HC.out, List.length_append]; omega
        have hNn : C + lv[i].l.length ≤ Nn := by
          have h1 := nodesS_len (lv.flatMap Ex.l)
          have h2 : ((lv.take (i + 1)).flatMap Ex.l).length ≤ (lv.flatMap Ex.l).length := by
            conv => rhs; rw [← List.take_append_drop (i + 1) lv, List.flatMap_append, List.length_append]
            omega
          have := HI.out.1
          omega
        have hl47 : lv[i].l.length ≤ 140737488355328 := (HI.out.2.2 _ (List.getElem_mem hlt)).len
        obtain ⟨c1, c2, c3⟩ : lv[i].l.length ≤ c' ∧ c' ≤ 9223372036854775807 ∧ True := ⟨hx.2.1, hx.2.2.1, trivial⟩
        have HS := Lib.hid hsum
        have HT := Lib.hid htk
        clear hsum htk
        have hLe : ((lv.take i).flatMap Ex.l).length ≤ C := by have := HC.out; omega
        by_cases hbig : 4096 < C + lv[i].l.length
        · have hbig' : (4096 : Int) < (C : Int) + (lv[i].l.length : Int) := by omega
          have HG2 : Hid (guardP x = 2) := Lib.hid (by rw [HG.out, if_pos (by omega)])
          clear hNn
          go_wp2
          go_ret
          exact ⟨by rw [HG2.out]; rfl, hc.trans hcw⟩
        · have hbig' : ¬ (4096 : Int) < (C : Int) + (lv[i].l.length : Int) := by omega
          have hle : ((lv.take i).flatMap Ex.l).length + lv[i].l.length ≤ 4096 := by omega
          clear hNn
          go_wp2_with (at_builtin; refine wpList_append_exG rfl _ _ rfl w.heap.size wo.heap.size _ ((lv.take i).flatMap Ex.l) lv[i].l rfl hnx A' _ c' rfl hx (by omega) hWo hcwz ?_; intro v' w1 hO1 hC1)
          have hsum := HS.out
          have hOk : OwnG w1 w.heap.size wo.heap.size v' ((lv.take (i + 1)).flatMap Ex.l) := by rw [HT.out]; exact hO1
          have hCC : Chg No wo w1 := hcw.then_ hC1 fun k hk e => by omega
          go_wp2
          exact ⟨⟨i + 1, C + lv[i].l.length, by omega, by go_num, by go_num, Lib.hid hsum, by omega, hOk, hCC⟩, by simp [intOf]; omega⟩
      · obtain rfl : i = lv.length := by omega
        rw [List.take_length] at hnx
        obtain ⟨A6, c6, rfl⟩ := hnx.form
        have hCe : C = cnt + (lv.flatMap Ex.l).length := by have := HC.out; rwa [List.take_length] at this
        have hNe := HI.out.1
        have hDe := HI.out.2.1
        have hLv := nodesS_level (lv.flatMap Ex.l)
        have hDv := depthsP_level (lv.flatMap Ex.l)
        have hkids : ∀ y ∈ lv.flatMap Ex.l, lenOk y := fun y hy => by
          obtain ⟨z, hz, hy⟩ := List.mem_flatMap.1 hy
          exact (HI.out.2.2 z hz).kids y hy
        generalize lv.flatMap Ex.l = nx at hnx hCe hNe hDe hLv hDv hkids
        by_cases h0 : nx = []
        · subst h0
          simp only [List.length_nil, nodesS, depthsP] at hCe hNe hDe
          have hG2 : guardP x = if 64 < d then 5 else 0 := by
            rw [HG.out, if_neg (by omega), show Dd = d by omega]
          clear hLv hDv hNe hDe hCe
          by_cases h64 : 64 < d
          · rw [if_pos h64] at hG2
            have HG2 := Lib.hid hG2
            have h64' : (64 : Int) < (d : Int) := by omega
            clear hG2
            go_wp2
            go_ret
            exact ⟨by rw [HG2.out]; rfl, hc.trans hcw⟩
          · rw [if_neg h64] at hG2
            have HG2 := Lib.hid hG2
            have h64' : ¬ (64 : Int) < (d : Int) := by omega
            clear hG2
            go_wp2
            go_ret
            exact ⟨by rw [HG2.out]; rfl, hc.trans hcw⟩
        · have h1 : 0 < nx.length := List.length_pos_iff.2 h0
          have e1 : ((nx.length : Int) == 0) = false := by rw [beq_eq_false_iff_ne]; omega
          have hI2 : Nn = C + nodesS (nx.flatMap Ex.l) ∧ Dd = (d + 1) + depthsP (nx.flatMap Ex.l) ∧ ∀ y ∈ nx, lenOk y := ⟨by omega, by have := hDv h0; omega, hkids⟩
          have HI2 := Lib.hid hI2
          have hCm : nx.length ≤ C ∧ d + 1 ≤ C ∧ cnt < C := by omega
          obtain ⟨m1, m2, m3⟩ := hCm
          clear hI2 hLv hDv hNe hDe hCe h1 HC
          go_wp2
          exact ⟨⟨nx, C, d + 1, hnx.lower hWo, h0, m1, rfl, by go_num, hC, m2, HI2, hc.trans hcw⟩, by simp [intOf]; omega⟩
end Go.Proofs.YticipgjbgcdccaaDoor
namespace Go.Proofs.YticipgjbgcdccaaDoor
open Go.RowKit

/-- the cells of a pattern's variable, as the walk asks for them -/
theorem ex_cells {w : World} {g : Nat} {v0 v1 v2 v3 v4 v5 : Value} (h : Blk w g 25 #[v0, v1, v2, v3, v4, v5]) : w.cell? ⟨g, 0, none⟩ = some v0 ∧ w.cell? ⟨g, 1, none⟩ = some v1 ∧ w.cell? ⟨g, 2, none⟩ = some v2 ∧ w.cell? ⟨g, 3, none⟩ = some v3 ∧ w.cell? ⟨g, 4, none⟩ = some v4 ∧ w.cell? ⟨g, 5, none⟩ = some v5 :=
  ⟨h.cell 0, h.cell 1, h.cell 2, h.cell 3, h.cell 4, h.cell 5⟩

set_option maxHeartbeats 1000000 in
set_option maxRecDepth 100000 in
theorem rCheck_any (x : Ex) (A : Option Addr) (n c : Nat) (S : Nat → Prop) (w : World) (hl : Sl w S A n c x.l) (hsm : lenOk x) :
    Calls Tryd.prog 47 #[.agg #[.int .i64 x.k, .int .i64 x.f, .int .i64 x.t, .int .i64 x.a, .int .i64 x.b, .slice A n c]] w
      fun e w' => e = .returned (.int .i64 (checkP x)) ∧ Chg No w w' := by
  have hb := Blk.new w 25 #[.int .i64 x.k, .int .i64 x.f, .int .i64 x.t, .int .i64 x.a, .int .i64 x.b, .slice A n c]
  have hc0 : Chg No w (w.alloc (.cells #[.int .i64 x.k, .int .i64 x.f, .int .i64 x.t, .int .i64 x.a, .int .i64 x.b, .slice A n c] 25)) := (Chg.refl _ _).alloc _
  have hgd := fun w1 (h : Chg No w w1) => Guard_any x A n c S w1 (hl.chgNo h) hsm
  have hri := fun w1 (h : Chg No w w1) => rright_any _ x.k x.f x.t x.a x.b A n c x.l S w1 (Nat.lt_succ_self _) (hl.chgNo h)
  have hpo := fun (hr : rightP x = true) w1 (h : Chg No w w1) => rpositions_any _ x A n c S w1 (Nat.lt_succ_self _) hr (hl.chgNo h)
  rw [Ex.eta] at hri
  have hF := checkP_guard x
  obtain ⟨F, hFF⟩ : ∃ F, checkP x = F := ⟨_, rfl⟩
  obtain ⟨G, hG⟩ : ∃ G, guardP x = G := ⟨_, rfl⟩
  obtain ⟨R, hR⟩ : ∃ R, rightP x = R := ⟨_, rfl⟩
  obtain ⟨P, hP⟩ : ∃ P, positionsP x = P := ⟨_, rfl⟩
  rw [hFF, hG, hR, hP] at hF
  rw [hFF]
  rw [hG] at hgd
  rw [hR] at hri hpo
  rw [hP] at hpo
  clear hFF hG hR hP
  go_enter Tryd.func47, Tryd.ntmps47
  go_wp2_with fail
  refine (hgd _ hc0).mono ?_
  rintro e w1 ⟨rfl, hc1⟩
  have k1 := hc0.trans hc1
  have hb1 := hb.chg hc1 id
  obtain ⟨y0, y1, y2, y3, y4, y5⟩ := ex_cells hb1
  by_cases q : G = 0
  · subst q
    rw [if_neg (by simp)] at hF
    go_wp2_with fail
    refine (hri _ k1).mono ?_
    rintro e w2 ⟨rfl, hc2⟩
    have k2 := k1.trans hc2
    have hb2 := hb1.chg hc2 id
    clear y0 y1 y2 y3 y4 y5
    obtain ⟨y0, y1, y2, y3, y4, y5⟩ := ex_cells hb2
    cases R with
    | false =>
      rw [if_pos rfl] at hF
      subst hF
      go_wp2
      go_ret
      exact ⟨rfl, k2⟩
    | true =>
      rw [if_neg (by simp)] at hF
      have hp := hpo rfl _ k2
      by_cases q2 : 4096 < P
      · rw [if_pos q2] at hF
        subst hF
        go_wp2_with fail
        refine hp.mono ?_
        rintro e w3 ⟨rfl, hc3⟩
        go_wp2
        go_ret
        exact ⟨rfl, k2.trans hc3⟩
      · rw [if_neg q2] at hF
        subst hF
        go_wp2_with fail
        refine hp.mono ?_
        rintro e w3 ⟨rfl, hc3⟩
        go_wp2
        go_ret
        exact ⟨rfl, k2.trans hc3⟩
  · rw [if_pos q] at hF
    subst hF
    have e1 : (F != 0) = true := by simpa using q
    go_wp2
    go_ret
    exact ⟨rfl, k1⟩

set_option maxHeartbeats 1000000 in
set_option maxRecDepth 100000 in
theorem rPositions_any (x : Ex) (A : Option Addr) (n c : Nat) (S : Nat → Prop) (w : World) (hl : Sl w S A n c x.l) (hsm : lenOk x) :
    Calls Tryd.prog 32 #[.agg #[.int .i64 x.k, .int .i64 x.f, .int .i64 x.t, .int .i64 x.a, .int .i64 x.b, .slice A n c]] w
      fun e w' => e = .returned (.tuple #[.int .i64 (posP x).1, .int .i64 (posP x).2]) ∧ Chg No w w' := by
  have hb := Blk.new w 25 #[.int .i64 x.k, .int .i64 x.f, .int .i64 x.t, .int .i64 x.a, .int .i64 x.b, .slice A n c]
  have hc0 : Chg No w (w.alloc (.cells #[.int .i64 x.k, .int .i64 x.f, .int .i64 x.t, .int .i64 x.a, .int .i64 x.b, .slice A n c] 25)) := (Chg.refl _ _).alloc _
  have hck := fun w1 (h : Chg No w w1) => rCheck_any x A n c S w1 (hl.chgNo h) hsm
  have hF : posP x = if checkP x ≠ 0 then (0, checkP x) else (positionsP x, 0) := rfl
  have hpr := fun (h : checkP x = 0) w1 (h1 : Sl w1 S A n c x.l) => rpositions_any _ x A n c S w1 (Nat.lt_succ_self _) (checkP_nodes x h).1 h1
  obtain ⟨e0, he⟩ : ∃ e, checkP x = e := ⟨_, rfl⟩
  rw [he] at hck hF hpr
  obtain ⟨T, hT⟩ : ∃ T, positionsP x = T := ⟨_, rfl⟩
  rw [hT] at hF hpr
  have HL := Lib.hid hl
  clear hT he
  go_enter Tryd.func32, Tryd.ntmps32
  go_wp2_with fail
  refine (hck _ hc0).mono ?_
  rintro e w1 ⟨rfl, hc1⟩
  have hb1 := hb.chg hc1 id
  obtain ⟨y0, y1, y2, y3, y4, y5⟩ := ex_cells hb1
  by_cases q : e0 = 0
  · subst q
    rw [if_neg (by simp)] at hF
    have hp := hpr rfl w1 (HL.out.chgNo (hc0.trans hc1))
    have HF := Lib.hid hF
    clear hpr hck hF
    go_wp2_with (go_at_call 64; refine hp.mono ?_; rintro e w2 ⟨rfl, hcp⟩)
    go_ret2
    exact ⟨by rw [HF.out]; rfl, (hc0.trans hc1).trans hcp⟩
  · rw [if_pos q] at hF
    have e1 : (e0 != 0) = true := by simpa using q
    have HF := Lib.hid hF
    clear hF hpr hck
    go_wp2
    go_ret2
    exact ⟨by rw [HF.out]; rfl, hc0.trans hc1⟩

set_option maxHeartbeats 1000000 in
set_option maxRecDepth 100000 in
theorem rEmpty_any (x : Ex) (A : Option Addr) (n c : Nat) (S : Nat → Prop) (w : World) (hl : Sl w S A n c x.l) (hsm : lenOk x) :
    Calls Tryd.prog 34 #[.agg #[.int .i64 x.k, .int .i64 x.f, .int .i64 x.t, .int .i64 x.a, .int .i64 x.b, .slice A n c]] w
      fun e w' => e = .returned (.bool (EmptyP x)) ∧ Chg No w w' := by
  have hb := Blk.new w 25 #[.int .i64 x.k, .int .i64 x.f, .int .i64 x.t, .int .i64 x.a, .int .i64 x.b, .slice A n c]
  have hc0 : Chg No w (w.alloc (.cells #[.int .i64 x.k, .int .i64 x.f, .int .i64 x.t, .int .i64 x.a, .int .i64 x.b, .slice A n c] 25)) := (Chg.refl _ _).alloc _
  have hck := fun w1 (h : Chg No w w1) => rCheck_any x A n c S w1 (hl.chgNo h) hsm
  have hF : EmptyP x = (decide (checkP x = 0) && emptyP x) := rfl
  have hpr := fun (h : checkP x = 0) w1 (h1 : Sl w1 S A n c x.l) => rempty_any _ x A n c S w1 (Nat.lt_succ_self _) (checkP_nodes x h).1 h1
  obtain ⟨e0, he⟩ : ∃ e, checkP x = e := ⟨_, rfl⟩
  obtain ⟨T, hT⟩ : ∃ T, emptyP x = T := ⟨_, rfl⟩
  rw [he] at hck hF hpr
  rw [hT] at hF hpr
  have HL := Lib.hid hl
  clear hT he
  go_enter Tryd.func34, Tryd.ntmps34
  go_wp2_with fail
  refine (hck _ hc0).mono ?_
  rintro e w1 ⟨rfl, hc1⟩
  have hb1 := hb.chg hc1 id
  obtain ⟨y0, y1, y2, y3, y4, y5⟩ := ex_cells hb1
  by_cases q : e0 = 0
  · subst q
    rw [decide_eq_true rfl, Bool.true_and] at hF
    have hp := hpr rfl w1 (HL.out.chgNo (hc0.trans hc1))
    have HF := Lib.hid hF
    clear hpr hck hF
    go_wp2_with (go_at_call 66; refine hp.mono ?_; rintro e w2 ⟨rfl, hcp⟩)
    go_ret
    exact ⟨by rw [HF.out]; rfl, (hc0.trans hc1).trans hcp⟩
  · rw [decide_eq_false q, Bool.false_and] at hF
    have e1 : (e0 == 0) = false := by simpa using q
    have HF := Lib.hid hF
    clear hF hpr hck
    go_wp2
    go_ret
    exact ⟨by rw [HF.out]; rfl, hc0.trans hc1⟩

/-- may it be copied value by value? -/
def flatB (x : Ex) : Bool := guardP x == 0
set_option maxHeartbeats 1000000 in
set_option maxRecDepth 100000 in
theorem Flat_any (x : Ex) (A : Option Addr) (n c : Nat) (S : Nat → Prop) (w : World) (hl : Sl w S A n c x.l) (hsm : lenOk x) :
    Calls Tryd.prog 48 #[.agg #[.int .i64 x.k, .int .i64 x.f, .int .i64 x.t, .int .i64 x.a, .int .i64 x.b, .slice A n c]] w
      fun e w' => e = .returned (.bool (flatB x)) ∧ Chg No w w' := by
  have hc0 : Chg No w (w.alloc (.cells #[.int .i64 x.k, .int .i64 x.f, .int .i64 x.t, .int .i64 x.a, .int .i64 x.b, .slice A n c] 25)) := (Chg.refl _ _).alloc _
  have hgd := Guard_any x A n c S _ (hl.chgNo hc0) hsm
  have hF : flatB x = (guardP x == 0) := rfl
  obtain ⟨G, hG⟩ : ∃ G, guardP x = G := ⟨_, rfl⟩
  rw [hG] at hgd hF
  obtain ⟨B, hB⟩ : ∃ B, flatB x = B := ⟨_, rfl⟩
  rw [hB] at hF ⊢
  have HF := Lib.hid hF
  clear hG hB hF
  go_enter Tryd.func48, Tryd.ntmps48
  go_wp2_with fail
  refine hgd.mono ?_
  rintro e w1 ⟨rfl, hc1⟩
  go_wp2
  go_ret
  exact ⟨by rw [HF.out]; rfl, hc0.trans hc1⟩
end Go.Proofs.YticipgjbgcdccaaDoor
namespace Go.Proofs.YticipgjbgcdccaaDoor
open Go.RowKit

def markV : List Value := [.int .i64 93, .int .i64 0, .int .i64 0, .int .i64 0, .int .i64 0, .slice none 0 0]
mutual
/-- a slice that is a copy of a pattern's list, a mark behind it; its blocks in S, each list's own block apart from those of its parts -/
def TwAt (w : World) : Ex → (Nat → Prop) → Option Addr → Nat → Nat → Prop
  | .mk _ _ _ _ _ l, S, A, n, c => n = l.length ∧ l.length ≤ 4096 ∧ ((l = [] ∧ A = none ∧ c = 0) ∨
      ∃ g cs, l ≠ [] ∧ A = some ⟨g, 0, none⟩ ∧ S g ∧ c = l.length + 1 ∧ Blk w g 25 (cs ++ markV).toArray ∧ RowTw w l (fun k => S k ∧ k ≠ g) cs)
def RowTw (w : World) : List Ex → (Nat → Prop) → List Value → Prop
  | [], _, cs => cs = []
  | x :: xs, S, cs => ∃ A c rest, cs = [.int .i64 x.k, .int .i64 x.f, .int .i64 x.t, .int .i64 x.a, .int .i64 x.b, .slice A x.l.length c] ++ rest ∧ TwAt w x S A x.l.length c ∧ RowTw w xs S rest
end
mutual
theorem TwAt.keep {w w' : World} : ∀ (x : Ex) {S S' : Nat → Prop} {A : Option Addr} {n c : Nat}, (∀ k, S k → k < w.heap.size → w'.heap[k]? = w.heap[k]?) → (∀ k, S k → k < w.heap.size → S' k) → TwAt w x S A n c → TwAt w' x S' A n c
  | .mk _ _ _ _ _ l, S, S', A, n, c, hw, hs, h => by
    unfold TwAt at h ⊢
    obtain ⟨h1, h2, h3⟩ := h
    refine ⟨h1, h2, ?_⟩
    rcases h3 with h3 | ⟨g, cs, e1, e2, e3, e4, e5, e6⟩
    · exact .inl h3
    · have hg := e5.lt
      exact .inr ⟨g, cs, e1, e2, hs g e3 hg, e4, (hw g e3 hg).trans e5, RowTw.keep l (fun k hk hz => hw k hk.1 hz) (fun k hk hz => ⟨hs k hk.1 hz, hk.2⟩) e6⟩
theorem RowTw.keep {w w' : World} : ∀ (l : List Ex) {S S' : Nat → Prop} {cs : List Value}, (∀ k, S k → k < w.heap.size → w'.heap[k]? = w.heap[k]?) → (∀ k, S k → k < w.heap.size → S' k) → RowTw w l S cs → RowTw w' l S' cs
  | [], _, _, cs, _, _, h => by
    unfold RowTw at h ⊢
    exact h
  | x :: xs, S, S', cs, hw, hs, h => by
    unfold RowTw at h ⊢
    obtain ⟨A, c, rest, e, h1, h2⟩ := h
    exact ⟨A, c, rest, e, TwAt.keep x hw hs h1, RowTw.keep xs hw hs h2⟩
end
theorem TwAt.chg {w w' : World} {x : Ex} {S T : Nat → Prop} {A : Option Addr} {n c : Nat} (h : TwAt w x S A n c) (hc : Chg T w w') (hn : ∀ k, S k → ¬ T k) : TwAt w' x S A n c :=
  h.keep x (fun k hk hz => hc.block k hz (hn k hk)) (fun _ hk _ => hk)
theorem TwAt.chgNo {w w' : World} {x : Ex} {S : Nat → Prop} {A : Option Addr} {n c : Nat} (h : TwAt w x S A n c) (hc : Chg No w w') : TwAt w' x S A n c := h.chg hc fun _ _ e => e
theorem TwAt.mono {w : World} {x : Ex} {S S' : Nat → Prop} {A : Option Addr} {n c : Nat} (h : TwAt w x S A n c) (hs : ∀ k, S k → S' k) : TwAt w x S' A n c := h.keep x (fun _ _ _ => rfl) (fun k hk _ => hs k hk)
theorem RowTw.chg {w w' : World} {l : List Ex} {S T : Nat → Prop} {cs : List Value} (h : RowTw w l S cs) (hc : Chg T w w') (hn : ∀ k, S k → ¬ T k) : RowTw w' l S cs :=
  h.keep l (fun k hk hz => hc.block k hz (hn k hk)) (fun _ hk _ => hk)
theorem RowTw.length {w : World} : ∀ {l : List Ex} {S : Nat → Prop} {cs : List Value}, RowTw w l S cs → cs.length = 6 * l.length
  | [], _, cs, h => by unfold RowTw at h; subst h; rfl
  | x :: xs, S, cs, h => by
    unfold RowTw at h
    obtain ⟨A, c, rest, rfl, _, hr⟩ := h
    have := RowTw.length hr
    simp [this]; omega
theorem RowTw.snoc {w : World} {S : Nat → Prop} {y : Ex} {A : Option Addr} {c : Nat} (hy : TwAt w y S A y.l.length c) :
    ∀ {l : List Ex} {cs : List Value}, RowTw w l S cs → RowTw w (l ++ [y]) S (cs ++ [.int .i64 y.k, .int .i64 y.f, .int .i64 y.t, .int .i64 y.a, .int .i64 y.b, .slice A y.l.length c])
  | [], cs, h => by
    unfold RowTw at h; subst h
    show RowTw w [y] S _
    unfold RowTw
    exact ⟨A, c, [], by simp, hy, by unfold RowTw; rfl⟩
  | x :: xs, cs, h => by
    unfold RowTw at h
    obtain ⟨A', c', rest, rfl, hx, hr⟩ := h
    show RowTw w (x :: (xs ++ [y])) S _
    unfold RowTw
    exact ⟨A', c', _, by rw [List.append_assoc], hx, RowTw.snoc hy hr⟩
mutual
theorem TwAt.sl {w : World} : ∀ (x : Ex) {S : Nat → Prop} {A : Option Addr} {n c : Nat}, TwAt w x S A n c → Sl w S A n c x.l
  | .mk _ _ _ _ _ l, S, A, n, c, h => by
    unfold TwAt at h
    obtain ⟨h1, h2, h3⟩ := h
    show Sl w S A n c l
    rcases h3 with ⟨rfl, rfl, rfl⟩ | ⟨g, cs, e1, rfl, e3, rfl, e5, e6⟩
    · exact ⟨h1, Nat.le_refl _, by omega, fun h => absurd rfl h⟩
    · refine ⟨h1, by omega, by omega, fun _ => ⟨g, 0, rfl, e3, e5.lt, ?_⟩⟩
      refine RowTw.ls l 0 e6 (fun k hk => hk.1) fun j u hu => ?_
      rw [Nat.zero_add, e5.cell]
      have hj : j < cs.length := by
        rcases Nat.lt_or_ge j cs.length with q | q
        · exact q
        · rw [List.getElem?_eq_none q] at hu; cases hu
      simp only [List.getElem?_toArray]
      rw [List.getElem?_append_left hj]; exact hu
theorem RowTw.ls {w : World} : ∀ (l : List Ex) {S S' : Nat → Prop} {cs : List Value} {g : Nat} (o : Nat), RowTw w l S cs → (∀ k, S k → S' k) → (∀ j u, cs[j]? = some u → w.cell? ⟨g, o + j, none⟩ = some u) → LsAt w S' g o l
  | [], _, _, cs, g, o, h, _, hc => by unfold LsAt; trivial
  | x :: xs, S, S', cs, g, o, h, hs, hc => by
    unfold RowTw at h
    obtain ⟨A, c, rest, rfl, hx, hr⟩ := h
    unfold LsAt
    refine ⟨?_, RowTw.ls xs (o + 6) hr hs fun j u hu => ?_⟩
    · have hsl := TwAt.sl x hx
      have hsl := hsl.mono hs
      cases x with
      | mk k f t a b l' =>
        obtain ⟨h1, h2, h3, h4⟩ := hsl
        unfold ExAt
        exact ⟨hc 0 _ rfl, hc 1 _ rfl, hc 2 _ rfl, hc 3 _ rfl, hc 4 _ rfl, A, c, hc 5 _ rfl, h2, h3, h4⟩
    · have := hc (j + 6) u (by simpa using hu)
      rwa [show o + (j + 6) = o + 6 + j by omega] at this
end

/-- a pattern is stored into a row's place -/
theorem wpList_store_exAt {w : World} {ops : Array Oper} {rest : List Oper} {o : Oper} {a : Act} {Q : Exit → Act → World → Prop} (hgd : o.guard = none) (x y : Operand) (ho : o.op = .store 25 x y)
    (g of : Nat) (cs tail vs : List Value) (hb : Blk w g 25 (cs ++ tail).toArray) (hof : of = cs.length) (hx : a.eval x = .pointer (some ⟨g, of, none⟩)) (hvs : vs.length = 6) (htl : 6 ≤ tail.length) (h1 : vs.all (·.oneCell') = true)
    (hy : a.eval y = .agg vs.toArray)
    (h : ∀ w', Blk w' g 25 ((cs ++ vs) ++ tail.drop 6).toArray → Chg (One g) w w' → wpList Tryd.prog ops Q rest (a.put o.dst undef) w') : wpList Tryd.prog ops Q (o :: rest) a w := by
  obtain ⟨i0, hi, hz0, hz1, hz2⟩ := info_parts info_ex
  subst hof
  obtain ⟨cs', q2, q3, q4, q5⟩ := setCells_blk vs cs.length w (cs ++ tail).toArray hb (by simp; omega)
  refine wpList_store_mid hgd _ x y ho g cs.length vs.toArray hx hy (fun j hj => ⟨?_, hb.frozen _⟩) (by rw [hi]; simp [hz1, hvs]) (by simpa using h1) (h _ ?_ (by simpa using q5))
  · rw [hb.cell]; simp at hj ⊢; omega
  · have e : cs' = ((cs ++ vs) ++ tail.drop 6).toArray := by
      apply Array.ext_getElem?
      intro i
      rw [q4 i]
      simp only [List.getElem?_toArray]
      by_cases q : i < cs.length
      · rw [if_neg (by omega), List.append_assoc, List.getElem?_append_left q, List.getElem?_append_left q]
      · by_cases q' : i < cs.length + vs.length
        · rw [if_pos (by omega), List.append_assoc, List.getElem?_append_right (by omega), List.getElem?_append_left (by omega)]
        · have l1 : (cs ++ tail)[i]? = tail[i - cs.length]? := List.getElem?_append_right (by omega)
          have l2 : ((cs ++ vs) ++ tail.drop 6)[i]? = (tail.drop 6)[i - (cs ++ vs).length]? := List.getElem?_append_right (by rw [List.length_append]; omega)
          rw [if_neg (by omega), l1, l2, List.getElem?_drop, List.length_append]
          exact congrArg (fun z => tail[z]?) (by omega)
    rw [e] at q2
    simpa using q2

def zerosE (n : Nat) : List Value := (madeCells (Value.agg #[.int .i64 0, .int .i64 0, .int .i64 0, .int .i64 0, .int .i64 0, .slice none 0 0]).cells (n * 6)).toList
theorem zerosE_length (n : Nat) : (zerosE n).length = n * 6 := by unfold zerosE; rw [Array.length_toList, size_madeCells]
theorem make_ex (w : World) (n : Nat) (hn : n ≤ 4097) : (Instr.makeSlice 23 (.int .i64 (n : Int)) (.int .i64 (n : Int))).run Tryd.prog w = .ok (.slice (some ⟨w.heap.size, 0, none⟩) n n) (w.alloc (.cells (zerosE n).toArray 25)) := by
  obtain ⟨i, hi, hz'⟩ := Option.map_eq_some_iff.1 info_ex
  simp only [Prod.mk.injEq] at hz'
  obtain ⟨h1, h2, h3⟩ := hz'
  have := run_makeSlice (P := Tryd.prog) w 23 25 i _ Tryd.underlying23 hi h1 .i64 .i64 (n : Int) (n : Int) (by omega) (by omega) (by rw [h2]; simp; omega) (by rw [h3]; omega) (by omega)
  rw [h2] at this
  simp only [Int.toNat_natCast] at this
  unfold zerosE
  rw [Array.toArray_toList]; exact this

/-- what 'twin' answers: the value with a list that is a copy -/
def TwinPost (w : World) (x : Ex) (e : Ending) (w' : World) : Prop :=
  ∃ A c, e = .returned (.agg #[.int .i64 x.k, .int .i64 x.f, .int .i64 x.t, .int .i64 x.a, .int .i64 x.b, .slice A x.l.length c]) ∧ TwAt w' x (fun k => w.heap.size ≤ k) A x.l.length c ∧ Chg No w w'

set_option maxHeartbeats 4000000 in
set_option maxRecDepth 100000 in
theorem twin_any : ∀ (N : Nat) (x : Ex) (A : Option Addr) (n c : Nat) (S : Nat → Prop) (w : World), SizeOf.sizeOf x < N → nodesP x ≤ 4096 → Sl w S A n c x.l →
    Calls Tryd.prog 49 #[.agg #[.int .i64 x.k, .int .i64 x.f, .int .i64 x.t, .int .i64 x.a, .int .i64 x.b, .slice A n c]] w (TwinPost w x) := by
  intro N
  induction N with
  | zero => intro _ _ _ _ _ _ h; omega
  | succ N ih =>
    intro x A n c S w hN hnd hl
    have IH := Lib.hid ih; clear ih
    obtain ⟨k, f, t, a, b, l⟩ := x
    simp only [Ex.k, Ex.f, Ex.t, Ex.a, Ex.b, Ex.l] at hl ⊢
    obtain ⟨rfl, hc1, hc2⟩ : n = l.length ∧ l.length ≤ c ∧ c ≤ 9223372036854775807 := ⟨hl.1, by have := hl.2.1; have := hl.1; omega, hl.2.2.1⟩
    have hkid : ∀ x ∈ l, SizeOf.sizeOf x < N := fun x hx => by have := Ex.lt_of_mem hx k f t a b; omega
    have hnl : l.length ≤ 4095 := by have := nodesS_len l; unfold nodesP at hnd; omega
    have hnk : ∀ i (hi : i < l.length), nodesP l[i] ≤ 4096 := fun i hi => by have := nodesS_get l i hi; unfold nodesP at hnd; omega
    have HN := Lib.hid hnk
    have HK := Lib.hid hkid
    clear hnk hkid hnd
    have hb := Blk.new w 25 #[.int .i64 k, .int .i64 f, .int .i64 t, .int .i64 a, .int .i64 b, .slice A l.length c]
    have hc0 : Chg No w (w.alloc (.cells #[.int .i64 k, .int .i64 f, .int .i64 t, .int .i64 a, .int .i64 b, .slice A l.length c] 25)) := (Chg.refl _ _).alloc _
    by_cases h0 : l.length = 0
    · have hl0 : l = [] := List.eq_nil_of_length_eq_zero h0
      subst hl0
      simp only [List.length_nil] at *
      go_enter Tryd.func49, Tryd.ntmps49
      go_wp2_with fail
      have bR := (Blk.new ((w.alloc (.cells #[.int .i64 k, .int .i64 f, .int .i64 t, .int .i64 a, .int .i64 b, .slice A 0 c] 25))) 25 #[.int .i64 k, .int .i64 f, .int .i64 t, .int .i64 a, .int .i64 b, .slice none 0 0]).alloc (.cells #[.int .i64 k, .int .i64 f, .int .i64 t, .int .i64 a, .int .i64 b, .slice none 0 0] 25)
      simp only [World.size_alloc] at bR
      refine bodyPost_ret_ex rfl rfl rfl bR ⟨none, 0, rfl, ?_, (hc0.alloc _).alloc _⟩
      unfold TwAt
      exact ⟨rfl, by simp, .inl ⟨rfl, rfl, rfl⟩⟩
    · have hpos : decide (0 < l.length) = true := decide_eq_true (by omega)
      have hmk := fun w => make_ex w (l.length + 1) (by omega)
      simp only [Int.natCast_add, Int.cast_ofNat_Int] at hmk
      go_enter Tryd.func49, Tryd.ntmps49
      go_wp2_with fail
      have hb1 := ((Blk.new' (w := w.alloc (.cells #[.int .i64 k, .int .i64 f, .int .i64 t, .int .i64 a, .int .i64 b, .slice A l.length c] 25)) (g := w.heap.size + 1) (t := 25) (cs := #[.int .i64 0, .int .i64 0, .int .i64 0, .int .i64 0, .int .i64 0, .slice none 0 0]) (by simp)).alloc (.cells #[.int .i64 k, .int .i64 f, .int .i64 t, .int .i64 a, .int .i64 b, .slice none 0 0] 25)).alloc (.cells (zerosE (l.length + 1)).toArray 25)
      have hb2 := (Blk.new' (w := (w.alloc (.cells #[.int .i64 k, .int .i64 f, .int .i64 t, .int .i64 a, .int .i64 b, .slice A l.length c] 25)).alloc (.cells #[.int .i64 0, .int .i64 0, .int .i64 0, .int .i64 0, .int .i64 0, .slice none 0 0] 25)) (g := w.heap.size + 2) (t := 25) (cs := #[.int .i64 k, .int .i64 f, .int .i64 t, .int .i64 a, .int .i64 b, .slice none 0 0]) (by simp)).alloc (.cells (zerosE (l.length + 1)).toArray 25)
      have hb3 := Blk.new' (w := ((w.alloc (.cells #[.int .i64 k, .int .i64 f, .int .i64 t, .int .i64 a, .int .i64 b, .slice A l.length c] 25)).alloc (.cells #[.int .i64 0, .int .i64 0, .int .i64 0, .int .i64 0, .int .i64 0, .slice none 0 0] 25)).alloc (.cells #[.int .i64 k, .int .i64 f, .int .i64 t, .int .i64 a, .int .i64 b, .slice none 0 0] 25)) (g := w.heap.size + 3) (t := 25) (cs := (zerosE (l.length + 1)).toArray) (by simp)
      have hzl := zerosE_length (l.length + 1)
      go_loopw [5] (fun v5 wr => ∃ (i : Nat) (cs tail : List Value), i ≤ l.length ∧ v5 = .int .i64 (i : Int) ∧ Chg No w wr ∧ Blk wr w.heap.size 25 #[.int .i64 k, .int .i64 f, .int .i64 t, .int .i64 a, .int .i64 b, .slice A l.length c] ∧
        Blk wr (w.heap.size + 1) 25 #[.int .i64 0, .int .i64 0, .int .i64 0, .int .i64 0, .int .i64 0, .slice none 0 0] ∧ Blk wr (w.heap.size + 2) 25 #[.int .i64 k, .int .i64 f, .int .i64 t, .int .i64 a, .int .i64 b, .slice none 0 0] ∧
        Blk wr (w.heap.size + 3) 25 (cs ++ tail).toArray ∧ tail.length = (l.length + 1 - i) * 6 ∧ RowTw wr (l.take i) (fun k => w.heap.size + 3 < k) cs) (fun v _ => l.length - (intOf v).toNat)
      case atStart => exact ⟨0, [], zerosE (l.length + 1), Nat.zero_le _, rfl, ((hc0.alloc _).alloc _).alloc _, ((hb.alloc _).alloc _).alloc _, hb1, hb2, by simpa using hb3, by rw [hzl]; rfl, by unfold List.take RowTw; rfl⟩
      case round =>
        clear hb1 hb2 hb3
        obtain ⟨i, cs, tail, hi, rfl, hc, hbe, hbr, hbo, hba, htl, hrow⟩ := hrel
        have hcsl := hrow.length
        rw [List.length_take, Nat.min_eq_left hi] at hcsl
        have z5 := hbe.cell 5
        simp only [List.getElem?_toArray, List.getElem?_cons_zero, List.getElem?_cons_succ] at z5
        have hlr := hba.lt
        by_cases hlt : i < l.length
        · obtain ⟨g, o, A', c', rfl, hS, x0, x1, x2, x3, x4, x5, hx⟩ := (hl.chgNo hc).at_ i hlt
          have hcall := IH.out l[i] A' _ c' S wr (HK.out _ (List.getElem_mem hlt)) (HN.out i hlt) hx
          have HTL := Lib.hid htl
          have HCS := Lib.hid hcsl
          clear htl hcsl hzl
          go_wp2_with fail
          refine hcall.mono ?_
          rintro e w1 ⟨A2, c2, rfl, hTw, hc1⟩
          have hba1 := hba.chg hc1 id
          have ht6 : 6 ≤ tail.length := by have := HTL.out; omega
          go_wp2_with (refine wpList_store_exAt rfl _ _ rfl (w.heap.size + 3) (i * 6) cs tail [.int .i64 l[i].k, .int .i64 l[i].f, .int .i64 l[i].t, .int .i64 l[i].a, .int .i64 l[i].b, .slice A2 l[i].l.length c2] hba1 (by have := HCS.out; omega) rfl rfl ht6 rfl rfl ?_; intro w2 hB2 hC2)
          have htl := HTL.out
          have hcw := (hc.trans hc1).then_ hC2 fun j hj e => by have e' : j = w.heap.size + 3 := e; omega
          have kb : ∀ {g t cs}, Blk wr g t cs → g ≠ w.heap.size + 3 → Blk w2 g t cs := fun h hn => (h.chg hc1 id).chg hC2 fun e => hn e
          have hr2 := hrow.chg ((hc1.mono fun _ _ e => e.elim).trans hC2) (fun k hk e => by have e' : k = w.heap.size + 3 := e; omega)
          have ht2 := (hTw.chg hC2 fun k hk e => by have e' : k = w.heap.size + 3 := e; omega).mono (S' := fun k => w.heap.size + 3 < k) fun k hk => by omega
          have hrow2 : RowTw w2 (l.take (i + 1)) (fun k => w.heap.size + 3 < k) (cs ++ [.int .i64 l[i].k, .int .i64 l[i].f, .int .i64 l[i].t, .int .i64 l[i].a, .int .i64 l[i].b, .slice A2 l[i].l.length c2]) := by
            rw [List.take_succ_eq_append_getElem hlt]; exact RowTw.snoc ht2 hr2
          go_wp2
          exact ⟨⟨i + 1, _, tail.drop 6, by omega, by go_num, hcw, kb hbe (by omega), kb hbr (by omega), kb hbo (by omega), hB2, by rw [List.length_drop]; omega, hrow2⟩, by simp [intOf]; omega⟩
        · obtain rfl : i = l.length := by omega
          rw [List.take_length] at hrow
          have ht6 : tail.length = 6 := by omega
          have hdr : tail.drop 6 = [] := List.drop_eq_nil_of_le (by omega)
          have HDR := Lib.hid hdr
          have HCS := Lib.hid hcsl
          have HT6 := Lib.hid ht6
          clear hdr hcsl ht6 htl hzl
          go_wp2_with (first | (refine wpList_store_exAt rfl _ _ rfl (w.heap.size + 3) (l.length * 6) cs tail markV hba (by have := HCS.out; omega) rfl rfl (by have := HT6.out; omega) rfl rfl ?_; intro w2 hB2 hC2; have hbo2 := hbo.chg hC2 (fun e => by have e' : w.heap.size + 2 = w.heap.size + 3 := e; omega); have hbr2 := hbr.chg hC2 (fun e => by have e' : w.heap.size + 1 = w.heap.size + 3 := e; omega); have f5 := hbo2.frozen 5; obtain ⟨y0, y1, y2, y3, y4, y5⟩ := ex_cells hbo2; have u5 := (hbe.chg hC2 (fun e => by have e' : w.heap.size = w.heap.size + 3 := e; omega)).cell 5; simp only [List.getElem?_toArray, List.getElem?_cons_zero, List.getElem?_cons_succ] at u5) | (refine wpList_store_ex rfl _ _ rfl (w.heap.size + 1) _ _ _ _ _ _ (hbr2.far (by simp) _) rfl k f t a b (some ⟨w.heap.size + 3, 0, none⟩) l.length (l.length + 1) rfl ?_; intro w4 hB4 hC4))
          have k24 : Chg (fun k => k = w.heap.size + 2 ∨ k = w.heap.size + 1) w2 w4 := (Chg.setCell (S := fun k => k = w.heap.size + 2 ∨ k = w.heap.size + 1) (Chg.refl _ w2) (p := ⟨w.heap.size + 2, 5, none⟩) (.slice (some ⟨w.heap.size + 3, 0, none⟩) l.length (l.length + 1)) fun _ => .inl rfl).trans (hC4.mono fun j _ e => .inr e)
          have hB2' : Blk w2 (w.heap.size + 3) 25 (cs ++ markV).toArray := by have := hB2; rw [HDR.out, List.append_nil] at this; exact this
          have hrow4 := ((hrow.chg hC2 fun k hk e => by have e' : k = w.heap.size + 3 := e; omega).chg k24 fun k hk e => by omega).keep l (w' := w4) (S' := fun k => w.heap.size ≤ k ∧ k ≠ w.heap.size + 3) (fun _ _ _ => rfl) fun k hk _ => by constructor <;> omega
          refine bodyPost_ret_ex rfl rfl rfl hB4 ⟨some ⟨w.heap.size + 3, 0, none⟩, l.length + 1, rfl, ?_, (hc.then_ hC2 fun j hj e => by have e' : j = w.heap.size + 3 := e; omega).then_ k24 fun j hj e => by omega⟩
          unfold TwAt
          exact ⟨rfl, by omega, .inr ⟨w.heap.size + 3, cs, fun e => h0 (by rw [e]; rfl), rfl, by omega, rfl, hB2'.chg k24 fun e => by omega, hrow4⟩⟩
end Go.Proofs.YticipgjbgcdccaaDoor
namespace Go.Proofs.YticipgjbgcdccaaDoor
open Go.RowKit

theorem RowTw.get {w : World} : ∀ {l : List Ex} {S : Nat → Prop} {cs : List Value}, RowTw w l S cs → ∀ (i : Nat) (hi : i < l.length), ∃ A c,
    (cs[i * 6]? = some (.int .i64 l[i].k) ∧ cs[i * 6 + 1]? = some (.int .i64 l[i].f) ∧ cs[i * 6 + 2]? = some (.int .i64 l[i].t) ∧ cs[i * 6 + 3]? = some (.int .i64 l[i].a) ∧ cs[i * 6 + 4]? = some (.int .i64 l[i].b) ∧ cs[i * 6 + 5]? = some (.slice A l[i].l.length c)) ∧ TwAt w l[i] S A l[i].l.length c
  | x :: xs, S, cs, h, 0, _ => by
    unfold RowTw at h
    obtain ⟨A, c, rest, rfl, hx, hr⟩ := h
    exact ⟨A, c, ⟨rfl, rfl, rfl, rfl, rfl, rfl⟩, hx⟩
  | x :: xs, S, cs, h, i + 1, hi => by
    unfold RowTw at h
    obtain ⟨A, c, rest, rfl, hx, hr⟩ := h
    obtain ⟨A', c', ⟨h0, h1, h2, h3, h4, h5⟩, hh⟩ := RowTw.get hr i (by simpa using hi)
    refine ⟨A', c', ⟨?_, ?_, ?_, ?_, ?_, ?_⟩, hh⟩
    · rw [show (i + 1) * 6 = i * 6 + 6 by omega]; simpa using h0
    · rw [show (i + 1) * 6 + 1 = i * 6 + 1 + 6 by omega]; simpa using h1
    · rw [show (i + 1) * 6 + 2 = i * 6 + 2 + 6 by omega]; simpa using h2
    · rw [show (i + 1) * 6 + 3 = i * 6 + 3 + 6 by omega]; simpa using h3
    · rw [show (i + 1) * 6 + 4 = i * 6 + 4 + 6 by omega]; simpa using h4
    · rw [show (i + 1) * 6 + 5 = i * 6 + 5 + 6 by omega]; simpa using h5
/-- a copy of a list that is not empty: its block, element i, the mark -/
theorem TwAt.at_ {w : World} {k f t a b : Int} {l : List Ex} {S : Nat → Prop} {A : Option Addr} {n c : Nat} (h : TwAt w (.mk k f t a b l) S A n c) (hne : l ≠ []) : n = l.length ∧ l.length ≤ 4096 ∧ ∃ g, A = some ⟨g, 0, none⟩ ∧ c = l.length + 1 ∧ w.cell? ⟨g, l.length * 6, none⟩ = some (.int .i64 93) ∧
    ∀ (i : Nat) (hi : i < l.length), ∃ A' c', w.cell? ⟨g, i * 6, none⟩ = some (.int .i64 l[i].k) ∧ w.cell? ⟨g, i * 6 + 1, none⟩ = some (.int .i64 l[i].f) ∧ w.cell? ⟨g, i * 6 + 2, none⟩ = some (.int .i64 l[i].t) ∧
      w.cell? ⟨g, i * 6 + 3, none⟩ = some (.int .i64 l[i].a) ∧ w.cell? ⟨g, i * 6 + 4, none⟩ = some (.int .i64 l[i].b) ∧ w.cell? ⟨g, i * 6 + 5, none⟩ = some (.slice A' l[i].l.length c') ∧ TwAt w l[i] S A' l[i].l.length c' := by
  unfold TwAt at h
  obtain ⟨h1, h2, h3⟩ := h
  rcases h3 with ⟨e, _⟩ | ⟨g, cs, _, rfl, hg, rfl, hb, hr⟩
  · exact absurd e hne
  · have hl := hr.length
    refine ⟨h1, h2, g, rfl, rfl, ?_, fun i hi => ?_⟩
    · rw [hb.cell]
      simp only [List.getElem?_toArray]
      rw [List.getElem?_append_right (by omega), show l.length * 6 - cs.length = 0 by omega]; rfl
    · obtain ⟨A', c', ⟨q0, q1, q2, q3, q4, q5⟩, hh⟩ := hr.get i hi
      have key : ∀ j v, cs[j]? = some v → w.cell? ⟨g, j, none⟩ = some v := fun j v hj => by
        have hlt : j < cs.length := by
          rcases Nat.lt_or_ge j cs.length with q | q
          · exact q
          · rw [List.getElem?_eq_none q] at hj; cases hj
        rw [hb.cell]
        simp only [List.getElem?_toArray]
        rw [List.getElem?_append_left hlt]; exact hj
      exact ⟨A', c', key _ _ q0, key _ _ q1, key _ _ q2, key _ _ q3, key _ _ q4, key _ _ q5, hh.mono fun k hk => hk.1⟩

set_option maxHeartbeats 4000000 in
set_option maxRecDepth 100000 in
theorem kept_any : ∀ (N : Nat) (x : Ex) (A : Option Addr) (n c : Nat) (S : Nat → Prop) (A2 : Option Addr) (n2 c2 : Nat) (S2 : Nat → Prop) (w : World), SizeOf.sizeOf x < N → TwAt w x S A n c → Sl w S2 A2 n2 c2 x.l →
    Calls Tryd.prog 52 #[.agg #[.int .i64 x.k, .int .i64 x.f, .int .i64 x.t, .int .i64 x.a, .int .i64 x.b, .slice A n c], .agg #[.int .i64 x.k, .int .i64 x.f, .int .i64 x.t, .int .i64 x.a, .int .i64 x.b, .slice A2 n2 c2]] w
      fun e w' => e = .returned (.bool true) ∧ Chg No w w' := by
  intro N
  induction N with
  | zero => intro _ _ _ _ _ _ _ _ _ _ h; omega
  | succ N ih =>
    intro x A n c S A2 n2 c2 S2 w hN ht hl
    have IH := Lib.hid ih; clear ih
    have hn1 := ht.sl.1
    have hn2 := hl.1
    have hcap : x.l.length ≤ c ∧ c ≤ 9223372036854775807 := ⟨ht.sl.2.1, ht.sl.2.2.1⟩
    have hcap2 : x.l.length ≤ c2 ∧ c2 ≤ 9223372036854775807 := ⟨hl.2.1, hl.2.2.1⟩
    subst hn1 hn2
    obtain ⟨k, f, t, a, b, l⟩ := x
    have hT := fun h => ht.at_ h
    have HT := Lib.hid ht
    simp only [Ex.k, Ex.f, Ex.t, Ex.a, Ex.b, Ex.l] at hl hcap hcap2 ⊢
    have HK : Hid (∀ x ∈ l, SizeOf.sizeOf x < N) := Lib.hid fun x hx => by have := Ex.lt_of_mem hx k f t a b; omega
    have hb := (Blk.new w 25 #[.int .i64 k, .int .i64 f, .int .i64 t, .int .i64 a, .int .i64 b, .slice A l.length c]).alloc (.cells #[.int .i64 k, .int .i64 f, .int .i64 t, .int .i64 a, .int .i64 b, .slice A2 l.length c2] 25)
    have hb2 := Blk.new' (w := w.alloc (.cells #[.int .i64 k, .int .i64 f, .int .i64 t, .int .i64 a, .int .i64 b, .slice A l.length c] 25)) (g := w.heap.size + 1) (t := 25) (cs := #[.int .i64 k, .int .i64 f, .int .i64 t, .int .i64 a, .int .i64 b, .slice A2 l.length c2]) (by simp)
    have hc0 : Chg No w ((w.alloc (.cells #[.int .i64 k, .int .i64 f, .int .i64 t, .int .i64 a, .int .i64 b, .slice A l.length c] 25)).alloc (.cells #[.int .i64 k, .int .i64 f, .int .i64 t, .int .i64 a, .int .i64 b, .slice A2 l.length c2] 25)) := ((Chg.refl _ _).alloc _).alloc _
    by_cases h0 : l = []
    · subst h0
      clear hT
      go_enter Tryd.func52, Tryd.ntmps52
      go_wp2
      go_ret
      exact ⟨rfl, hc0⟩
    · have hpos : ((l.length : Int) == 0) = false := by rw [beq_eq_false_iff_ne]; have := List.length_pos_iff.2 h0; omega
      obtain ⟨_, h4096, g, rfl, rfl, hmk, hel⟩ := hT h0
      have hmk' := (hc0.below.cell (World.block_lt_of_cell? _ _ hmk)).trans hmk
      have HE := Lib.hid hel
      clear hT hel
      go_enter Tryd.func52, Tryd.ntmps52
      go_wp2_with fail
      go_loopw [7] (fun v7 wr => ∃ i : Nat, i ≤ l.length ∧ v7 = .int .i64 (i : Int) ∧ Chg No ((w.alloc (.cells #[.int .i64 k, .int .i64 f, .int .i64 t, .int .i64 a, .int .i64 b, .slice (some ⟨g, 0, none⟩) l.length (l.length + 1)] 25)).alloc (.cells #[.int .i64 k, .int .i64 f, .int .i64 t, .int .i64 a, .int .i64 b, .slice A2 l.length c2] 25)) wr) (fun v _ => l.length - (intOf v).toNat)
      case atStart => exact ⟨0, Nat.zero_le _, rfl, Chg.refl No _⟩
      case round =>
        obtain ⟨i, hi, rfl, hc⟩ := hrel
        have z5 := (hb2.chg hc id).cell 5
        simp only [List.getElem?_toArray, List.getElem?_cons_zero, List.getElem?_cons_succ] at z5
        by_cases hlt : i < l.length
        · obtain ⟨A', c', e0, e1, e2, e3, e4, e5, htw⟩ := HE.out i hlt
          have hlt1 : i < l.length + 1 := by omega
          have hlt2 : (i : Int) < (l.length : Int) + 1 := by omega
          have hlt3 : (i : Int) ≤ (l.length : Int) := by omega
          have hlt4 : decide ((i : Int) < (l.length : Int) + 1) = true := by simp; omega
          have hcw := hc0.trans hc
          have car : ∀ {p : Addr} {v : Value}, w.cell? p = some v → wr.cell? p = some v := fun h => (hcw.below.cell (World.block_lt_of_cell? _ _ h)).trans h
          replace e0 := car e0
          replace e1 := car e1
          replace e2 := car e2
          replace e3 := car e3
          replace e4 := car e4
          replace e5 := car e5
          obtain ⟨g2, o2, A'', c'', rfl, hS2, x0, x1, x2, x3, x4, x5, hx⟩ := (hl.chgNo hcw).at_ i hlt
          have hcall := IH.out l[i] A' l[i].l.length c' S A'' l[i].l.length c'' S2 wr.drew (HK.out _ (List.getElem_mem hlt)) (htw.chgNo hcw.drew) (hx.chgNo ((Chg.refl No wr).drew))
          clear car
          go_wp2_with fail
          go_still_tail 9, (by kernel_rfl)
          go_wp2_with fail
          refine hcall.mono ?_
          rintro e w1 ⟨rfl, hc1⟩
          go_wp2
          exact ⟨⟨i + 1, by omega, by go_num, hc.trans (((Chg.refl No wr).drew).trans hc1)⟩, by simp [intOf]; omega⟩
        · obtain rfl : i = l.length := by omega
          go_wp2
          go_ret
          exact ⟨rfl, hc0.trans hc⟩

theorem flatB_nodes {x : Ex} (h : flatB x = true) : nodesP x ≤ 4096 := by
  unfold flatB guardP at h
  by_cases q : 4096 < nodesP x
  · rw [if_pos q] at h; simp at h
  · omega
/-- a pattern's list as TwinExpr hands it out: a copy, where it may be copied -/
def MineAt (w : World) (base : Nat) (x : Ex) (A : Option Addr) (c : Nat) : Prop := (flatB x = true → TwAt w x (fun k => base ≤ k) A x.l.length c) ∧ Sl w (fun _ => True) A x.l.length c x.l
theorem MineAt.chgNo {w w' : World} {base : Nat} {x : Ex} {A : Option Addr} {c : Nat} (h : MineAt w base x A c) (hc : Chg No w w') : MineAt w' base x A c := ⟨fun q => (h.1 q).chgNo hc, h.2.chgNo hc⟩
def MinePost (w : World) (x : Ex) (e : Ending) (w' : World) : Prop :=
  ∃ A c, e = .returned (.agg #[.int .i64 x.k, .int .i64 x.f, .int .i64 x.t, .int .i64 x.a, .int .i64 x.b, .slice A x.l.length c]) ∧ MineAt w' w.heap.size x A c ∧ Chg No w w'

set_option maxHeartbeats 1000000 in
set_option maxRecDepth 100000 in
theorem TwinExpr_any (x : Ex) (A : Option Addr) (n c : Nat) (S : Nat → Prop) (w : World) (hl : Sl w S A n c x.l) (hsm : lenOk x) :
    Calls Tryd.prog 16 #[.agg #[.int .i64 x.k, .int .i64 x.f, .int .i64 x.t, .int .i64 x.a, .int .i64 x.b, .slice A n c]] w (MinePost w x) := by
  have hn := hl.1
  subst hn
  have hb := (Blk.new w 25 #[.int .i64 x.k, .int .i64 x.f, .int .i64 x.t, .int .i64 x.a, .int .i64 x.b, .slice A x.l.length c]).alloc (.cells #[.int .i64 0, .int .i64 0, .int .i64 0, .int .i64 0, .int .i64 0, .slice none 0 0] 25)
  have hb2 := Blk.new' (w := w.alloc (.cells #[.int .i64 x.k, .int .i64 x.f, .int .i64 x.t, .int .i64 x.a, .int .i64 x.b, .slice A x.l.length c] 25)) (g := w.heap.size + 1) (t := 25) (cs := #[.int .i64 0, .int .i64 0, .int .i64 0, .int .i64 0, .int .i64 0, .slice none 0 0]) (by simp)
  have hc0 : Chg No w ((w.alloc (.cells #[.int .i64 x.k, .int .i64 x.f, .int .i64 x.t, .int .i64 x.a, .int .i64 x.b, .slice A x.l.length c] 25)).alloc (.cells #[.int .i64 0, .int .i64 0, .int .i64 0, .int .i64 0, .int .i64 0, .slice none 0 0] 25)) := ((Chg.refl _ _).alloc _).alloc _
  have hfl := Flat_any x A _ c S _ (hl.chgNo hc0) hsm
  have htw := fun (h : flatB x = true) w1 (hc : Chg No w w1) => twin_any _ x A _ c S w1 (Nat.lt_succ_self _) (flatB_nodes h) (hl.chgNo hc)
  have hM : ∀ B A' c' w', flatB x = B → (B = true → TwAt w' x (fun k => w.heap.size ≤ k) A' x.l.length c') → Sl w' (fun _ => True) A' x.l.length c' x.l → MineAt w' w.heap.size x A' c' := fun B A' c' w' hB h1 h2 => ⟨fun q => h1 (by rw [← hB]; exact q), h2⟩
  obtain ⟨B, hB⟩ : ∃ B, flatB x = B := ⟨_, rfl⟩
  replace hM := fun A' c' w' => hM B A' c' w' hB
  rw [hB] at hfl htw
  have HL := Lib.hid hl
  clear hB hl
  go_enter Tryd.func16, Tryd.ntmps16
  go_wp2_with fail
  refine hfl.mono ?_
  rintro e w1 ⟨rfl, hc1⟩
  have hb1 := hb.chg hc1 id
  have hr1 := hb2.chg hc1 id
  have k1 := hc0.trans hc1
  obtain ⟨y0, y1, y2, y3, y4, y5⟩ := ex_cells hb1
  cases B with
  | false =>
    go_wp2_with (refine wpList_store_ex rfl _ _ rfl (w.heap.size + 1) _ _ _ _ _ _ hr1 rfl x.k x.f x.t x.a x.b A x.l.length c rfl ?_; intro w4 hB4 hC4)
    have k4 := k1.then_ hC4 fun j hj e => by have e' : j = w.heap.size + 1 := e; omega
    refine bodyPost_ret_ex rfl rfl rfl hB4 ⟨A, c, rfl, hM _ _ _ (fun q => by cases q) ((HL.out.chgNo k4).mono fun _ _ => trivial), k4⟩
  | true =>
    have ht := htw rfl w1 k1
    go_wp2_with fail
    refine ht.mono ?_
    rintro e w2 ⟨A2, c2, rfl, hTw, hc2⟩
    have hr2 := hr1.chg hc2 id
    go_wp2_with (refine wpList_store_ex rfl _ _ rfl (w.heap.size + 1) _ _ _ _ _ _ hr2 rfl x.k x.f x.t x.a x.b A2 x.l.length c2 rfl ?_; intro w4 hB4 hC4)
    have hz1 := k1.size
    have hlt1 := hr1.lt
    have k4 := (k1.trans hc2).then_ hC4 fun j hj e => by have e' : j = w.heap.size + 1 := e; omega
    have hT4 := hTw.chg hC4 fun k hk e => by have e' : k = w.heap.size + 1 := e; omega
    refine bodyPost_ret_ex rfl rfl rfl hB4 ⟨A2, c2, rfl, hM _ _ _ (fun _ => hT4.mono fun k hk => by omega) ((hT4.sl).mono fun _ _ => trivial), k4⟩

set_option maxHeartbeats 1000000 in
set_option maxRecDepth 100000 in
theorem KeptExpr_any (x : Ex) (base : Nat) (A : Option Addr) (c : Nat) (A2 : Option Addr) (n2 c2 : Nat) (S2 : Nat → Prop) (w : World) (hm : MineAt w base x A c) (hl : Sl w S2 A2 n2 c2 x.l) (hsm : lenOk x) :
    Calls Tryd.prog 19 #[.agg #[.int .i64 x.k, .int .i64 x.f, .int .i64 x.t, .int .i64 x.a, .int .i64 x.b, .slice A x.l.length c], .agg #[.int .i64 x.k, .int .i64 x.f, .int .i64 x.t, .int .i64 x.a, .int .i64 x.b, .slice A2 n2 c2]] w
      fun e w' => e = .returned (.bool true) ∧ Chg No w w' := by
  have hn := hl.1
  subst hn
  have hb := (Blk.new w 25 #[.int .i64 x.k, .int .i64 x.f, .int .i64 x.t, .int .i64 x.a, .int .i64 x.b, .slice A x.l.length c]).alloc (.cells #[.int .i64 x.k, .int .i64 x.f, .int .i64 x.t, .int .i64 x.a, .int .i64 x.b, .slice A2 x.l.length c2] 25)
  have hb2 := Blk.new' (w := w.alloc (.cells #[.int .i64 x.k, .int .i64 x.f, .int .i64 x.t, .int .i64 x.a, .int .i64 x.b, .slice A x.l.length c] 25)) (g := w.heap.size + 1) (t := 25) (cs := #[.int .i64 x.k, .int .i64 x.f, .int .i64 x.t, .int .i64 x.a, .int .i64 x.b, .slice A2 x.l.length c2]) (by simp)
  have hc0 : Chg No w ((w.alloc (.cells #[.int .i64 x.k, .int .i64 x.f, .int .i64 x.t, .int .i64 x.a, .int .i64 x.b, .slice A x.l.length c] 25)).alloc (.cells #[.int .i64 x.k, .int .i64 x.f, .int .i64 x.t, .int .i64 x.a, .int .i64 x.b, .slice A2 x.l.length c2] 25)) := ((Chg.refl _ _).alloc _).alloc _
  have hfl := Flat_any x A2 _ c2 S2 _ (hl.chgNo hc0) hsm
  have hke := fun (h : flatB x = true) w1 (hc : Chg No w w1) => kept_any _ x A x.l.length c (fun k => base ≤ k) A2 x.l.length c2 S2 w1 (Nat.lt_succ_self _) ((hm.1 h).chgNo hc) (hl.chgNo hc)
  obtain ⟨B, hB⟩ : ∃ B, flatB x = B := ⟨_, rfl⟩
  rw [hB] at hfl hke
  clear hB hm hl
  go_enter Tryd.func19, Tryd.ntmps19
  go_wp2_with fail
  refine hfl.mono ?_
  rintro e w1 ⟨rfl, hc1⟩
  have k1 := hc0.trans hc1
  obtain ⟨y0, y1, y2, y3, y4, y5⟩ := ex_cells (hb.chg hc1 id)
  obtain ⟨z0, z1, z2, z3, z4, z5⟩ := ex_cells (hb2.chg hc1 id)
  cases B with
  | false =>
    go_wp2
    go_ret
    exact ⟨rfl, k1⟩
  | true =>
    have hk := hke rfl w1 k1
    go_wp2_with fail
    refine hk.mono ?_
    rintro e w2 ⟨rfl, hc2⟩
    go_wp2
    go_ret
    exact ⟨rfl, k1.trans hc2⟩
end Go.Proofs.YticipgjbgcdccaaDoor
