/- graftref2's printer: among, printable, plain, coded, inClass, member, ranges, decimal: contracts.
   graftref2's reader: its state and small methods: contracts.
   graftref2's reader: escape, one, number: contracts.
   graftref2's reader: one, number, braces: contracts.
   graftref2's reader: number, braces: contracts.
   graftref2's reader: either, others: contracts.
   graftref2's reader: class: contract. -/
import Derived.Test.YticipgjbgcdccaaDoorZ4
import Derived.Test.YticipgjbgcdccaaDoorZ9
import Derived.Deep.RegionHeld3
import Derived.Test.YticipgjbgcdccaaDoorZ13
set_option linter.unusedSimpArgs false
set_option linter.unusedVariables false
namespace Go.Proofs.YticipgjbgcdccaaDoor
open Go.RowKit

set_option maxRecDepth 100000 in
theorem among_any (s : ByteArray) (c : Nat) (w : World) (hs : s.size ≤ 65536) :
    Calls Tryd.prog 107 #[.int .u8 (c : Int), .string s] w fun e w' => e = .returned (.bool (hasP s.data.toList c)) ∧ w = w' := by
  go_enter Tryd.func107, Tryd.ntmps107
  go_wp2
  go_loop [5] (fun v => ∃ i : Nat, i ≤ s.size ∧ v = .int .i64 (i : Int) ∧ hasP (s.data.toList.take i) c = false) (fun v => s.size - (intOf v).toNat)
  case atStart => exact ⟨0, Nat.zero_le _, rfl, by simp [hasP]⟩
  case round =>
    obtain ⟨i, hi, rfl, hn⟩ := hrel
    have HN := Lib.hid hn; clear hn
    by_cases hlt : i < s.size
    · have hd : i < s.data.toList.length := by simpa using hlt
      have ht : hasP (s.data.toList.take (i + 1)) c = (hasP (s.data.toList.take i) c || (s[i].toNat == c)) := by
        unfold hasP; rw [List.take_succ_eq_append_getElem hd, List.any_append]; simp; rfl
      have HT := Lib.hid ht; clear ht
      by_cases he : s[i].toNat = c
      · have e1 : ((s[i].toNat : Int) == (c : Int)) = true := by simp [he]
        have HE := Lib.hid he; clear he
        go_wp2
        go_ret
        refine ⟨congrArg _ (congrArg Value.bool ?_), rfl⟩
        have : hasP s.data.toList c = true := by
          unfold hasP
          rw [List.any_eq_true]
          exact ⟨s[i], Array.mem_toList_iff.2 (Array.getElem_mem (xs := s.data) hlt), by simpa using HE.out⟩
        rw [this]
      · have e1 : ((s[i].toNat : Int) == (c : Int)) = false := by simp; omega
        have HE := Lib.hid he; clear he
        go_wp2
        exact ⟨⟨i + 1, by omega, by go_num, by rw [HT.out, HN.out]; simpa using HE.out⟩, by simp [intOf]; omega⟩
    · go_wp2
      go_ret
      refine ⟨congrArg _ (congrArg Value.bool ?_), rfl⟩
      have := HN.out
      rw [List.take_of_length_le (by simp; omega)] at this
      rw [this]
theorem rprintable_any (c : Nat) (w : World) :
    Calls Tryd.prog 115 #[.int .u8 (c : Int)] w fun e w' => e = .returned (.bool (printableP c)) ∧ w = w' := by
  go_enter Tryd.func115, Tryd.ntmps115
  go_wp2
  all_goals
    go_ret
    refine ⟨congrArg _ (congrArg Value.bool ?_), rfl⟩
    rw [Bool.eq_iff_iff]; simp [printableP]; omega
theorem among_signs (c : Nat) (w : World) :
    Calls Tryd.prog 107 #[.int .u8 (c : Int), .string ⟨#[40, 41, 91, 93, 123, 125, 46, 124, 42, 43, 63, 92, 47, 94, 36]⟩] w fun e w' => e = .returned (.bool (hasP signsP c)) ∧ w = w' :=
  among_any _ c w (by simp [ByteArray.size])
def classSigns5 : List UInt8 := [93, 92, 45, 47, 94]
theorem among_class (c : Nat) (w : World) :
    Calls Tryd.prog 107 #[.int .u8 (c : Int), .string ⟨#[93, 92, 45, 47, 94]⟩] w fun e w' => e = .returned (.bool (hasP classSigns5 c)) ∧ w = w' :=
  among_any _ c w (by simp [ByteArray.size])
theorem rplain_any (c : Nat) (w : World) :
    Calls Tryd.prog 83 #[.int .u8 (c : Int)] w fun e w' => e = .returned (.bool (plainP c)) ∧ w = w' := by
  have hp : plainP c = (printableP c && !hasP signsP c) := rfl
  rw [hp]; clear hp
  obtain ⟨b1, h1⟩ : ∃ b, printableP c = b := ⟨_, rfl⟩
  rw [h1]
  cases b1 with
  | true =>
    go_enter Tryd.func83, Tryd.ntmps83
    go_wp2_with (first | (go_at_call 115; refine (rprintable_any c _).mono ?_; rintro e w' ⟨rfl, rfl⟩) | (go_at_call 107; refine (among_signs c _).mono ?_; rintro e w' ⟨rfl, rfl⟩))
    go_ret
    exact ⟨by simp, rfl⟩
  | false =>
    go_enter Tryd.func83, Tryd.ntmps83
    go_wp2_with (go_at_call 115; refine (rprintable_any c _).mono ?_; rintro e w' ⟨rfl, rfl⟩)
    go_ret
    exact ⟨by simp, rfl⟩

theorem hexS_one : ∀ m : Fin 16, hexS.extract m.val (m.val + 1) = b1 (hexd m.val) := by decide +kernel
theorem hex_slice (m : Nat) (hm : m < 16) (w : World) : (Instr.slice 9 (.string hexS) (some (.int .i64 (m : Int))) (some (.int .i64 ((m : Int) + 1))) none).run Tryd.prog w = .ok (.string (b1 (hexd m))) w := by
  have h := run_slice_string (P := Tryd.prog) w 9 hexS .i64 .i64 (m : Int) ((m : Int) + 1) Tryd.underlying9 (by omega) (by omega) (by have : hexS.size = 16 := rfl; omega)
  rw [h]
  have e : ((m : Int) + 1).toNat = m + 1 := by omega
  rw [e]
  exact congrArg (fun s => Result.ok (Value.string s) w) (hexS_one ⟨m, hm⟩)
theorem b2_split (c d : Nat) : b2 c d = b1 c ++ b1 d := by
  apply ByteArray.ext
  simp [b2, b1]

set_option maxHeartbeats 2000000 in
set_option maxRecDepth 100000 in
theorem coded_any (c : Nat) (w : World) (hc : c < 256) :
    Calls Tryd.prog 84 #[.int .i64 (c : Int)] w fun e w' => e = .returned (.string (escapedP c)) ∧ Chg No w w' := by
  obtain ⟨k0, h0⟩ : ∃ b : Bool, ((c : Int) == 10) = b := ⟨_, rfl⟩
  obtain ⟨k1, h1⟩ : ∃ b : Bool, ((c : Int) == 13) = b := ⟨_, rfl⟩
  obtain ⟨k2, h2⟩ : ∃ b : Bool, ((c : Int) == 9) = b := ⟨_, rfl⟩
  have hm8 : (c : Int) % 256 = c := by omega
  go_enter Tryd.func84, Tryd.ntmps84
  cases k0 with
  | true =>
    go_wp2
    go_ret
    refine ⟨?_, Chg.refl _ _⟩
    unfold escapedP
    rw [if_pos (by simp at h0; omega)]; rfl
  | false =>
  cases k1 with
  | true =>
    go_wp2
    go_ret
    refine ⟨?_, Chg.refl _ _⟩
    unfold escapedP
    rw [if_neg (by simp at h0; omega), if_pos (by simp at h1; omega)]; rfl
  | false =>
  cases k2 with
  | true =>
    go_wp2
    go_ret
    refine ⟨?_, Chg.refl _ _⟩
    unfold escapedP
    rw [if_neg (by simp at h0; omega), if_neg (by simp at h1; omega), if_pos (by simp at h2; omega)]; rfl
  | false =>
  by_cases q : 32 < c ∧ c ≤ 126
  · obtain ⟨q1, q2⟩ := q
    have kc := conv_b1 c w hc
    have ks : (b1 c).size = 1 := rfl
    go_wp2
    go_ret
    refine ⟨?_, (Chg.refl _ _).alloc _⟩
    unfold escapedP
    rw [if_neg (by simp at h0; omega), if_neg (by simp at h1; omega), if_neg (by simp at h2; omega), if_pos ⟨q1, q2⟩]; rfl
  · have q3 : c ≤ 32 ∨ 126 < c := by omega
    have hfin : escapedP c = ⟨#[92, 120]⟩ ++ b1 (hexd (c / 16)) ++ b1 (hexd (c % 16)) := by
      unfold escapedP
      rw [if_neg (by simp at h0; omega), if_neg (by simp at h1; omega), if_neg (by simp at h2; omega), if_neg q, b2_split, ByteArray.append_assoc]
    have HF := Lib.hid hfin
    clear hfin q
    have hq : (c : Int).tdiv 16 = ((c / 16 : Nat) : Int) := by rw [Int.tdiv_eq_ediv_of_nonneg (by omega)]; omega
    have hm : (c : Int).tmod 16 = ((c % 16 : Nat) : Int) := by rw [Int.tmod_eq_emod_of_nonneg (by omega)]; omega
    have i0 := fun w : World => hex_slice (c / 16) (by omega) w
    have i1 := fun w : World => hex_slice (c % 16) (by omega) w
    have hp16 : c / 16 < 16 := by omega
    have hq16 : c % 16 < 16 := by omega
    obtain ⟨p, hp⟩ : ∃ p, c / 16 = p := ⟨_, rfl⟩
    obtain ⟨q, hq'⟩ : ∃ q, c % 16 = q := ⟨_, rfl⟩
    rw [hp] at hq i0 hp16 HF
    rw [hq'] at hm i1 hq16 HF
    clear hp hq'
    simp only [hexS] at i0 i1
    obtain ⟨d0, e0⟩ : ∃ d, b1 (hexd p) = d := ⟨_, rfl⟩
    obtain ⟨d1, e1⟩ : ∃ d, b1 (hexd q) = d := ⟨_, rfl⟩
    have s0 : d0.size = 1 := by rw [← e0]; rfl
    have s1 : d1.size = 1 := by rw [← e1]; rfl
    rw [e0] at i0 HF
    rw [e1] at i1 HF
    clear e0 e1
    rcases q3 with q3 | q3
    all_goals
      go_wp2
      go_region
      all_goals
        go_wp2
        go_ret
        exact ⟨by rw [HF.out]; rfl, (Chg.refl _ _).drew⟩

theorem inClass_eq (c : Nat) : (printableP c && !hasP classSigns5 c) = (printableP c && (c != 94) && !hasP classSignsP c) := by
  unfold hasP classSigns5 classSignsP
  simp only [List.any_cons, List.any_nil]
  cases printableP c
  · rfl
  · rw [Bool.eq_iff_iff]; simp; omega
set_option maxHeartbeats 1000000 in
set_option maxRecDepth 100000 in
theorem inClass_any (c : Nat) (w : World) (hc : c < 256) :
    Calls Tryd.prog 116 #[.int .i64 (c : Int)] w fun e w' => e = .returned (.string (memberP c)) ∧ Chg No w w' := by
  have hm8 : (c : Int) % 256 = c := by omega
  have HF := Lib.hid (show memberP c = if (printableP c && !hasP classSigns5 c) = true then b1 c else escapedP c by rw [inClass_eq]; rfl)
  have kc := conv_b1 c w hc
  have hk := coded_any c w hc
  obtain ⟨z1, h1⟩ : ∃ b, printableP c = b := ⟨_, rfl⟩
  obtain ⟨z2, h2⟩ : ∃ b, hasP classSigns5 c = b := ⟨_, rfl⟩
  have hp := rprintable_any c w
  have ha := among_class c w
  rw [h1] at hp HF
  rw [h2] at ha HF
  clear h1 h2
  go_enter Tryd.func116, Tryd.ntmps116
  cases z1 <;> cases z2
  all_goals
    go_wp2_with (first | (go_at_call 115; refine hp.mono ?_; rintro e w' ⟨rfl, rfl⟩) | (go_at_call 107; refine ha.mono ?_; rintro e w' ⟨rfl, rfl⟩) | (go_at_call 84; refine hk.mono ?_; rintro e w1 ⟨rfl, hC⟩))
    go_ret
    refine ⟨by rw [HF.out]; rfl, ?_⟩
    first | exact hC | exact (Chg.refl _ _).alloc _

/-- a member of a class -/
def memP (x : Ex) : ByteArray := if x.f = x.t then memberP x.f.toNat else memberP x.f.toNat ++ ⟨#[45]⟩ ++ memberP x.t.toNat
theorem memP_size (x : Ex) : (memP x).size ≤ 9 := by
  unfold memP
  have h1 := (memberP_size x.f.toNat).1
  have h2 := (memberP_size x.t.toNat).1
  split
  · omega
  · rw [ByteArray.size_append, ByteArray.size_append]
    have : (⟨#[45]⟩ : ByteArray).size = 1 := rfl
    omega
set_option maxHeartbeats 1000000 in
set_option maxRecDepth 100000 in
theorem rmember_any (x : Ex) (hx : rangeOk x) (A : Option Addr) (n c : Nat) (w : World) :
    Calls Tryd.prog 85 #[.agg #[.int .i64 x.k, .int .i64 x.f, .int .i64 x.t, .int .i64 x.a, .int .i64 x.b, .slice A n c]] w fun e w' => e = .returned (.string (memP x)) ∧ Chg No w w' := by
  have HF := Lib.hid (show memP x = if x.f = x.t then memberP x.f.toNat else memberP x.f.toNat ++ ⟨#[45]⟩ ++ memberP x.t.toNat from rfl)
  obtain ⟨k, f, t, a, b, l⟩ := x
  obtain ⟨x1, x2, x3⟩ := hx
  simp only [Ex.k, Ex.f, Ex.t, Ex.a, Ex.b, Ex.l] at x1 x2 x3 HF ⊢
  obtain ⟨f, rfl⟩ : ∃ m : Nat, f = (m : Int) := ⟨f.toNat, by omega⟩
  obtain ⟨t, rfl⟩ : ∃ m : Nat, t = (m : Int) := ⟨t.toNat, by omega⟩
  rw [show (f : Int).toNat = f from rfl, show (t : Int).toNat = t from rfl] at HF
  have hb := Blk.new w 25 #[.int .i64 k, .int .i64 (f : Int), .int .i64 (t : Int), .int .i64 a, .int .i64 b, .slice A n c]
  have hc0 : Chg No w (w.alloc (.cells #[.int .i64 k, .int .i64 (f : Int), .int .i64 (t : Int), .int .i64 a, .int .i64 b, .slice A n c] 25)) := (Chg.refl _ _).alloc _
  obtain ⟨y0, y1, y2, y3, y4, y5⟩ := ex_cells hb
  have g1 := fun w' => inClass_any f w' (by omega)
  have g2 := fun w' => inClass_any t w' (by omega)
  have z1 := (memberP_size f).1
  have z2 := (memberP_size t).1
  obtain ⟨M1, e1⟩ : ∃ M, memberP f = M := ⟨_, rfl⟩
  obtain ⟨M2, e2⟩ : ∃ M, memberP t = M := ⟨_, rfl⟩
  rw [e1] at g1 z1
  rw [e2] at g2 z2
  rw [e1, e2] at HF
  clear e1 e2
  by_cases q : f = t
  · have e1 : ((f : Int) == (t : Int)) = true := by simp; omega
    have HG : Hid (memP (.mk k f t a b l) = M1) := Lib.hid (HF.out.trans (if_pos (by omega)))
    clear q g2 HF
    go_enter Tryd.func85, Tryd.ntmps85
    go_wp2_with (go_at_call 116; refine (g1 _).mono ?_; rintro e w1 ⟨rfl, hC⟩)
    go_ret
    exact ⟨by rw [HG.out]; rfl, hc0.trans hC⟩
  · have e1 : ((f : Int) == (t : Int)) = false := by simp; omega
    have HG : Hid (memP (.mk k f t a b l) = M1 ++ ⟨#[45]⟩ ++ M2) := Lib.hid (HF.out.trans (if_neg (by omega)))
    clear q HF
    go_enter Tryd.func85, Tryd.ntmps85
    have hb1 : ¬ 9223372036854775807 < M1.size + 1 := by omega
    have hb2 : ¬ 9223372036854775807 < M1.size + 1 + M2.size := by omega
    clear y0 y3 y4 y5
    go_wp2_with fail
    generalize w.alloc (.cells #[.int .i64 k, .int .i64 (f : Int), .int .i64 (t : Int), .int .i64 a, .int .i64 b, .slice A n c] 25) = W0 at *
    have KS : Hid (∀ w', Chg No W0 w' → Chg No W0 w' ∧ w'.cell? ⟨w.heap.size, 1, none⟩ = some (.int .i64 (f : Int)) ∧ w'.cell? ⟨w.heap.size, 2, none⟩ = some (.int .i64 (t : Int))) := Lib.hid fun w' h => ⟨h, (ex_cells (hb.chg h id)).2.1, (ex_cells (hb.chg h id)).2.2.1⟩
    have hD : Chg No W0 W0.drew := (Chg.refl No W0).drew
    clear y1 y2
    go_region_held3 (fun w' => Chg No W0 w' ∧ w'.cell? ⟨w.heap.size, 1, none⟩ = some (.int .i64 (f : Int)) ∧ w'.cell? ⟨w.heap.size, 2, none⟩ = some (.int .i64 (t : Int))) ((refine KS.out _ ?_; with_reducible assumption)) (first | (go_at_call 116; (with_reducible refine (g1 W0.drew).mono ?_); rintro e w1 ⟨rfl, hC1⟩; have hK1 := hD.trans hC1) | (go_at_call 116; (with_reducible refine (g2 w1).mono ?_); rintro e w2 ⟨rfl, hC2⟩; have hK2 := hK1.trans hC2))
    go_wp2
    go_ret
    exact ⟨by rw [HG.out]; rfl, hc0.trans hK2⟩

/-- are all of them single ranges -/
theorem ranges_any (x : Ex) (A : Option Addr) (n c : Nat) (S : Nat → Prop) (w : World) (hl : Sl w S A n c x.l) :
    Calls Tryd.prog 88 #[.agg #[.int .i64 x.k, .int .i64 x.f, .int .i64 x.t, .int .i64 x.a, .int .i64 x.b, .slice A n c]] w fun e w' => e = .returned (.bool (decide (x.k = 3) && classesP x.l)) ∧ Chg No w w' := by
  obtain ⟨q3, h3'⟩ : ∃ q : Bool, decide (x.k = 3) = q := ⟨_, rfl⟩
  rw [h3']
  have h3 : (x.k == 3) = q3 := by rw [← h3', Bool.eq_iff_iff]; simp
  clear h3'
  obtain ⟨k, f, t, a, b, l⟩ := x
  obtain ⟨rfl, hc1, hc2⟩ : n = l.length ∧ l.length ≤ c ∧ c ≤ 9223372036854775807 := ⟨hl.1, by have := hl.2.1; have := hl.1; simp only [Ex.l] at *; omega, hl.2.2.1⟩
  simp only [Ex.k, Ex.f, Ex.t, Ex.a, Ex.b, Ex.l] at hl h3 ⊢
  have hb := Blk.new w 25 #[.int .i64 k, .int .i64 f, .int .i64 t, .int .i64 a, .int .i64 b, .slice A l.length c]
  have hc0 : Chg No w (w.alloc (.cells #[.int .i64 k, .int .i64 f, .int .i64 t, .int .i64 a, .int .i64 b, .slice A l.length c] 25)) := (Chg.refl _ _).alloc _
  obtain ⟨y0, y1, y2, y3, y4, y5⟩ := ex_cells hb
  have hls := hl.chgNo hc0
  clear y1 y2 y3 y4
  go_enter Tryd.func88, Tryd.ntmps88
  go_wp2
  go_loop [3] (fun v => ∃ i : Nat, i ≤ l.length ∧ v = .int .i64 (i : Int) ∧ classesP (l.take i) = true) (fun v => l.length - (intOf v).toNat)
  case atStart => exact ⟨0, Nat.zero_le _, rfl, by simp [classesP]⟩
  case round =>
    obtain ⟨i, hi, rfl, hn⟩ := hrel
    have HN := Lib.hid hn; clear hn
    by_cases hlt : i < l.length
    · obtain ⟨g, o, A', c', rfl, hSg, x0, x1, x2, x3, x4, x5, hx⟩ := hls.at_ i hlt
      have ht : classesP (l.take (i + 1)) = (classesP (l.take i) && decide (l[i].k = 1)) := by
        unfold classesP; rw [List.take_succ_eq_append_getElem hlt, List.all_append]; simp
      have HT := Lib.hid ht; clear ht
      clear x1 x2 x3 x4 x5
      by_cases he : l[i].k = 1
      · have e1 : (l[i].k != 1) = false := by rw [he]; rfl
        have HE := Lib.hid he; clear he
        go_wp2
        exact ⟨⟨i + 1, by omega, by go_num, by rw [HT.out, HN.out, HE.out]; rfl⟩, by simp [intOf]; omega⟩
      · have e1 : (l[i].k != 1) = true := by simpa using he
        have hfin : classesP l = false := by
          have h1 : l = l.take (i + 1) ++ l.drop (i + 1) := (List.take_append_drop _ _).symm
          rw [h1]
          unfold classesP at HT ⊢
          rw [List.all_append, HT.out, decide_eq_false he]; simp
        have HF := Lib.hid hfin
        clear he hfin
        go_wp2
        go_ret
        exact ⟨by rw [HF.out]; simp, hc0⟩
    · obtain rfl : i = l.length := by omega
      have h2 := HN.out
      rw [List.take_of_length_le (Nat.le_refl _)] at h2
      have HF := Lib.hid h2
      clear h2
      go_wp2
      go_ret
      exact ⟨by rw [HF.out]; simp, hc0⟩

/-- a number's digits -/
def decP (n : Nat) : ByteArray := if n < 10 then b1 (48 + n) else decP (n / 10) ++ b1 (48 + n % 10)
termination_by n
decreasing_by omega
theorem decP_small {n : Nat} (h : n < 10) : decP n = b1 (48 + n) := by rw [decP, if_pos h]
theorem decP_step {n : Nat} (h : ¬ n < 10) : decP n = decP (n / 10) ++ b1 (48 + n % 10) := by rw [decP, if_neg h]
/-- the same by rounds -/
def decGo : Nat → Nat → ByteArray
  | 0, n => b1 (48 + n)
  | r + 1, n => if n < 10 then b1 (48 + n) else decGo r (n / 10) ++ b1 (48 + n % 10)
theorem decGo_eq : ∀ (r n : Nat), n < 10 ^ (r + 1) → decGo r n = decP n
  | 0, n, h => by rw [decP_small (by omega)]; rfl
  | r + 1, n, h => by
    unfold decGo
    by_cases q : n < 10
    · rw [if_pos q, decP_small q]
    · rw [if_neg q, decP_step q, decGo_eq r (n / 10) (by rw [Nat.pow_succ] at h; omega)]
theorem decGo_itoa : ∀ n : Fin 1001, decGo 3 n.val = itoaB (n.val : Int) := by decide +kernel
theorem decP_itoa {n : Nat} (h : n ≤ 1000) : decP n = itoaB (n : Int) := by
  rw [← decGo_eq 3 n (by omega)]
  exact decGo_itoa ⟨n, by omega⟩
theorem decP_size {n : Nat} (h : n ≤ 1000) : (decP n).size ≤ 4 := by
  rw [decP_itoa h]; exact itoaB_size n (by omega) (by omega)

set_option maxRecDepth 100000 in
/-- 'string([]byte{c})', the byte in block g -/
theorem conv_blk {w : World} {g c : Nat} {z : Int} (hb : Blk w g 5 #[.int .u8 z]) (hz : z = (c : Int)) (hc : c < 256) :
    (convert 41 9 (.slice (some ⟨g, 0, none⟩) 1 1)).run Tryd.prog w = .ok (.string (b1 c)) w := by
  subst hz
  refine run_convert_bytes_back (P := Tryd.prog) _ 41 9 5 ⟨g, 0, none⟩ 1 [UInt8.ofNat c] rfl rfl rfl ?_
  intro j hj
  simp at hj
  subst hj
  rw [add0, hb.cell]
  simp
  omega
set_option maxHeartbeats 2000000 in
set_option maxRecDepth 100000 in
theorem decimal_any : ∀ (N n : Nat) (w : World), n < N → n ≤ 1000 →
    Calls Tryd.prog 117 #[.int .i64 (n : Int)] w fun e w' => e = .returned (.string (decP n)) ∧ Chg No w w' := by
  intro N
  induction N with
  | zero => intro _ _ h; omega
  | succ N ih =>
    intro n w hN hn
    by_cases q : n < 10
    · have HF := decP_small q
      have hm8 : 48 + n < 256 := by omega
      have kc := conv_blk (Blk.new w 5 #[.int .u8 (48 + (n : Int))]) (c := 48 + n) (by omega) hm8
      have HF := Lib.hid HF
      clear ih
      go_enter Tryd.func117, Tryd.ntmps117
      go_wp2
      go_ret
      exact ⟨by rw [HF.out]; rfl, (Chg.refl _ _).alloc _⟩
    · have HF := decP_step q
      have hq : (n : Int).tdiv 10 = ((n / 10 : Nat) : Int) := by rw [Int.tdiv_eq_ediv_of_nonneg (by omega)]; omega
      have hm : (n : Int).tmod 10 = ((n % 10 : Nat) : Int) := by rw [Int.tmod_eq_emod_of_nonneg (by omega)]; omega
      have IH := fun w' => ih (n / 10) w' (by omega) (by omega)
      have hz := decP_size (n := n / 10) (by omega)
      have hr10 : n % 10 < 10 := by omega
      obtain ⟨p, hp⟩ : ∃ p, n / 10 = p := ⟨_, rfl⟩
      obtain ⟨r, hr⟩ : ∃ r, n % 10 = r := ⟨_, rfl⟩
      rw [hp] at hq IH hz HF
      rw [hr] at hm hr10 HF
      obtain ⟨D, hD⟩ : ∃ D, decP p = D := ⟨_, rfl⟩
      rw [hD] at IH hz HF
      have hm8 : 48 + r < 256 := by omega
      obtain ⟨M, hM⟩ : ∃ M, b1 (48 + r) = M := ⟨_, rfl⟩
      have hM1 : M.size = 1 := by rw [← hM]; rfl
      have hbig : ¬ 9223372036854775807 < D.size + 1 := by omega
      rw [hM] at HF
      have HF := Lib.hid HF
      have HM := Lib.hid hM
      have HI := Lib.hid IH
      have k0 := conv_blk (w := (w.alloc (.cells #[.int .u8 (48 + (r : Int))] 5)).drew) (g := w.heap.size) ((Blk.new w 5 #[.int .u8 (48 + (r : Int))]).drew) (c := 48 + r) (by omega) hm8
      rw [hM] at k0
      have hpb : p ≤ 100 := by omega
      have w1 : IntKind.i64.wrap (p : Int) = (p : Int) := by simp [IntKind.wrap, IntKind.bits, IntKind.signed]; omega
      have w2 : IntKind.i64.wrap (48 + (r : Int)) = 48 + (r : Int) := by simp [IntKind.wrap, IntKind.bits, IntKind.signed]; omega
      have w3 : IntKind.u8.wrap (48 + (r : Int)) = 48 + (r : Int) := by simp [IntKind.wrap, IntKind.bits, IntKind.signed]; omega
      clear hp hr hD ih hM IH
      have hD1 : Chg No w w.drew := (Chg.refl No w).drew
      have hD2 : Chg No w (w.alloc (.cells #[.int .u8 (48 + (r : Int))] 5)).drew := ((Chg.refl No w).alloc _).drew
      go_enter Tryd.func117, Tryd.ntmps117
      go_wp2_with fail
      go_region_law (first | (go_simp; go_at_call 117; (with_reducible refine (HI.out w.drew).mono ?_); rintro e w1 ⟨rfl, hC⟩; have hK := hD1.trans hC; have k1 := conv_blk (Blk.new w1 5 #[.int .u8 (48 + (r : Int))]) (c := 48 + r) (by omega) hm8; rw [HM.out] at k1) | (go_simp; go_at_call 117; (with_reducible refine (HI.out (w.alloc (.cells #[.int .u8 (48 + (r : Int))] 5)).drew).mono ?_); rintro e w1 ⟨rfl, hC⟩; have hK := hD2.trans hC; have k1 := conv_blk (((Blk.new w 5 #[.int .u8 (48 + (r : Int))]).drew).chg hC id) (c := 48 + r) (by omega) hm8; rw [HM.out] at k1))
      all_goals
        go_wp2
        go_ret
        refine ⟨by rw [HF.out]; rfl, ?_⟩
        first | with_reducible exact hK | exact hK.alloc _
end Go.Proofs.YticipgjbgcdccaaDoor
namespace Go.Proofs.YticipgjbgcdccaaDoor
open Go.RowKit

/-- the reader's block: its text, its place, its fault and the fault's place -/
def RR (w : World) (r : Nat) (s : ByteArray) (i : Nat) (e : Int) (p : Nat) : Prop := Blk w r 77 #[.string s, .int .i64 (i : Int), .int .i64 e, .int .i64 (p : Int)]
namespace RR
variable {w w' : World} {r : Nat} {s : ByteArray} {i p : Nat} {e : Int}
theorem cells (h : RR w r s i e p) : w.cell? ⟨r, 0, none⟩ = some (.string s) ∧ w.cell? ⟨r, 1, none⟩ = some (.int .i64 (i : Int)) ∧ w.cell? ⟨r, 2, none⟩ = some (.int .i64 e) ∧ w.cell? ⟨r, 3, none⟩ = some (.int .i64 (p : Int)) :=
  ⟨(h.cell 0).trans rfl, (h.cell 1).trans rfl, (h.cell 2).trans rfl, (h.cell 3).trans rfl⟩
theorem froz (h : RR w r s i e p) : w.frozen? ⟨r, 1, none⟩ = false ∧ w.frozen? ⟨r, 2, none⟩ = false ∧ w.frozen? ⟨r, 3, none⟩ = false := ⟨h.frozen 1, h.frozen 2, h.frozen 3⟩
theorem chg {S : Nat → Prop} (h : RR w r s i e p) (hc : Chg S w w') (hn : ¬ S r) : RR w' r s i e p := Blk.chg h hc hn
theorem drewN (h : RR w r s i e p) (n : Nat) : RR (w.drewN n) r s i e p := h
theorem step (h : RR w r s i e p) : RR (w.setCell ⟨r, 1, none⟩ (.int .i64 ((i : Int) + 1))) r s (i + 1) e p := Blk.set_ h 1 _
theorem fault (h : RR w r s i e p) (c : Int) (q : Nat) : RR ((w.setCell ⟨r, 2, none⟩ (.int .i64 c)).setCell ⟨r, 3, none⟩ (.int .i64 (q : Int))) r s i c q := Blk.set_ (Blk.set_ h 2 _) 3 _
end RR

theorem one_self (r : Nat) : One r r := rfl
theorem rhas_any (w : World) (r : Nat) (s : ByteArray) (i : Nat) (e : Int) (p : Nat) (b : Bool) (h : RR w r s i e p) (hb : ((e == 0) && decide (i < s.size)) = b) :
    Calls Tryd.prog 45 #[.pointer (some ⟨r, 0, none⟩)] w fun e' w' => e' = .returned (.bool b) ∧ ∃ n, w' = w.drewN n := by
  obtain ⟨h0, h1, h2, _⟩ := h.cells
  obtain ⟨z, hz⟩ : ∃ z : Bool, (e == 0) = z := ⟨_, rfl⟩
  rw [hz] at hb
  clear h
  cases z with
  | false =>
    have hb : b = false := by rw [← hb]; rfl
    subst hb
    go_enter Tryd.func45, Tryd.ntmps45
    go_wp2
    go_quiet (fail)
    go_wp2
    go_ret
    exact ⟨rfl, nq, rfl⟩
  | true =>
    have hb : decide (i < s.size) = b := by rw [← hb]; simp
    go_enter Tryd.func45, Tryd.ntmps45
    go_wp2
    go_quiet (fail)
    go_wp2
    go_ret
    exact ⟨by simp [hb], nq, rfl⟩

theorem rnext_any (w : World) (r : Nat) (s : ByteArray) (i : Nat) (e : Int) (p c : Nat) (b : Bool) (h : RR w r s i e p) (hc : c < 256) (hb : ((e == 0) && decide (bt s i = c)) = b) :
    Calls Tryd.prog 110 #[.pointer (some ⟨r, 0, none⟩), .int .u8 (c : Int)] w fun e' w' => e' = .returned (.bool b) ∧ ∃ n, w' = w.drewN n := by
  obtain ⟨h0, h1, h2, _⟩ := h.cells
  by_cases hi : ((e == 0) && decide (i < s.size)) = true
  · have hlt : i < s.size := by simp at hi; exact hi.2
    have he : e = 0 := by simp at hi; exact hi.1
    have e1 : (((s[i].toNat : Int)) == (c : Int)) = b := by
      rw [bt_at s i hlt, ← hb, he, Bool.eq_iff_iff]; simp; omega
    have H := Lib.hid h
    have HI := Lib.hid hi
    clear hb hi he h
    go_enter Tryd.func110, Tryd.ntmps110
    go_wp2
    go_quiet ((go_at_call 45; exact Calls.quiet_of (rhas_any _ _ s i e p true (H.out.drewN _) HI.out)))
    go_wp2
    go_ret
    exact ⟨rfl, _, rfl⟩
  · have hi : ((e == 0) && decide (i < s.size)) = false := by simpa using hi
    have e1 : b = false := by
      rw [← hb]
      cases hz : (e == 0) with
      | false => rfl
      | true =>
        rw [hz] at hi
        have : ¬ i < s.size := by simpa using hi
        rw [bt_end s i (by omega)]; simp; omega
    subst e1
    have H := Lib.hid h
    have HI := Lib.hid hi
    clear hb hi h
    go_enter Tryd.func110, Tryd.ntmps110
    go_wp2
    go_quiet ((go_at_call 45; exact Calls.quiet_of (rhas_any _ _ s i e p false (H.out.drewN _) HI.out)))
    go_wp2
    go_ret
    exact ⟨rfl, _, rfl⟩
theorem rtook_yes (w : World) (r : Nat) (s : ByteArray) (i p c : Nat) (h : RR w r s i 0 p) (hs : s.size ≤ 65536) (hc : c < 256) (hb : bt s i = c) :
    Calls Tryd.prog 73 #[.pointer (some ⟨r, 0, none⟩), .int .u8 (c : Int)] w fun e' w' => e' = .returned (.bool true) ∧ RR w' r s (i + 1) 0 p ∧ Chg (One r) w w' := by
  have hi := bt_small hb hc
  have hn := fun w' (h' : RR w' r s i 0 p) => rnext_any w' r s i 0 p c true h' hc (by simpa using hb)
  obtain ⟨h0, h1, h2, _⟩ := h.cells
  obtain ⟨f1, f2, f3⟩ := h.froz
  clear hb
  go_enter Tryd.func73, Tryd.ntmps73
  go_wp2_with (go_at_call 110; refine (hn _ h).mono ?_; rintro e w1 ⟨rfl, n1, rfl⟩)
  go_ret
  exact ⟨rfl, (h.drewN _).step, ((Chg.refl _ _).drewN _).setCell _ fun _ => rfl⟩
theorem rtook_no (w : World) (r : Nat) (s : ByteArray) (i : Nat) (e : Int) (p c : Nat) (h : RR w r s i e p) (hc : c < 256) (hb : ((e == 0) && decide (bt s i = c)) = false) :
    Calls Tryd.prog 73 #[.pointer (some ⟨r, 0, none⟩), .int .u8 (c : Int)] w fun e' w' => e' = .returned (.bool false) ∧ ∃ n, w' = w.drewN n := by
  have hn := fun w' (h' : RR w' r s i e p) => rnext_any w' r s i e p c false h' hc hb
  clear hb
  go_enter Tryd.func73, Tryd.ntmps73
  go_wp2_with (go_at_call 110; refine (hn _ h).mono ?_; rintro e w1 ⟨rfl, n1, rfl⟩)
  go_ret
  exact ⟨rfl, _, rfl⟩
theorem rfail_ok (w : World) (r : Nat) (s : ByteArray) (i p : Nat) (c : Int) (q : Nat) (h : RR w r s i 0 p) :
    Calls Tryd.prog 75 #[.pointer (some ⟨r, 0, none⟩), .int .i64 c, .int .i64 (q : Int)] w fun e' w' => e' = .returned (.tuple #[]) ∧ RR w' r s i c q ∧ Chg (One r) w w' := by
  obtain ⟨h0, h1, h2, _⟩ := h.cells
  obtain ⟨f1, f2, f3⟩ := h.froz
  obtain ⟨_, _, _, g3⟩ := h.cells
  go_enter Tryd.func75, Tryd.ntmps75
  go_wp2
  go_end0
  refine ⟨rfl, h.fault c q, ?_⟩
  iterate 2 with_reducible refine Chg.setCell (S := One r) ?_ _ (fun _ => one_self r)
  exact Chg.refl _ _
theorem rfail_no (w : World) (r : Nat) (s : ByteArray) (i : Nat) (e : Int) (p : Nat) (c : Int) (q : Int) (h : RR w r s i e p) (he : e ≠ 0) :
    Calls Tryd.prog 75 #[.pointer (some ⟨r, 0, none⟩), .int .i64 c, .int .i64 q] w fun e' w' => e' = .returned (.tuple #[]) ∧ w = w' := by
  obtain ⟨h0, h1, h2, _⟩ := h.cells
  have e1 : (e == 0) = false := by simpa using he
  clear h he
  go_enter Tryd.func75, Tryd.ntmps75
  go_wp2
  go_end0
  exact ⟨rfl, rfl⟩

theorem rwrong_end (w : World) (r : Nat) (s : ByteArray) (i p : Nat) (h : RR w r s i 0 p) (hi : s.size ≤ i) :
    Calls Tryd.prog 46 #[.pointer (some ⟨r, 0, none⟩)] w fun e' w' => e' = .returned (.tuple #[]) ∧ RR w' r s i 23 s.size ∧ Chg (One r) w w' := by
  obtain ⟨h0, h1, h2, _⟩ := h.cells
  have HH := Lib.hid h
  have hii : ¬ (i : Int) < (s.size : Int) := by omega
  clear h
  go_enter Tryd.func46, Tryd.ntmps46
  go_wp2
  go_quiet (fail)
  go_wp2_with (go_at_call 75; refine (rfail_ok _ r s i p 23 s.size (HH.out.drewN _)).mono ?_; rintro e w1 ⟨rfl, h3, h4⟩)
  go_end0
  exact ⟨rfl, h3, ((Chg.refl _ _).drewN _).trans h4⟩
theorem rwrong_at (w : World) (r : Nat) (s : ByteArray) (i p : Nat) (h : RR w r s i 0 p) (hi : i < s.size) :
    Calls Tryd.prog 46 #[.pointer (some ⟨r, 0, none⟩)] w fun e' w' => e' = .returned (.tuple #[]) ∧ RR w' r s i 22 i ∧ Chg (One r) w w' := by
  obtain ⟨h0, h1, h2, _⟩ := h.cells
  have HH := Lib.hid h
  have hii : (i : Int) < (s.size : Int) := by omega
  clear h
  go_enter Tryd.func46, Tryd.ntmps46
  go_wp2
  go_quiet (fail)
  go_wp2_with (go_at_call 75; refine (rfail_ok _ r s i p 22 i (HH.out.drewN _)).mono ?_; rintro e w1 ⟨rfl, h3, h4⟩)
  go_end0
  exact ⟨rfl, h3, ((Chg.refl _ _).drewN _).trans h4⟩
theorem rwrong_no (w : World) (r : Nat) (s : ByteArray) (i : Nat) (e : Int) (p : Nat) (h : RR w r s i e p) (he : e ≠ 0) :
    Calls Tryd.prog 46 #[.pointer (some ⟨r, 0, none⟩)] w fun e' w' => e' = .returned (.tuple #[]) ∧ ∃ n, w' = w.drewN n := by
  obtain ⟨h0, h1, h2, _⟩ := h.cells
  have HH := Lib.hid h
  have HE := Lib.hid he
  clear h he
  by_cases hi : i < s.size
  · have hii : (i : Int) < (s.size : Int) := by omega
    go_enter Tryd.func46, Tryd.ntmps46
    go_wp2
    go_quiet (fail)
    go_wp2_with (go_at_call 75; refine (rfail_no _ r s i e p 22 _ (HH.out.drewN _) HE.out).mono ?_; rintro e w1 ⟨rfl, rfl⟩)
    go_end0
    exact ⟨rfl, _, rfl⟩
  · have hii : ¬ (i : Int) < (s.size : Int) := by omega
    go_enter Tryd.func46, Tryd.ntmps46
    go_wp2
    go_quiet (fail)
    go_wp2_with (go_at_call 75; refine (rfail_no _ r s i e p 23 _ (HH.out.drewN _) HE.out).mono ?_; rintro e w1 ⟨rfl, rfl⟩)
    go_end0
    exact ⟨rfl, _, rfl⟩

theorem letter_any (c : Nat) (w : World) :
    Calls Tryd.prog 149 #[.int .u8 (c : Int)] w fun e w' => e = .returned (.bool (wordP c)) ∧ w = w' := by
  go_enter Tryd.func149, Tryd.ntmps149
  go_wp2
  all_goals
    go_ret
    refine ⟨congrArg _ (congrArg Value.bool ?_), rfl⟩
    rw [Bool.eq_iff_iff]; simp [wordP]; omega
theorem rdigit_any (c : Nat) (w : World) (hc : c < 256) :
    Calls Tryd.prog 148 #[.int .u8 (c : Int)] w fun e w' => e = .returned (.int .i64 (digitP c)) ∧ w = w' := by
  go_enter Tryd.func148, Tryd.ntmps148
  go_wp2
  all_goals
    go_ret
    refine ⟨congrArg _ (congrArg (Value.int .i64) ?_), rfl⟩
    unfold digitP
    first
      | (rw [if_pos (by omega)]; done)
      | (rw [if_neg (by omega), if_pos (by omega)]; omega)
      | (rw [if_neg (by omega), if_neg (by omega), if_pos (by omega)]; omega)
      | (rw [if_neg (by omega), if_neg (by omega), if_neg (by omega)]; done)

/-- what a step of this reader leaves: the thing and the place behind it, or the fault -/
def TPo {α : Type} (enc : α → Value) (res : PR α) (r : Nat) (s : ByteArray) (w : World) (e : Ending) (w' : World) : Prop :=
  match res with
  | .ok a j => e = .returned (enc a) ∧ (∃ p, RR w' r s j 0 p) ∧ Chg (One r) w w'
  | .bad c q => (∃ a, e = .returned (enc a)) ∧ (∃ j, RR w' r s j c q) ∧ Chg (One r) w w' ∧ c ≠ 0
theorem TPo.ok {α : Type} {enc : α → Value} {res : PR α} {r : Nat} {s : ByteArray} {w w' : World} {e : Ending} {a : α} {j p : Nat} (h : res = .ok a j) (he : e = .returned (enc a)) (hr : RR w' r s j 0 p) (hc : Chg (One r) w w') : TPo enc res r s w e w' := by
  subst h; exact ⟨he, ⟨p, hr⟩, hc⟩
theorem TPo.bad {α : Type} {enc : α → Value} {res : PR α} {r : Nat} {s : ByteArray} {w w' : World} {e : Ending} {c : Int} {q j : Nat} {a : α} (h : res = .bad c q) (he : e = .returned (enc a)) (hr : RR w' r s j c q) (hc : Chg (One r) w w') (h0 : c ≠ 0 := by decide) : TPo enc res r s w e w' := by
  subst h; exact ⟨⟨a, he⟩, ⟨j, hr⟩, hc, h0⟩
end Go.Proofs.YticipgjbgcdccaaDoor
namespace Go.Proofs.YticipgjbgcdccaaDoor
open Go.RowKit

theorem dN {w : World} {m n : Nat} : (w.drewN m).drewN n = w.drewN (m + n) := World.drewN_drewN _ _ _
theorem hexGo_step (s : ByteArray) (at_ m n i : Nat) : hexGo s at_ (m + 1) n i = if s.size ≤ i then .bad 23 s.size
    else if digitP (bt s i) < 0 then .bad 22 at_
    else hexGo s at_ m (16 * n + (digitP (bt s i)).toNat) (i + 1) := by conv => lhs; unfold hexGo
set_option maxHeartbeats 2000000 in
set_option maxRecDepth 100000 in
/-- escape: a backslash stands at i -/
theorem rescape_any (w : World) (r : Nat) (s : ByteArray) (i p : Nat) (h : RR w r s i 0 p) (hs : s.size ≤ 65536) (hi : i < s.size) :
    Calls Tryd.prog 134 #[.pointer (some ⟨r, 0, none⟩)] w fun e' w' => TPo (fun n : Nat => .int .i64 (n : Int)) (escP s i) r s w e' w' := by
  obtain ⟨h0, h1, h2, h3⟩ := h.cells
  obtain ⟨f1, f2, f3⟩ := h.froz
  have hst := h.step
  have k1 : Chg (One r) w (w.setCell ⟨r, 1, none⟩ (.int .i64 ((i : Int) + 1))) := (Chg.refl (One r) w).setCell (p := ⟨r, 1, none⟩) _ fun _ => rfl
  by_cases hi1 : s.size ≤ i + 1
  · have hE : escP s i = .bad 23 s.size := by unfold escP; rw [if_pos hi1]
    have HE := Lib.hid hE
    have HH := Lib.hid hst
    clear hE
    go_enter Tryd.func134, Tryd.ntmps134
    go_wp2_with (first | (go_at_call 45; refine (rhas_any _ r s (i + 1) 0 p false HH.out (by simp; omega)).mono ?_; rintro e w1 ⟨rfl, n1, rfl⟩) | (go_at_call 46; refine (rwrong_end _ r s (i + 1) p (HH.out.drewN _) hi1).mono ?_; rintro e w2 ⟨rfl, g2, c2⟩))
    go_ret
    exact TPo.bad (a := 0) HE.out rfl g2 ((k1.drewN _).trans c2)
  · have hlt : i + 1 < s.size := by omega
    obtain ⟨j, hj⟩ : ∃ j, i + 1 = j := ⟨_, rfl⟩
    obtain ⟨l, hl⟩ : ∃ l, j + 1 = l := ⟨_, rfl⟩
    rw [hj] at hlt hst
    have hj' : (i : Int) + 1 = (j : Int) := by omega
    have hl' : (j : Int) + 1 = (l : Int) := by omega
    rw [hj'] at hst k1
    obtain ⟨c, hc⟩ : ∃ c, s[j].toNat = c := ⟨_, rfl⟩
    have hcb : bt s j = c := by rw [← bt_at s j hlt, hc]
    have hc256 : c < 256 := by rw [← hc]; exact s[j].toNat_lt
    have hF : escP s i = if c = 110 then .ok 10 l else if c = 114 then .ok 13 l else if c = 116 then .ok 9 l else if c = 120 then hexP s i l else if c ≤ 32 ∨ 126 < c ∨ wordP c = true then .bad 22 i else .ok c l := by
      unfold escP
      rw [if_neg hi1, hj, hcb, show i + 2 = l by omega]
    have HF := Lib.hid hF
    have HH := Lib.hid hst
    have hz0 : (0 : Int) ≤ (j : Int) := by omega
    have hz1 : (j : Int) < (s.size : Int) := by omega
    clear hF hi1 hcb
    obtain ⟨y0, y1, y2, y3⟩ := hst.cells
    obtain ⟨e1, e2, e3⟩ := hst.froz
    have hR2 : ∀ n, RR (((w.setCell ⟨r, 1, none⟩ (.int .i64 (j : Int))).drewN n).setCell ⟨r, 1, none⟩ (.int .i64 (l : Int))) r s l 0 p := fun n => by
      have := (hst.drewN n).step
      rwa [hl', hl] at this
    have hC2 : ∀ n, Chg (One r) w (((w.setCell ⟨r, 1, none⟩ (.int .i64 (j : Int))).drewN n).setCell ⟨r, 1, none⟩ (.int .i64 (l : Int))) := fun n => (k1.drewN n).setCell (p := ⟨r, 1, none⟩) _ fun _ => rfl
    have HR2 := Lib.hid hR2
    have HC2 := Lib.hid hC2
    clear hst hR2 hC2
    go_enter Tryd.func134, Tryd.ntmps134
    go_wp2_with (go_at_call 45; refine (rhas_any _ r s j 0 p true HH.out (by simp; omega)).mono ?_; rintro e w1 ⟨rfl, n1, rfl⟩)
    go_quiet (fail)
    by_cases c1 : c = 110
    · have d1 : ((c : Int) == 110) = true := by simp; omega
      have HG := Lib.hid (show escP s i = .ok 10 l by rw [HF.out, if_pos c1])
      clear c1 HF
      go_wp2
      go_ret
      exact TPo.ok HG.out rfl (HR2.out _) (HC2.out _)
    have d1 : ((c : Int) == 110) = false := by simp; omega
    by_cases c2 : c = 114
    · have d2 : ((c : Int) == 114) = true := by simp; omega
      have HG := Lib.hid (show escP s i = .ok 13 l by rw [HF.out, if_neg c1, if_pos c2])
      clear c1 c2 HF
      go_wp2
      go_ret
      exact TPo.ok HG.out rfl (HR2.out _) (HC2.out _)
    have d2 : ((c : Int) == 114) = false := by simp; omega
    by_cases c3 : c = 116
    · have d3 : ((c : Int) == 116) = true := by simp; omega
      have HG := Lib.hid (show escP s i = .ok 9 l by rw [HF.out, if_neg c1, if_neg c2, if_pos c3])
      clear c1 c2 c3 HF
      go_wp2
      go_ret
      exact TPo.ok HG.out rfl (HR2.out _) (HC2.out _)
    have d3 : ((c : Int) == 116) = false := by simp; omega
    by_cases c4 : c = 120
    rotate_left
    · have d4 : ((c : Int) == 120) = false := by simp; omega
      have hG : escP s i = if c ≤ 32 ∨ 126 < c ∨ wordP c = true then .bad 22 i else .ok c l := by rw [HF.out, if_neg c1, if_neg c2, if_neg c3, if_neg c4]
      obtain ⟨z, hz⟩ : ∃ z, wordP c = z := ⟨_, rfl⟩
      have hle := letter_any c
      rw [hz] at hG
      simp only [hz] at hle
      clear c1 c2 c3 c4 HF hz
      by_cases q : 32 < c ∧ c ≤ 126
      · obtain ⟨q1, q2⟩ := q
        cases z with
        | false =>
          have HG := Lib.hid (show escP s i = .ok c l by rw [hG, if_neg (by simp; omega)])
          clear hG
          go_wp2_with (go_at_call 149; refine (hle _).mono ?_; rintro e w' ⟨rfl, rfl⟩)
          go_ret
          exact TPo.ok HG.out rfl (HR2.out _) (HC2.out _)
        | true =>
          have HG := Lib.hid (show escP s i = .bad 22 i by rw [hG, if_pos (by simp)])
          clear hG
          go_wp2_with (first | (go_at_call 149; refine (hle _).mono ?_; rintro e w' ⟨rfl, rfl⟩) | (go_at_call 75; refine (rfail_ok _ r s l p 22 i (HR2.out _)).mono ?_; rintro e w2 ⟨rfl, g2, k2⟩))
          go_ret
          exact TPo.bad (a := 0) HG.out rfl g2 ((HC2.out _).trans k2)
      · have HG := Lib.hid (show escP s i = .bad 22 i by rw [hG, if_pos (by omega)])
        have q' : c ≤ 32 ∨ 126 < c := by omega
        clear hG q
        rcases q' with q | q
        all_goals
          go_wp2_with (go_at_call 75; refine (rfail_ok _ r s l p 22 i (HR2.out _)).mono ?_; rintro e w2 ⟨rfl, g2, k2⟩)
          go_ret
          exact TPo.bad (a := 0) HG.out rfl g2 ((HC2.out _).trans k2)
    · have d4 : ((c : Int) == 120) = true := by simp; omega
      have HG := Lib.hid (show escP s i = hexGo s i 2 0 l by rw [HF.out, if_neg c1, if_neg c2, if_neg c3, if_pos c4]; rfl)
      clear c1 c2 c3 c4 HF
      have hRL := HR2.out (n1 + nq)
      have hCL := HC2.out (n1 + nq)
      have hls : l ≤ s.size := by omega
      go_wp2_with fail
      clear hj hl hj' hl' hc hc256 hz0 hz1 y0 y1 y2 y3 e1 e2 e3 h0 h1 h2 h3 f1 f2 f3 k1 HH HR2 HC2 h hi
      go_loopw [5, 6] (fun v5 v6 wr => ∃ k n jj : Nat, k ≤ 2 ∧ v5 = .int .i64 (n : Int) ∧ v6 = .int .i64 (k : Int) ∧ n ≤ 255 ∧ (k = 0 → n = 0) ∧ (k = 1 → n ≤ 15) ∧ jj ≤ s.size ∧ Hid (hexGo s i (2 - k) n jj = hexGo s i 2 0 l) ∧ RR wr r s jj 0 p ∧ Chg (One r) w wr) (fun _ v _ => 2 - (intOf v).toNat)
      case atStart => exact ⟨0, 0, l, by omega, rfl, rfl, by omega, fun _ => rfl, fun h => by omega, hls, Lib.hid rfl, hRL, hCL⟩
      case round =>
        obtain ⟨k, n, jj, hk, rfl, rfl, hn, hn0, hn1, hjj, HX, hR, hC⟩ := hrel
        by_cases hk2 : k < 2
        · obtain ⟨m, hm⟩ : ∃ m, 2 - k = m + 1 := ⟨1 - k, by omega⟩
          have hst := HX.out
          rw [hm, hexGo_step] at hst
          have hm2 : m = 2 - (k + 1) := by omega
          rw [hm2] at hst
          have hn2 : n ≤ 15 := by rcases (show k = 0 ∨ k = 1 by omega) with h | h; have := hn0 h; omega; exact hn1 h
          have HN0 := Lib.hid hn0
          clear hn0 hn1
          have H := Lib.hid hR
          by_cases he : s.size ≤ jj
          · rw [if_pos he] at hst
            have HB := Lib.hid hst.symm
            clear hst HX hm hm2 hR
            go_wp2_with (first | (go_at_call 45; refine (rhas_any _ r s jj 0 p false H.out (by simp; omega)).mono ?_; rintro e w1 ⟨rfl, n2, rfl⟩) | (go_at_call 46; refine (rwrong_end _ r s jj p (H.out.drewN _) he).mono ?_; rintro e w2 ⟨rfl, g2, c2⟩))
            go_ret
            exact TPo.bad (a := 0) (HG.out.trans HB.out) rfl g2 ((hC.drewN _).trans c2)
          · rw [if_neg he] at hst
            have hjs : jj < s.size := by omega
            obtain ⟨b, hb⟩ : ∃ b, s[jj].toNat = b := ⟨_, rfl⟩
            have hb256 : b < 256 := by rw [← hb]; exact s[jj].toNat_lt
            rw [← bt_at s jj hjs, hb] at hst
            have hdg := fun w => rdigit_any b w hb256
            have hdl := digitP_lt b
            obtain ⟨d, hd⟩ : ∃ d, digitP b = d := ⟨_, rfl⟩
            simp only [hd] at hst hdg hdl
            have hz0 : (0 : Int) ≤ (jj : Int) := by omega
            have hz1 : (jj : Int) < (s.size : Int) := by omega
            obtain ⟨y0, y1, y2, y3⟩ := hR.cells
            obtain ⟨e1, e2, e3⟩ := hR.froz
            have HDG := Lib.hid hdg
            clear hd hm hm2 hR hdg HX
            by_cases hd0 : d < 0
            · rw [if_pos hd0] at hst
              have HB := Lib.hid hst.symm
              clear hst
              go_wp2_with (go_at_call 45; refine (rhas_any _ r s jj 0 p true H.out (by simp; omega)).mono ?_; rintro e w1 ⟨rfl, n2, rfl⟩)
              go_quiet ((go_at_call 148; exact (HDG.out _).mono fun _ _ ⟨h1, h2⟩ => ⟨h1, _, h2.symm⟩))
              go_wp2_with (go_at_call 75; refine (rfail_ok _ r s jj p 22 i (H.out.drewN _)).mono ?_; rintro e w2 ⟨rfl, g2, c2⟩)
              go_ret
              exact TPo.bad (a := 0) (HG.out.trans HB.out) rfl g2 ((hC.drewN _).trans c2)
            · rw [if_neg hd0] at hst
              obtain ⟨d, rfl⟩ : ∃ q : Nat, d = (q : Int) := ⟨d.toNat, by omega⟩
              have HX := Lib.hid hst
              clear hst
              go_wp2_with (go_at_call 45; refine (rhas_any _ r s jj 0 p true H.out (by simp; omega)).mono ?_; rintro e w1 ⟨rfl, n2, rfl⟩)
              go_quiet ((go_at_call 148; exact (HDG.out _).mono fun _ _ ⟨h1, h2⟩ => ⟨h1, _, h2.symm⟩))
              go_wp2
              exact ⟨⟨k + 1, 16 * n + d, jj + 1, by omega, by go_num, by go_num, by omega, fun h => by omega, fun h => by have := HN0.out (by omega); omega, by omega, Lib.hid HX.out, (H.out.drewN _).step, (hC.drewN _).setCell _ fun _ => rfl⟩, by simp [intOf]; omega⟩
        · obtain rfl : k = 2 := by omega
          have hst := HX.out
          rw [show 2 - 2 = 0 from rfl, show hexGo s i 0 n jj = .ok n jj from rfl] at hst
          have HB := Lib.hid hst.symm
          clear hst HX
          go_wp2
          go_ret
          exact TPo.ok (HG.out.trans HB.out) rfl hR hC
end Go.Proofs.YticipgjbgcdccaaDoor
namespace Go.Proofs.YticipgjbgcdccaaDoor
open Go.RowKit

theorem quiet_in {P : Program} {f : FuncId} {args : Array Value} {w : World} {n x : Nat} {v : Value} (h : Calls P f args (w.drewN (n + x)) fun e w' => e = .returned v ∧ ∃ m, w' = (w.drewN (n + x)).drewN m) :
    Calls P f args (w.drewN (n + x)) fun e w'' => e = .returned v ∧ ∃ m, w'' = w.drewN (n + m) :=
  h.mono fun _ _ ⟨he, m, hm⟩ => ⟨he, x + m, by rw [hm, World.drewN_drewN, Nat.add_assoc]⟩
theorem quiet_same {P : Program} {f : FuncId} {args : Array Value} {w : World} {n x : Nat} {v : Value} (h : Calls P f args (w.drewN (n + x)) fun e w' => e = .returned v ∧ w.drewN (n + x) = w') :
    Calls P f args (w.drewN (n + x)) fun e w'' => e = .returned v ∧ ∃ m, w'' = w.drewN (n + m) :=
  h.mono fun _ _ ⟨he, hm⟩ => ⟨he, x, hm.symm⟩
theorem among_three (c : Nat) (w : World) :
    Calls Tryd.prog 107 #[.int .u8 (c : Int), .string ⟨#[93, 45, 47]⟩] w fun e w' => e = .returned (.bool (hasP [93, 45, 47] c)) ∧ w = w' :=
  among_any _ c w (by simp [ByteArray.size])

set_option maxHeartbeats 2000000 in
set_option maxRecDepth 100000 in
theorem rone_any (w : World) (r : Nat) (s : ByteArray) (i p : Nat) (h : RR w r s i 0 p) (hs : s.size ≤ 65536) (hi : i ≤ s.size) :
    Calls Tryd.prog 146 #[.pointer (some ⟨r, 0, none⟩)] w fun e' w' => TPo (fun n : Nat => .int .i64 (n : Int)) (oneP s false i) r s w e' w' := by
  obtain ⟨h0, h1, h2, h3⟩ := h.cells
  obtain ⟨f1, f2, f3⟩ := h.froz
  have H := Lib.hid h
  by_cases hb : bt s i = 92
  · have hlt := bt_small hb (by omega)
    have HG := Lib.hid (show oneP s false i = escP s i by unfold oneP; rw [if_neg (by omega), if_pos hb])
    have hnx := fun w' (h' : RR w' r s i 0 p) => rnext_any w' r s i 0 p 92 true h' (by omega) (by simpa using hb)
    clear hb h
    go_enter Tryd.func146, Tryd.ntmps146
    go_wp2_with (go_at_call 110; refine (hnx _ H.out).mono ?_; rintro e w1 ⟨rfl, n1, rfl⟩)
    refine (rescape_any _ r s i p (H.out.drewN n1) hs hlt).mono ?_
    intro e w2 hp
    cases hq : escP s i with
    | ok a j =>
      rw [hq] at hp
      obtain ⟨rfl, ⟨p2, g2⟩, c2⟩ := hp
      have HQ := Lib.hid hq
      clear hq
      go_wp2
      go_ret
      exact TPo.ok (HG.out.trans HQ.out) rfl g2 (((Chg.refl _ _).drewN _).trans c2)
    | bad c q =>
      rw [hq] at hp
      obtain ⟨⟨v, rfl⟩, ⟨j2, g2⟩, c2, h0⟩ := hp
      have HQ := Lib.hid hq
      clear hq
      go_wp2
      go_ret
      exact TPo.bad (a := v) (HG.out.trans HQ.out) rfl g2 (((Chg.refl _ _).drewN _).trans c2) h0
  · have hnx := fun w' (h' : RR w' r s i 0 p) => rnext_any w' r s i 0 p 92 false h' (by omega) (by simpa using hb)
    by_cases he : s.size ≤ i
    · have HG := Lib.hid (show oneP s false i = .bad 23 s.size by unfold oneP; rw [if_pos he])
      have hhas := fun w' (h' : RR w' r s i 0 p) => rhas_any w' r s i 0 p false h' (by simp; omega)
      clear hb h
      go_enter Tryd.func146, Tryd.ntmps146
      go_wp2_with (go_at_call 110; refine (hnx _ H.out).mono ?_; rintro e w1 ⟨rfl, n1, rfl⟩)
      go_quiet ((go_at_call 45; exact quiet_in (hhas _ (H.out.drewN _))))
      go_wp2_with (go_at_call 46; refine (rwrong_end _ r s i p (H.out.drewN _) he).mono ?_; rintro e w2 ⟨rfl, g2, c2⟩)
      go_ret
      exact TPo.bad (a := 0) HG.out rfl g2 (((Chg.refl _ _).drewN _).trans c2)
    · have hlt : i < s.size := by omega
      obtain ⟨c, hc⟩ : ∃ c, s[i].toNat = c := ⟨_, rfl⟩
      have hcb : bt s i = c := by rw [← bt_at s i hlt, hc]
      have hc256 : c < 256 := by rw [← hc]; exact s[i].toNat_lt
      have hG : oneP s false i = if printableP c = false ∨ hasP [93, 45, 47] c = true then .bad 22 i else .ok c (i + 1) := by
        unfold oneP
        rw [if_neg he, if_neg hb, hcb]
        have e : hasP classSignsP c = hasP [93, 45, 47] c := by
          have : c ≠ 92 := fun e => hb (by omega)
          unfold hasP classSignsP
          rw [Bool.eq_iff_iff]; simp; omega
        rw [e]
        by_cases q : printableP c = false ∨ hasP [93, 45, 47] c = true
        · rw [if_pos q, if_pos (by rcases q with q | q; exact .inl q; exact .inr (.inl q))]
        · rw [if_neg q, if_neg (by rintro (h | h | h); exact q (.inl h); exact q (.inr h); exact absurd h.1 (by simp))]
      obtain ⟨z1, hz1⟩ : ∃ z, printableP c = z := ⟨_, rfl⟩
      obtain ⟨z2, hz2⟩ : ∃ z, hasP [93, 45, 47] c = z := ⟨_, rfl⟩
      have hpr := fun w => rprintable_any c w
      have ham := fun w => among_three c w
      rw [hz1, hz2] at hG
      simp only [hz1] at hpr
      simp only [hz2] at ham
      have hhas := fun w' (h' : RR w' r s i 0 p) => rhas_any w' r s i 0 p true h' (by simp; omega)
      have hz0 : (0 : Int) ≤ (i : Int) := by omega
      have hz9 : (i : Int) < (s.size : Int) := by omega
      have HG := Lib.hid hG
      clear hG hb hz1 hz2 h hcb he
      go_enter Tryd.func146, Tryd.ntmps146
      go_wp2_with (go_at_call 110; refine (hnx _ H.out).mono ?_; rintro e w1 ⟨rfl, n1, rfl⟩)
      cases z1 with
      | false =>
        have HB := Lib.hid (show oneP s false i = .bad 22 i by rw [HG.out, if_pos (.inl rfl)])
        clear HG
        go_quiet (first | (go_at_call 45; exact quiet_in (hhas _ (H.out.drewN _))) | (go_at_call 115; exact quiet_same (hpr _)))
        go_wp2_with (go_at_call 46; refine (rwrong_at _ r s i p (H.out.drewN _) hlt).mono ?_; rintro e w2 ⟨rfl, g2, c2⟩)
        go_ret
        exact TPo.bad (a := 0) HB.out rfl g2 (((Chg.refl _ _).drewN _).trans c2)
      | true =>
        cases z2 with
        | true =>
          have HB := Lib.hid (show oneP s false i = .bad 22 i by rw [HG.out, if_pos (.inr rfl)])
          clear HG
          go_quiet (first | (go_at_call 45; exact quiet_in (hhas _ (H.out.drewN _))) | (go_at_call 115; exact quiet_same (hpr _)) | (go_at_call 107; exact quiet_same (ham _)))
          go_wp2_with (go_at_call 46; refine (rwrong_at _ r s i p (H.out.drewN _) hlt).mono ?_; rintro e w2 ⟨rfl, g2, c2⟩)
          go_ret
          exact TPo.bad (a := 0) HB.out rfl g2 (((Chg.refl _ _).drewN _).trans c2)
        | false =>
          have HB := Lib.hid (show oneP s false i = .ok c (i + 1) by rw [HG.out, if_neg (by simp)])
          clear HG
          go_quiet (first | (go_at_call 45; exact quiet_in (hhas _ (H.out.drewN _))) | (go_at_call 115; exact quiet_same (hpr _)) | (go_at_call 107; exact quiet_same (ham _)))
          go_wp2
          go_quiet (fail)
          go_wp2
          go_ret
          exact TPo.ok HB.out rfl ((H.out.drewN _).step) (((Chg.refl _ _).drewN _).setCell _ fun _ => rfl)
end Go.Proofs.YticipgjbgcdccaaDoor
namespace Go.Proofs.YticipgjbgcdccaaDoor
open Go.RowKit

def isD (s : ByteArray) (i : Nat) : Bool := decide (48 ≤ bt s i) && decide (bt s i ≤ 57)
/-- so many digits at most: the number and the place behind it -/
def digGo (s : ByteArray) : Nat → Nat → Nat → Nat × Nat
  | 0, n, i => (n, i)
  | k + 1, n, i => if isD s i = true then digGo s k (10 * n + (bt s i - 48)) (i + 1) else (n, i)
theorem digGo_step (s : ByteArray) (k n i : Nat) : digGo s (k + 1) n i = if isD s i = true then digGo s k (10 * n + (bt s i - 48)) (i + 1) else (n, i) := rfl
/-- number: one digit at least -/
def numR (s : ByteArray) (i : Nat) : PR Nat := if isD s i = true then .ok (digGo s 4 0 i).1 (digGo s 4 0 i).2 else if s.size ≤ i then .bad 23 s.size else .bad 22 i
theorem isD_end {s : ByteArray} {i : Nat} (h : s.size ≤ i) : isD s i = false := by unfold isD; rw [bt_end s i h]; rfl
theorem isD_lt {s : ByteArray} {i : Nat} (h : isD s i = true) : i < s.size := by
  rcases Nat.lt_or_ge i s.size with q | q
  · exact q
  · rw [isD_end q] at h; cases h
theorem isD_iff {s : ByteArray} {i : Nat} (_hi : i < s.size) : isD s i = false ↔ (bt s i < 48 ∨ 57 < bt s i) := by unfold isD; simp; omega
theorem numGo_dig (s : ByteArray) : ∀ (k n i : Nat), k ≤ 3 → numGo s k n i = .ok (digGo s k n i).1 (digGo s k n i).2 ∨ (s.size ≤ (digGo s k n i).2 ∧ numGo s k n i = .bad 23 s.size)
  | 0, n, i, _ => .inl rfl
  | k + 1, n, i, hk => by
    rcases Nat.lt_or_ge i s.size with q | q
    · rw [digGo_step]
      by_cases hd : isD s i = true
      · have hd2 : ¬ (bt s i < 48 ∨ 57 < bt s i) := fun h => by rw [(isD_iff q).2 h] at hd; cases hd
        rw [if_pos hd]
        unfold numGo
        rw [if_neg (by omega), if_neg hd2]
        exact numGo_dig s k _ _ (by omega)
      · rw [if_neg hd]
        refine .inl ?_
        unfold numGo
        rw [if_neg (by omega), if_pos ((isD_iff q).1 (by simpa using hd)), if_neg (by omega)]
    · refine .inr ⟨?_, by unfold numGo; rw [if_pos q]⟩
      rw [digGo_step, if_neg (by rw [isD_end q]; simp)]; exact q
theorem numP_R (s : ByteArray) (i : Nat) : numP s i = numR s i ∨ ∃ n j, numR s i = .ok n j ∧ s.size ≤ j ∧ numP s i = .bad 23 s.size := by
  unfold numP numR
  rcases Nat.lt_or_ge i s.size with q | q
  · by_cases hd : isD s i = true
    · have hd2 : ¬ (bt s i < 48 ∨ 57 < bt s i) := fun h => by rw [(isD_iff q).2 h] at hd; cases hd
      have e : numGo s 4 0 i = numGo s 3 (10 * 0 + (bt s i - 48)) (i + 1) := by conv => lhs; unfold numGo; rw [if_neg (by omega), if_neg hd2]
      rw [if_pos hd, e, digGo_step, if_pos hd]
      rcases numGo_dig s 3 (10 * 0 + (bt s i - 48)) (i + 1) (by omega) with h | ⟨h1, h2⟩
      · exact .inl h
      · exact .inr ⟨_, _, rfl, h1, h2⟩
    · refine .inl ?_
      rw [if_neg hd, if_neg (by omega)]
      unfold numGo
      rw [if_neg (by omega), if_pos ((isD_iff q).1 (by simpa using hd)), if_pos rfl]
  · refine .inl ?_
    rw [if_neg (by rw [isD_end q]; simp), if_pos q]
    unfold numGo
    rw [if_pos q]
theorem digGo_ok (s : ByteArray) : ∀ (k n i : Nat), i ≤ s.size → i ≤ (digGo s k n i).2 ∧ (digGo s k n i).2 ≤ s.size ∧ (digGo s k n i).1 < (n + 1) * 10 ^ k
  | 0, n, i, hi => by simp [digGo]; omega
  | k + 1, n, i, hi => by
    rw [digGo_step]
    have hp : 0 < 10 ^ k := Nat.pow_pos (by omega)
    by_cases hd : isD s i = true
    · rw [if_pos hd]
      have hlt := isD_lt hd
      have h9 : bt s i ≤ 57 := by unfold isD at hd; simp at hd; exact hd.2
      obtain ⟨a, b, c⟩ := digGo_ok s k (10 * n + (bt s i - 48)) (i + 1) (by omega)
      refine ⟨by omega, b, Nat.lt_of_lt_of_le c ?_⟩
      rw [Nat.pow_succ, show (n + 1) * (10 ^ k * 10) = ((n + 1) * 10) * 10 ^ k by rw [Nat.mul_comm (10 ^ k) 10, Nat.mul_assoc]]
      exact Nat.mul_le_mul_right _ (by omega)
    · rw [if_neg hd]
      refine ⟨Nat.le_refl _, hi, ?_⟩
      have : 1 ≤ 10 ^ (k + 1) := Nat.pow_pos (by omega)
      calc n < (n + 1) * 1 := by omega
        _ ≤ (n + 1) * 10 ^ (k + 1) := Nat.mul_le_mul_left _ this
theorem numR_ok {s : ByteArray} {i n j : Nat} (_hi : i ≤ s.size) (h : numR s i = .ok n j) : i < j ∧ j ≤ s.size ∧ n < 10000 := by
  unfold numR at h
  split at h
  · rename_i hd
    have hlt := isD_lt hd
    simp only [PR.ok.injEq] at h
    obtain ⟨rfl, rfl⟩ := h
    rw [digGo_step, if_pos hd]
    have h9 : bt s i ≤ 57 := by unfold isD at hd; simp at hd; exact hd.2
    obtain ⟨a, b, c⟩ := digGo_ok s 3 (10 * 0 + (bt s i - 48)) (i + 1) (by omega)
    refine ⟨by omega, b, Nat.lt_of_lt_of_le c ?_⟩
    have : (10 * 0 + (bt s i - 48) + 1) ≤ 10 := by omega
    calc _ ≤ 10 * 10 ^ 3 := Nat.mul_le_mul_right _ this
      _ = 10000 := rfl
  · split at h <;> cases h

/-- the numbers of a repetition, by number -/
theorem bracesP_R (s : ByteArray) (i : Nat) : bracesP s i = (numR s (i + 1)).bind fun m j =>
    if bt s j = 44 then (if bt s (j + 1) = 125 then closeB s i m (-1) (j + 1) else (numR s (j + 1)).bind fun k j2 => closeB s i m k j2) else closeB s i m m j := by
  have hcl : ∀ m k j, s.size ≤ j → closeB s i m k j = .bad 23 s.size := fun m k j h => by unfold closeB; rw [if_pos h]
  unfold bracesP
  have e : ∀ (m j : Nat), (if s.size ≤ j then PR.bad 23 s.size else if bt s j = 44 then
      (if s.size ≤ j + 1 then .bad 23 s.size else if bt s (j + 1) = 125 then closeB s i m (-1) (j + 1) else match numP s (j + 1) with | .bad c p => .bad c p | .ok k j2 => closeB s i m k j2)
      else closeB s i m m j) = if bt s j = 44 then (if bt s (j + 1) = 125 then closeB s i m (-1) (j + 1) else (numR s (j + 1)).bind fun k j2 => closeB s i m k j2) else closeB s i m m j := by
    intro m j
    by_cases h1 : s.size ≤ j
    · rw [if_pos h1, if_neg (by rw [bt_end s j h1]; omega), hcl _ _ _ h1]
    · rw [if_neg h1]
      by_cases h2 : bt s j = 44
      · rw [if_pos h2, if_pos h2]
        by_cases h3 : s.size ≤ j + 1
        · have hn : numR s (j + 1) = .bad 23 s.size := by unfold numR; rw [if_neg (by rw [isD_end h3]; simp), if_pos h3]
          rw [if_pos h3, if_neg (by rw [bt_end s _ h3]; omega), hn]; rfl
        · rw [if_neg h3]
          by_cases h4 : bt s (j + 1) = 125
          · rw [if_pos h4, if_pos h4]
          · rw [if_neg h4, if_neg h4]
            rcases numP_R s (j + 1) with h | ⟨n, j2, ha, hb, hc⟩
            · rw [h]
              cases numR s (j + 1) <;> rfl
            · rw [ha, hc, PR.bind_ok, hcl _ _ _ hb]
      · rw [if_neg h2, if_neg h2]
  rcases numP_R s (i + 1) with h | ⟨n, j, ha, hb, hc⟩
  · rw [h]
    cases hq : numR s (i + 1) with
    | bad c p => rfl
    | ok m j => rw [PR.bind_ok]; exact e m j
  · rw [ha, hc, PR.bind_ok, if_neg (by rw [bt_end s j hb]; omega), hcl _ _ _ hb]

/-- number's end -/
def NumPost (res : PR Nat) (r : Nat) (s : ByteArray) (w : World) (e : Ending) (w' : World) : Prop :=
  match res with
  | .ok n j => e = .returned (.int .i64 (n : Int)) ∧ (∃ p, RR w' r s j 0 p) ∧ Chg (One r) w w'
  | .bad c q => e = .returned (.int .i64 0) ∧ (∃ j, RR w' r s j c q) ∧ Chg (One r) w w' ∧ c ≠ 0

set_option maxHeartbeats 2000000 in
set_option maxRecDepth 100000 in
theorem rnumber_any (w : World) (r : Nat) (s : ByteArray) (i p : Nat) (h : RR w r s i 0 p) (hs : s.size ≤ 65536) (hi : i ≤ s.size) :
    Calls Tryd.prog 135 #[.pointer (some ⟨r, 0, none⟩)] w fun e w' => NumPost (numR s i) r s w e w' := by
  go_enter Tryd.func135, Tryd.ntmps135
  go_wp2
  go_loopw [3, 4] (fun v3 v4 wr => ∃ k n j : Nat, k ≤ 4 ∧ n < 10 ^ k ∧ j ≤ s.size ∧ v3 = .int .i64 (n : Int) ∧ v4 = .int .i64 (k : Int) ∧ Hid (digGo s (4 - k) n j = digGo s 4 0 i) ∧ Hid (k = 0 → j = i ∧ n = 0) ∧ Hid (0 < k → isD s i = true) ∧ RR wr r s j 0 p ∧ Chg (One r) w wr) (fun _ v _ => 4 - (intOf v).toNat)
  case atStart => exact ⟨0, 0, i, by omega, by simp, hi, rfl, rfl, Lib.hid rfl, Lib.hid fun _ => ⟨rfl, rfl⟩, Lib.hid fun h => absurd h (by omega), h, Chg.refl _ _⟩
  case round =>
    obtain ⟨k, n, j, hk, hn, hj, rfl, rfl, HG, H0, H1, hR, hC⟩ := hrel
    obtain ⟨y0, y1, y2, y3⟩ := hR.cells
    obtain ⟨e1, e2, e3⟩ := hR.froz
    have H := Lib.hid hR
    have hend : ∀ kk : Nat, kk = k → (digGo s (4 - k) n j = (n, j)) → 0 < k → numR s i = .ok n j := fun kk _ hd hp => by
      have := HG.out
      rw [hd] at this
      unfold numR
      rw [if_pos (H1.out hp), ← this]
    have HE := Lib.hid hend
    clear hend h
    by_cases hlt : k < 4
    · have hn4 : n < 1000 := Nat.lt_of_lt_of_le hn (Nat.pow_le_pow_right (by omega) (show k ≤ 3 by omega))
      have hk1 : 4 - k = (3 - k) + 1 := by omega
      obtain ⟨d, hd⟩ : ∃ d, isD s j = d := ⟨_, rfl⟩
      have hst := HG.out
      have q4 : decide ((k : Int) < 4) = true := decide_eq_true (by omega)
      rw [hk1, digGo_step, hd] at hst
      have HST := Lib.hid hst
      have HK1 := Lib.hid hk1
      have HN := Lib.hid hn
      clear hst hk1 hn
      cases d with
      | true =>
        have hjl := isD_lt hd
        obtain ⟨c, hc⟩ : ∃ c, s[j].toNat = c := ⟨_, rfl⟩
        have hcb : bt s j = c := by rw [← bt_at s j hjl, hc]
        have HD := Lib.hid hd
        have hcc : 48 ≤ c ∧ c ≤ 57 := by unfold isD at hd; rw [hcb] at hd; simpa using hd
        have g1 : decide ((c : Int) ≥ 48) = true := decide_eq_true (by omega)
        have g2 : decide ((c : Int) ≤ 57) = true := decide_eq_true (by omega)
        obtain ⟨d, hd48⟩ : ∃ d : Nat, c - 48 = d := ⟨_, rfl⟩
        have g3 : (c : Int) - 48 = (d : Int) := by omega
        have hwr : IntKind.u8.wrap (d : Int) = (d : Int) := by simp [IntKind.wrap, IntKind.bits, IntKind.signed]; omega
        have HX : Hid (digGo s (4 - (k + 1)) (10 * n + d) (j + 1) = digGo s 4 0 i) := Lib.hid (by
          have := HST.out
          rw [if_pos rfl, hcb, hd48] at this
          rw [← this, show 4 - (k + 1) = 3 - k by omega])
        have hd9 : d ≤ 9 := by omega
        clear hd48 hcc
        have hz0 : (0 : Int) ≤ (j : Int) := by omega
        have hz1 : (j : Int) < (s.size : Int) := by omega
        clear hd hcb HST
        go_wp2
        go_quiet ((go_at_call 45; exact Calls.quiet_of (rhas_any _ r s j 0 p true (H.out.drewN _) (by simpa using hjl))))
        go_wp2
        go_quiet (fail)
        go_wp2
        refine ⟨⟨k + 1, 10 * n + d, j + 1, by omega, ?_, by omega, by go_num, by go_num, HX, Lib.hid fun h => absurd h (by omega), Lib.hid fun _ => ?_, (H.out.drewN _).step, (hC.drewN _).setCell _ fun _ => rfl⟩, by simp [intOf]; omega⟩
        · have := HN.out
          rw [Nat.pow_succ]; omega
        · rcases Nat.eq_zero_or_pos k with q | q
          · have := (H0.out q).1; rw [← this]; exact HD.out
          · exact H1.out q
      | false =>
        have hdg : digGo s (4 - k) n j = (n, j) := by rw [HK1.out, digGo_step, hd]; rfl
        have HDG := Lib.hid hdg
        have HD := Lib.hid hd
        clear hdg hd HST
        by_cases he : s.size ≤ j
        · rcases Nat.eq_zero_or_pos k with hk0 | hk0
          · obtain ⟨rfl, rfl⟩ := H0.out hk0
            subst hk0
            have HX : Hid (numR s j = .bad 23 s.size) := Lib.hid (by unfold numR; rw [HD.out]; rw [if_neg (by simp), if_pos he])
            clear HE HDG HG H0 H1
            go_wp2
            go_quiet ((go_at_call 45; exact Calls.quiet_of (rhas_any _ r s j 0 p false (H.out.drewN _) (by simp; omega))))
            go_wp2_with (go_at_call 46; refine (rwrong_end _ r s j p (H.out.drewN _) he).mono ?_; rintro e w2 ⟨rfl, g2, c2⟩)
            go_ret
            unfold NumPost
            rw [HX.out]
            exact ⟨rfl, ⟨_, g2⟩, (hC.drewN _).trans c2, by decide⟩
          · have HX := Lib.hid (HE.out k rfl HDG.out hk0)
            have hk5 : ((k : Int) == 0) = false := by simp; omega
            clear HE HDG HG H0 H1
            go_wp2
            go_quiet ((go_at_call 45; exact Calls.quiet_of (rhas_any _ r s j 0 p false (H.out.drewN _) (by simp; omega))))
            go_wp2
            go_ret
            unfold NumPost
            rw [HX.out]
            exact ⟨rfl, ⟨p, H.out.drewN _⟩, hC.drewN _⟩
        · have hjl : j < s.size := by omega
          obtain ⟨c, hc⟩ : ∃ c, s[j].toNat = c := ⟨_, rfl⟩
          have hcb : bt s j = c := by rw [← bt_at s j hjl, hc]
          have hcc := (isD_iff hjl).1 HD.out
          rw [hcb] at hcc
          have hz0 : (0 : Int) ≤ (j : Int) := by omega
          have hz1 : (j : Int) < (s.size : Int) := by omega
          clear hcb
          rcases (show c < 48 ∨ (48 ≤ c ∧ 57 < c) by omega) with g | ⟨g, g'⟩
          · have g1 : decide ((c : Int) ≥ 48) = false := decide_eq_false (by omega)
            rcases Nat.eq_zero_or_pos k with hk0 | hk0
            · obtain ⟨rfl, rfl⟩ := H0.out hk0
              subst hk0
              have HX : Hid (numR s j = .bad 22 j) := Lib.hid (by unfold numR; rw [HD.out]; rw [if_neg (by simp), if_neg he])
              clear HE HDG HG H0 H1
              go_wp2
              go_quiet ((go_at_call 45; exact Calls.quiet_of (rhas_any _ r s j 0 p true (H.out.drewN _) (by simp; omega))))
              go_wp2_with (go_at_call 46; refine (rwrong_at _ r s j p (H.out.drewN _) hjl).mono ?_; rintro e w2 ⟨rfl, g2, c2⟩)
              go_ret
              unfold NumPost
              rw [HX.out]
              exact ⟨rfl, ⟨_, g2⟩, (hC.drewN _).trans c2, by decide⟩
            · have HX := Lib.hid (HE.out k rfl HDG.out hk0)
              have hk5 : ((k : Int) == 0) = false := by simp; omega
              clear HE HDG HG H0 H1
              go_wp2
              go_quiet ((go_at_call 45; exact Calls.quiet_of (rhas_any _ r s j 0 p true (H.out.drewN _) (by simp; omega))))
              go_wp2
              go_ret
              unfold NumPost
              rw [HX.out]
              exact ⟨rfl, ⟨p, H.out.drewN _⟩, hC.drewN _⟩
          · have g1 : decide ((c : Int) ≥ 48) = true := decide_eq_true (by omega)
            have g2 : decide ((c : Int) ≤ 57) = false := decide_eq_false (by omega)
            rcases Nat.eq_zero_or_pos k with hk0 | hk0
            · obtain ⟨rfl, rfl⟩ := H0.out hk0
              subst hk0
              have HX : Hid (numR s j = .bad 22 j) := Lib.hid (by unfold numR; rw [HD.out]; rw [if_neg (by simp), if_neg he])
              clear HE HDG HG H0 H1
              go_wp2
              go_quiet ((go_at_call 45; exact Calls.quiet_of (rhas_any _ r s j 0 p true (H.out.drewN _) (by simp; omega))))
              go_wp2_with (go_at_call 46; refine (rwrong_at _ r s j p (H.out.drewN _) hjl).mono ?_; rintro e w2 ⟨rfl, g2, c2⟩)
              go_ret
              unfold NumPost
              rw [HX.out]
              exact ⟨rfl, ⟨_, g2⟩, (hC.drewN _).trans c2, by decide⟩
            · have HX := Lib.hid (HE.out k rfl HDG.out hk0)
              have hk5 : ((k : Int) == 0) = false := by simp; omega
              clear HE HDG HG H0 H1
              go_wp2
              go_quiet ((go_at_call 45; exact Calls.quiet_of (rhas_any _ r s j 0 p true (H.out.drewN _) (by simp; omega))))
              go_wp2
              go_ret
              unfold NumPost
              rw [HX.out]
              exact ⟨rfl, ⟨p, H.out.drewN _⟩, hC.drewN _⟩
    · obtain rfl : k = 4 := by omega
      have HX := Lib.hid (HE.out 4 rfl rfl (by omega))
      clear HE HG H0 H1
      have q4 : decide (((4 : Nat) : Int) < 4) = false := decide_eq_false (by omega)
      go_wp2
      go_quiet (fail)
      go_wp2
      go_ret
      unfold NumPost
      rw [HX.out]
      exact ⟨rfl, ⟨p, H.out.drewN _⟩, hC.drewN _⟩

/-- the state ahead of the closing brace -/
def BrA (w : World) (r : Nat) (s : ByteArray) (i : Nat) (s5 s6 : Value) (wx : World) : Prop :=
  ∃ m k : Int, s5 = .int .i64 m ∧ s6 = .int .i64 k ∧ Chg (One r) w wx ∧
    ((∃ c q j, c ≠ 0 ∧ bracesP s i = .bad c q ∧ RR wx r s j c q) ∨ (∃ j p, RR wx r s j 0 p ∧ j ≤ s.size ∧ bracesP s i = closeB s i m k j))
theorem ne_bool {c : Int} (h : c ≠ 0) (b : Bool) : ((c == 0) && b) = false := by simp [h]

set_option maxHeartbeats 2000000 in
set_option maxRecDepth 100000 in
theorem rbraces_any (w : World) (r : Nat) (s : ByteArray) (i p : Nat) (h : RR w r s i 0 p) (hs : s.size ≤ 65536) (hi : i < s.size) :
    Calls Tryd.prog 109 #[.pointer (some ⟨r, 0, none⟩)] w fun e w' => TPo (fun x : Int × Int => .tuple #[.int .i64 x.1, .int .i64 x.2]) (bracesP s i) r s w e w' := by
  obtain ⟨h0, h1, h2, h3⟩ := h.cells
  obtain ⟨f1, f2, f3⟩ := h.froz
  have hst := h.step
  have k1 : Chg (One r) w (w.setCell ⟨r, 1, none⟩ (.int .i64 ((i : Int) + 1))) := (Chg.refl (One r) w).setCell (p := ⟨r, 1, none⟩) _ fun _ => rfl
  have HB := Lib.hid (bracesP_R s i)
  go_enter Tryd.func109, Tryd.ntmps109
  go_wp2_with fail
  refine (rnumber_any _ r s (i + 1) p hst hs (by omega)).mono ?_
  intro e w1 hp
  cases hq : numR s (i + 1) with
  | bad c q =>
    rw [hq] at hp
    obtain ⟨rfl, ⟨j, g1⟩, c1, hc⟩ := hp
    have HF : Hid (bracesP s i = .bad c q) := Lib.hid (by rw [HB.out, hq]; rfl)
    have HC := Lib.hid hc
    have HG := Lib.hid g1
    have C1 := k1.trans c1
    clear hq HB hst hc g1 h0 h1 h2 h3 f1 f2 f3 k1 c1 h
    go_wp2_with fail
    refine (rtook_no _ r s j c q 44 HG.out (by omega) (ne_bool HC.out _)).mono ?_
    rintro e w2 ⟨rfl, n1, rfl⟩
    go_wp2_with fail
    refine (rtook_no _ r s j c q 125 (HG.out.drewN _) (by omega) (ne_bool HC.out _)).mono ?_
    rintro e w3 ⟨rfl, n2, rfl⟩
    go_wp2_with fail
    refine (rwrong_no _ r s j c q (HG.out.drewN _) HC.out).mono ?_
    rintro e w4 ⟨rfl, n3, rfl⟩
    go_wp2
    go_ret2
    exact TPo.bad (a := (0, 0)) HF.out rfl (HG.out.drewN _) (C1.drewN _) HC.out
  | ok m j =>
    rw [hq] at hp
    obtain ⟨rfl, ⟨p1, g1⟩, c1⟩ := hp
    have hj := numR_ok (by omega) hq
    have HF : Hid (bracesP s i = if bt s j = 44 then (if bt s (j + 1) = 125 then closeB s i m (-1) (j + 1) else (numR s (j + 1)).bind fun k j2 => closeB s i m k j2) else closeB s i m m j) := Lib.hid (by rw [HB.out, hq]; rfl)
    have HG := Lib.hid g1
    have C1 := k1.trans c1
    clear hq HB hst g1 h0 h1 h2 h3 f1 f2 f3 k1 c1 h
    go_upto_region 5 with fail
    go_cut [22] (fun s22 wx => ∃ b : Bool, IsV s22 (.bool b) ∧ decide (bt s j = 44) = b ∧ (∃ p, RR wx r s (if b then j + 1 else j) 0 p) ∧ Chg (One r) w wx)
    case first =>
      by_cases q : bt s j = 44
      · have hT := fun w' (h' : RR w' r s j 0 p1) => rtook_yes w' r s j p1 44 h' hs (by omega) q
        have HD : Hid (decide (bt s j = 44) = true) := Lib.hid (by simpa using q)
        clear q
        go_wp2_with (go_at_call 73; refine (hT _ HG.out).mono ?_; rintro e w2 ⟨rfl, g2, c2⟩)
        go_meet
        exact ⟨true, rfl, HD.out, ⟨_, g2⟩, C1.trans c2⟩
      · have hT := fun w' (h' : RR w' r s j 0 p1) => rtook_no w' r s j 0 p1 44 h' (by omega) (by simpa using q)
        have HD : Hid (decide (bt s j = 44) = false) := Lib.hid (by simpa using q)
        clear q
        go_wp2_with (go_at_call 73; refine (hT _ HG.out).mono ?_; rintro e w2 ⟨rfl, n2, rfl⟩)
        go_meet
        exact ⟨false, rfl, HD.out, ⟨_, HG.out.drewN _⟩, C1.drewN _⟩
    case rest =>
      obtain ⟨b, h22, hb, ⟨p2, hR⟩, hC⟩ := hcut
      unfold IsV at h22; subst h22
      have HB := Lib.hid hb
      have HR := Lib.hid hR
      clear hb hR HG C1
      go_upto_if 22 with fail
      go_cut [5, 6] (fun s5 s6 wx => BrA w r s i s5 s6 wx)
      case first =>
        cases b with
        | false =>
          have hb : ¬ bt s j = 44 := by have := HB.out; simpa using this
          have HX := Lib.hid (HF.out.trans (if_neg hb))
          have HR2 : Hid (RR wc r s j 0 p2) := HR
          clear HF HB HR hb
          go_wp2
          go_meet
          exact ⟨m, m, rfl, rfl, hC, .inr ⟨j, p2, HR2.out, hj.2.1, HX.out⟩⟩
        | true =>
          have hb : bt s j = 44 := by have := HB.out; simpa using this
          have hjs := bt_small hb (by omega)
          have hf2 := HF.out.trans (if_pos hb)
          have HR2 : Hid (RR wc r s (j + 1) 0 p2) := HR
          clear HF HB HR hb
          by_cases q : bt s (j + 1) = 125
          · rw [if_pos q] at hf2
            have HX := Lib.hid hf2
            have hT := fun w' (h' : RR w' r s (j + 1) 0 p2) => rnext_any w' r s (j + 1) 0 p2 125 true h' (by omega) (by simpa using q)
            clear q hf2
            go_wp2_with (go_at_call 110; refine (hT _ HR2.out).mono ?_; rintro e w2 ⟨rfl, n2, rfl⟩)
            go_meet
            exact ⟨m, -1, rfl, rfl, hC.drewN _, .inr ⟨j + 1, p2, HR2.out.drewN _, by omega, HX.out⟩⟩
          · rw [if_neg q] at hf2
            have HX := Lib.hid hf2
            have hT := fun w' (h' : RR w' r s (j + 1) 0 p2) => rnext_any w' r s (j + 1) 0 p2 125 false h' (by omega) (by simpa using q)
            clear q hf2
            go_wp2_with (go_at_call 110; refine (hT _ HR2.out).mono ?_; rintro e w2 ⟨rfl, n2, rfl⟩)
            refine (rnumber_any _ r s (j + 1) p2 (HR2.out.drewN n2) hs (by omega)).mono ?_
            intro e w3 hp
            cases hq : numR s (j + 1) with
            | bad c q =>
              rw [hq] at hp
              obtain ⟨rfl, ⟨j3, g3⟩, c3, hc⟩ := hp
              have HY : Hid (bracesP s i = .bad c q) := Lib.hid (by rw [HX.out, hq]; rfl)
              have HG := Lib.hid g3
              have HC := Lib.hid hc
              clear hq HX g3 hc
              go_wp2
              go_meet
              exact ⟨m, 0, rfl, rfl, (hC.drewN _).trans c3, .inl ⟨c, q, j3, HC.out, HY.out, HG.out⟩⟩
            | ok k j3 =>
              rw [hq] at hp
              obtain ⟨rfl, ⟨p3, g3⟩, c3⟩ := hp
              have hj3 := numR_ok (by omega) hq
              have HY : Hid (bracesP s i = closeB s i m k j3) := Lib.hid (by rw [HX.out, hq]; rfl)
              have HG := Lib.hid g3
              clear hq HX g3
              go_wp2
              go_meet
              exact ⟨m, k, rfl, rfl, (hC.drewN _).trans c3, .inr ⟨j3, p3, HG.out, hj3.2.1, HY.out⟩⟩
      case rest =>
        obtain ⟨m2, k2, rfl, rfl, hC, hcase⟩ := hcut
        have hCC := hC
        clear HF HB HR hC
        rcases hcase with ⟨c, q, j2, hc, hf, hR⟩ | ⟨j2, p3, hR, hj2, hf⟩
        · have HF := Lib.hid hf
          have HG := Lib.hid hR
          have HC := Lib.hid hc
          clear hf hR hc
          go_wp2_with fail
          refine (rtook_no _ r s j2 c q 125 HG.out (by omega) (ne_bool HC.out _)).mono ?_
          rintro e w3 ⟨rfl, n2, rfl⟩
          go_wp2_with fail
          refine (rwrong_no _ r s j2 c q (HG.out.drewN _) HC.out).mono ?_
          rintro e w4 ⟨rfl, n3, rfl⟩
          go_wp2_with ((go_at_call 75; refine (rfail_no _ r s j2 c q 24 _ (HG.out.drewN _) HC.out).mono ?_; rintro e w5 ⟨rfl, rfl⟩))
          all_goals
            go_ret2
            exact TPo.bad (a := (m2, k2)) HF.out rfl (HG.out.drewN _) (hCC.drewN _) HC.out
        · by_cases he : s.size ≤ j2
          · have HF := Lib.hid (hf.trans (show closeB s i m2 k2 j2 = .bad 23 s.size by unfold closeB; rw [if_pos he]))
            have HG := Lib.hid hR
            have hT := fun w' (h' : RR w' r s j2 0 p3) => rtook_no w' r s j2 0 p3 125 h' (by omega) (by rw [bt_end s j2 he]; rfl)
            clear hf hR
            go_wp2_with fail
            refine (hT _ HG.out).mono ?_
            rintro e w2 ⟨rfl, n2, rfl⟩
            go_wp2_with fail
            refine (rwrong_end _ r s j2 p3 (HG.out.drewN _) he).mono ?_
            rintro e w3 ⟨rfl, g3, c3⟩
            go_wp2_with (first | (go_at_call 75; refine (rfail_no _ r s j2 23 s.size 24 _ g3 (by decide)).mono ?_; rintro e w4 ⟨rfl, rfl⟩))
            all_goals
              go_ret2
              exact TPo.bad (a := (m2, k2)) HF.out rfl g3 ((hCC.drewN _).trans c3)
          · have hlt : j2 < s.size := by omega
            by_cases q : bt s j2 = 125
            · have hf2 : bracesP s i = if m2 > 1000 ∨ k2 > 1000 ∨ (k2 ≥ 0 ∧ k2 < m2) then .bad 24 i else .ok (m2, k2) (j2 + 1) := hf.trans (by unfold closeB; rw [if_neg he, if_neg (by simpa using q)])
              have HF := Lib.hid hf2
              have HG := Lib.hid hR
              have hT := fun w' (h' : RR w' r s j2 0 p3) => rtook_yes w' r s j2 p3 125 h' hs (by omega) q
              clear hf hR hf2 q
              go_wp2_with fail
              refine (hT _ HG.out).mono ?_
              rintro e w2 ⟨rfl, g2, c2⟩
              go_wp2_with (first | (go_at_call 75; refine (rfail_ok _ r s (j2 + 1) p3 24 i g2).mono ?_; rintro e w4 ⟨rfl, g4, c4⟩))
              all_goals
                first
                  | (go_ret2; exact TPo.bad (a := (m2, k2)) (HF.out.trans (if_pos (by omega))) rfl g4 ((hCC.trans c2).trans c4))
                  | (go_ret2; exact TPo.ok (HF.out.trans (if_neg (by omega))) rfl g2 (hCC.trans c2))
            · have HF := Lib.hid (hf.trans (show closeB s i m2 k2 j2 = .bad 22 j2 by unfold closeB; rw [if_neg he, if_pos q]))
              have HG := Lib.hid hR
              have hT := fun w' (h' : RR w' r s j2 0 p3) => rtook_no w' r s j2 0 p3 125 h' (by omega) (by simpa using q)
              clear hf hR q
              go_wp2_with fail
              refine (hT _ HG.out).mono ?_
              rintro e w2 ⟨rfl, n2, rfl⟩
              go_wp2_with fail
              refine (rwrong_at _ r s j2 p3 (HG.out.drewN _) hlt).mono ?_
              rintro e w3 ⟨rfl, g3, c3⟩
              go_wp2_with (first | (go_at_call 75; refine (rfail_no _ r s j2 22 j2 24 _ g3 (by decide)).mono ?_; rintro e w4 ⟨rfl, rfl⟩))
              all_goals
                go_ret2
                exact TPo.bad (a := (m2, k2)) HF.out rfl g3 ((hCC.drewN _).trans c3)
end Go.Proofs.YticipgjbgcdccaaDoor
namespace Go.Proofs.YticipgjbgcdccaaDoor
open Go.RowKit

theorem eitherR_one (ps : List (Nat × Nat)) : eitherR ps = oneOr 3 (ps.map rg) := by
  match ps with
  | [] => rfl
  | [p] => rfl
  | p :: q :: ps => rfl
/-- a pattern's value -/
def exV (x : Ex) (A : Option Addr) (n c : Nat) : Value := .agg #[.int .i64 x.k, .int .i64 x.f, .int .i64 x.t, .int .i64 x.a, .int .i64 x.b, .slice A n c]

set_option maxHeartbeats 2000000 in
theorem reither_any (w : World) (l : List Ex) (A : Option Addr) (n c : Nat) (S : Nat → Prop) (hl : Sl w S A n c l) :
    Calls Tryd.prog 74 #[.slice A n c] w fun e w' => ∃ A' n' c', e = .returned (exV (oneOr 3 l) A' n' c') ∧ Sl w' S A' n' c' (oneOr 3 l).l ∧ Chg No w w' := by
  have hn : n = l.length := hl.1
  subst hn
  have hb := Blk.new w 25 #[.int .i64 0, .int .i64 0, .int .i64 0, .int .i64 0, .int .i64 0, .slice none 0 0]
  have hc0 : Chg No w (w.alloc (.cells #[.int .i64 0, .int .i64 0, .int .i64 0, .int .i64 0, .int .i64 0, .slice none 0 0] 25)) := (Chg.refl _ _).alloc _
  have hl2 : Sl (w.alloc (.cells #[.int .i64 0, .int .i64 0, .int .i64 0, .int .i64 0, .int .i64 0, .slice none 0 0] 25)) (fun k => S k ∧ k < w.heap.size) A l.length c l := (Sl.keep (S' := fun k => S k ∧ k < w.heap.size) hl (fun _ _ _ => rfl) (fun k hk hz => ⟨hk, hz⟩) (Nat.le_refl _)).chgNo hc0
  have hne : ∀ wz : World, Chg (One w.heap.size) (w.alloc (.cells #[.int .i64 0, .int .i64 0, .int .i64 0, .int .i64 0, .int .i64 0, .slice none 0 0] 25)) wz → Chg No w wz := fun wz hz => hc0.then_ hz fun k hk e => by unfold One at e; omega
  clear hl
  match l with
  | [x] =>
    obtain ⟨g, o, A', c', rfl, _, x0, x1, x2, x3, x4, x5, hx⟩ := hl2.at_ 0 (by simp)
    simp only [List.getElem_cons_zero, Nat.zero_mul, Nat.add_zero] at x0 x1 x2 x3 x4 x5 hx
    clear hl2
    go_enter Tryd.func74, Tryd.ntmps74
    go_wp2_with (refine wpList_store_ex rfl _ _ rfl _ _ _ _ _ _ _ hb rfl _ _ _ _ _ _ _ _ rfl ?_; intro wz hbz hcz)
    refine bodyPost_ret_ex rfl rfl rfl hbz ⟨A', _, c', rfl, ?_, hne _ hcz⟩
    exact Sl.mono (hx.chg hcz fun k hk e => by unfold One at e; omega) fun k hk => hk.1
  | [] =>
    go_enter Tryd.func74, Tryd.ntmps74
    go_wp2_with (refine wpList_store_ex rfl _ _ rfl _ _ _ _ _ _ _ hb rfl _ _ _ _ _ _ _ _ rfl ?_; intro wz hbz hcz)
    refine bodyPost_ret_ex rfl rfl rfl hbz ⟨A, _, c, rfl, ?_, hne _ hcz⟩
    exact Sl.mono (hl2.chg hcz fun k hk e => by unfold One at e; omega) fun k hk => hk.1
  | x :: y :: l =>
    go_enter Tryd.func74, Tryd.ntmps74
    go_wp2_with (refine wpList_store_ex rfl _ _ rfl _ _ _ _ _ _ _ hb rfl _ _ _ _ _ _ _ _ rfl ?_; intro wz hbz hcz)
    refine bodyPost_ret_ex rfl rfl rfl hbz ⟨A, _, c, rfl, ?_, hne _ hcz⟩
    exact Sl.mono (hl2.chg hcz fun k hk e => by unfold One at e; omega) fun k hk => hk.1

theorem namedP_take_succ (ps : List (Nat × Nat)) (i d : Nat) (h : i < ps.length) : namedP (ps.take (i + 1)) d = (namedP (ps.take i) d || (decide (ps[i].1 ≤ d) && decide (d ≤ ps[i].2))) := by
  unfold namedP
  rw [List.take_succ_eq_append_getElem h, List.any_append]
  simp

set_option maxHeartbeats 2000000 in
set_option maxRecDepth 100000 in
theorem rothers_any (w : World) (A : Option Addr) (n c : Nat) (ps : List (Nat × Nat)) (S : Nat → Prop) (hl : Sl w S A n c (ps.map rg)) (hn : ps.length ≤ 65536) :
    Calls Tryd.prog 147 #[.slice A n c] w fun e w' => ∃ v, e = .returned v ∧ Own w' w.heap.size v ((othersP ps).map rg) ∧ Chg No w w' := by
  obtain ⟨rfl, hc1, hc2⟩ : n = ps.length ∧ ps.length ≤ c ∧ c ≤ 9223372036854775807 := ⟨by have := hl.1; simpa using this, by have := hl.2.1; simpa using this, hl.2.2.1⟩
  have HL := Lib.hid hl; clear hl
  go_enter Tryd.func147, Tryd.ntmps147
  go_wp2
  go_loopw [3, 4, 5] (fun v3 v4 v5 wr => ∃ (k : Nat) (op : Bool), k ≤ 256 ∧ v5 = .int .i64 (k : Int) ∧ v4 = .bool op ∧ Hid (op = true ↔ (0 < k ∧ namedP ps (k - 1) = false)) ∧ Own wr w.heap.size v3 ((othersTo (namedP ps) k).map rg) ∧ Chg No w wr) (fun _ _ v _ => 256 - (intOf v).toNat)
  case atStart => exact ⟨0, false, by omega, rfl, rfl, Lib.hid (by simp), Own.nil _ _, Chg.refl _ _⟩
  case round =>
    obtain ⟨k, op, hk, rfl, rfl, HO, hO, hC⟩ := hrel
    by_cases hlt : k < 256
    rotate_left
    · obtain rfl : k = 256 := by omega
      go_wp2
      go_ret
      exact ⟨_, rfl, hO, hC⟩
    · obtain ⟨A0, c0, rfl, hS0⟩ := hO.form
      clear hS0
      go_wp2
      go_loopw [6, 7] (fun v6 v7 wq => ∃ i : Nat, i ≤ ps.length ∧ v7 = .int .i64 (i : Int) ∧ v6 = .bool (namedP (ps.take i) k) ∧ wq = wr) (fun _ v _ => ps.length - (intOf v).toNat)
      case atStart => exact ⟨0, by omega, rfl, by simp [namedP], rfl⟩
      case round =>
        obtain ⟨i, hi, rfl, rfl, rfl⟩ := hrel
        by_cases hil : i < ps.length
        · obtain ⟨g, o, A', c', rfl, hS, x0, x1, x2, x3, x4, x5, _⟩ := (HL.out.chgNo hC).at_ i (by simpa using hil)
          have HN := Lib.hid (namedP_take_succ ps i k hil)
          obtain ⟨p, hpe⟩ : ∃ p, ps[i] = p := ⟨_, rfl⟩
          rw [hpe] at HN
          simp only [List.getElem_map, hpe, rg, Ex.k, Ex.f, Ex.t, Ex.a, Ex.b, Ex.l] at x0 x1 x2 x3 x4 x5
          obtain ⟨p1, p2⟩ := p
          dsimp only at x0 x1 x2 x3 x4 x5 HN
          clear hpe x0 x3 x4 x5
          obtain ⟨b0, hb0⟩ : ∃ b, namedP (ps.take i) k = b := ⟨_, rfl⟩
          rw [hb0] at HN
          rw [hb0]
          clear hb0
          have hdone : ∀ b, (b0 || (decide (p1 ≤ k) && decide (k ≤ p2))) = b → namedP (ps.take (i + 1)) k = b := fun b h => HN.out.trans h
          have HD := Lib.hid hdone
          clear hdone HN
          cases b0 with
          | true =>
            go_wp2
            exact ⟨⟨i + 1, by omega, by go_num, by rw [HD.out true (by simp)], by first | trivial | rfl⟩, by simp [intOf]; omega⟩
          | false =>
            by_cases q1 : p1 ≤ k
            · have d1 : decide ((k : Int) ≥ (p1 : Int)) = true := decide_eq_true (by omega)
              by_cases q2 : k ≤ p2
              · have d2 : decide ((k : Int) ≤ (p2 : Int)) = true := decide_eq_true (by omega)
                go_wp2
                exact ⟨⟨i + 1, by omega, by go_num, by rw [HD.out true (by simp; omega)], by first | trivial | rfl⟩, by simp [intOf]; omega⟩
              · have d2 : decide ((k : Int) ≤ (p2 : Int)) = false := decide_eq_false (by omega)
                go_wp2
                exact ⟨⟨i + 1, by omega, by go_num, by rw [HD.out false (by simp; omega)], by first | trivial | rfl⟩, by simp [intOf]; omega⟩
            · have d1 : decide ((k : Int) ≥ (p1 : Int)) = false := decide_eq_false (by omega)
              go_wp2
              exact ⟨⟨i + 1, by omega, by go_num, by rw [HD.out false (by simp; omega)], by first | trivial | rfl⟩, by simp [intOf]; omega⟩
        · obtain rfl : i = ps.length := by omega
          rw [List.take_length]
          obtain ⟨b, hb⟩ : ∃ b, namedP ps k = b := ⟨_, rfl⟩
          rw [hb]
          have HB := Lib.hid hb; clear hb
          have hln := othersTo_len (namedP ps) k
          have hOlt := hO.lt
          cases b with
          | true =>
            have hO2 : Own wr w.heap.size (.slice A0 ((othersTo (namedP ps) k).map rg).length c0) ((othersTo (namedP ps) (k + 1)).map rg) := by
              have e : othersTo (namedP ps) (k + 1) = othersTo (namedP ps) k := by
                rw [show othersTo (namedP ps) (k + 1) = othersStep (namedP ps) (othersTo (namedP ps) k) k from rfl]
                unfold othersStep
                rw [if_pos HB.out]
              rw [e]; exact hO
            go_wp2
            exact ⟨⟨k + 1, false, by omega, by go_num, rfl, Lib.hid (by simp [HB.out]), hO2, hC⟩, by simp [intOf]; omega⟩
          | false =>
            cases op with
            | false =>
              have HNX : Hid (othersTo (namedP ps) (k + 1) = othersTo (namedP ps) k ++ [(k, k)]) := Lib.hid (by
                rw [show othersTo (namedP ps) (k + 1) = othersStep (namedP ps) (othersTo (namedP ps) k) k from rfl]
                unfold othersStep
                rw [if_neg (by simp [HB.out]), if_neg (fun h => by have := HO.out.2 h; cases this)])
              clear HO
              go_wp2_with (at_builtin; refine wpList_append_ex rfl _ _ rfl w.heap.size _ _ rfl (hO.chg ((Chg.refl No _).alloc _) fun _ _ h => h) _ 1 (.mk 1 (k : Int) (k : Int) 0 0 []) none 0 0 rfl (Blk.new _ _ _) ⟨rfl, Nat.le_refl _, by omega, fun h => absurd rfl h⟩ (by simp; omega) (by have := hC.size; simp; omega) ?_; intro v' w2 hO' hg hat)
              have hC2 : Chg No w w2 := (hC.alloc _).then_ (Chg.of_grown (S := fun j => some j = _) hg fun j e _ => e.symm) fun j hj q => by have := (hOlt j q.symm).1; omega
              have hO2 : Own w2 w.heap.size v' ((othersTo (namedP ps) (k + 1)).map rg) := by rw [HNX.out, List.map_append]; exact hO'
              exact ⟨⟨k + 1, true, by omega, by go_num, rfl, Lib.hid (by simp [HB.out]), hO2, hC2⟩, by simp [intOf]; omega⟩
            | true =>
              have hop := HO.out.1 rfl
              obtain ⟨k, rfl⟩ : ∃ k', k = k' + 1 := ⟨k - 1, by omega⟩
              have hop2 : namedP ps k = false := hop.2
              have hne := othersTo_ne (namedP ps) k hop2
              obtain ⟨o', pl, he⟩ := (List.eq_nil_or_concat (othersTo (namedP ps) (k + 1))).resolve_left hne
              have hnx : othersTo (namedP ps) (k + 1 + 1) = o' ++ [(pl.1, k + 1)] := by
                have := HB.out
                rw [show othersTo (namedP ps) (k + 1 + 1) = othersStep (namedP ps) (othersTo (namedP ps) (k + 1)) (k + 1) from rfl, he]
                unfold othersStep setLast
                rw [if_neg (by simp [this]), if_pos (by simp [hop2])]; simp
              rw [he] at hO hln
              rw [he]
              rw [List.concat_eq_append, List.map_append] at hO
              rw [List.concat_eq_append, List.map_append]
              have HX := Lib.hid hnx; clear hnx he hne HO hop hop2
              obtain ⟨g, cap, hve, hgb, hcl, hfr⟩ := hO.last (x := rg pl)
              injection hve with hv1 hv2 hv3
              subst hv1 hv3
              have hf2 := hfr ((o'.map rg).length * 6 + 2)
              have hol : o'.length ≤ 256 := by simp at hln; omega
              simp only [List.length_append, List.length_map, List.length_cons, List.length_nil, Nat.zero_add] at hcl hf2 hO ⊢
              clear hv2 hfr hOlt hln
              go_wp2
              have hO2 : Own (wr.setCell ⟨g, o'.length * 6 + 2, none⟩ (.int .i64 ((k : Int) + 1))) w.heap.size (.slice (some ⟨g, 0, none⟩) (o'.length + 1) c0) ((othersTo (namedP ps) (k + 1 + 1)).map rg) := by
                rw [HX.out, List.map_append]
                have := Own.setTo (l := o'.map rg) (x := rg pl) (by rw [List.length_map]; exact hO) ((k : Int) + 1)
                rw [List.length_map] at this
                exact this
              exact ⟨⟨k + 1 + 1, true, by omega, by go_num, rfl, Lib.hid (by simp [HB.out]), hO2, hC.setCell _ fun h => by simp at h; omega⟩, by simp [intOf]; omega⟩
end Go.Proofs.YticipgjbgcdccaaDoor
namespace Go.Proofs.YticipgjbgcdccaaDoor
open Go.RowKit

/-- what a step of this reader that makes a pattern leaves -/
def XPo (res : PR Ex) (r : Nat) (s : ByteArray) (w : World) (e : Ending) (w' : World) : Prop :=
  ∃ x A n c, e = .returned (exV x A n c) ∧ Sl w' (fun k => w.heap.size ≤ k) A n c x.l ∧ Chg (One r) w w' ∧
    match res with
    | .ok y j => x = y ∧ ∃ p, RR w' r s j 0 p
    | .bad c q => c ≠ 0 ∧ ∃ j, RR w' r s j c q
theorem XPo.ok {res : PR Ex} {r : Nat} {s : ByteArray} {w w' : World} {e : Ending} {x : Ex} {A : Option Addr} {n c j p : Nat} (h : res = .ok x j) (he : e = .returned (exV x A n c)) (hs : Sl w' (fun k => w.heap.size ≤ k) A n c x.l) (hr : RR w' r s j 0 p) (hc : Chg (One r) w w') : XPo res r s w e w' := by
  subst h; exact ⟨x, A, n, c, he, hs, hc, rfl, p, hr⟩
theorem XPo.bad {res : PR Ex} {r : Nat} {s : ByteArray} {w w' : World} {e : Ending} {x : Ex} {A : Option Addr} {n c j q : Nat} {cc : Int} (h : res = .bad cc q) (he : e = .returned (exV x A n c)) (hs : Sl w' (fun k => w.heap.size ≤ k) A n c x.l) (hr : RR w' r s j cc q) (hc : Chg (One r) w w') (h0 : cc ≠ 0) : XPo res r s w e w' := by
  subst h; exact ⟨x, A, n, c, he, hs, hc, h0, j, hr⟩

/-- how far this reader still has to go -/
def rrM (r n : Nat) (w : World) : Nat := match w.cell? ⟨r, 2, none⟩, w.cell? ⟨r, 1, none⟩ with | some (.int _ e), some (.int _ x) => if e = 0 then n + 2 - x.toNat else 0 | _, _ => 0
theorem rrM_good {w : World} {r n : Nat} {s : ByteArray} {i p : Nat} (h : RR w r s i 0 p) : rrM r n w = n + 2 - i := by
  obtain ⟨_, h1, h2, _⟩ := h.cells
  unfold rrM; rw [h1, h2]; simp
theorem rrM_bad {w : World} {r n : Nat} {s : ByteArray} {i p : Nat} {e : Int} (h : RR w r s i e p) (he : e ≠ 0) : rrM r n w = 0 := by
  obtain ⟨_, h1, h2, _⟩ := h.cells
  unfold rrM; rw [h1, h2]; simp [he]

theorem oneP_first {s : ByteArray} {b : Bool} {k : Nat} (h : b = true → bt s k ≠ 94) : oneP s b k = oneP s false k := by
  cases b with
  | false => rfl
  | true =>
    have := h rfl
    unfold oneP
    simp [this]
/-- a class's round, behind its head -/
def clM (s : ByteArray) (i : Nat) (nt : Bool) (m : Nat) (l : List (Nat × Nat)) (a j : Nat) : PR (List (Nat × Nat)) :=
  if bt s j = 45 then (oneP s false (j + 1)).bind fun b j2 => if b < a then .bad 22 i else classGo s i nt m (l ++ [(a, b)]) j2 else classGo s i nt m (l ++ [(a, a)]) j
theorem classGo_end {s : ByteArray} {i : Nat} {nt : Bool} {m : Nat} {l : List (Nat × Nat)} {k : Nat} (hl : l ≠ []) (hk : s.size ≤ k) (hm : 1 ≤ m) : classGo s i nt m l k = .bad 23 s.size := by
  obtain ⟨m, rfl⟩ : ∃ m', m = m' + 1 := ⟨m - 1, by omega⟩
  unfold classGo; rw [if_pos ⟨hl, hk⟩]
theorem classGo_stop {s : ByteArray} {i : Nat} {nt : Bool} {m : Nat} {l : List (Nat × Nat)} {k : Nat} (hl : l ≠ []) (hk : bt s k = 93) (hm : 1 ≤ m) : classGo s i nt m l k = .ok l k := by
  have hlt := bt_small hk (by omega)
  obtain ⟨m, rfl⟩ : ∃ m', m = m' + 1 := ⟨m - 1, by omega⟩
  unfold classGo; rw [if_neg (by omega), if_pos ⟨hl, hk⟩]
theorem classGo_head {s : ByteArray} {i : Nat} {nt : Bool} {m : Nat} {l : List (Nat × Nat)} {k : Nat} (h1 : l = [] ∨ bt s k ≠ 93) (h2 : l = [] → nt = false → bt s k ≠ 94) (hm : s.size < k + (m + 1)) :
    classGo s i nt (m + 1) l k = (oneP s false k).bind fun a j => clM s i nt m l a j := by
  by_cases he : s.size ≤ k
  · have ho : ∀ b, oneP s b k = .bad 23 s.size := fun b => by unfold oneP; rw [if_pos he]
    rw [ho, PR.bind_bad]
    by_cases hl : l = []
    · unfold classGo
      rw [if_neg (fun h => h.1 hl), if_neg (fun h => h.1 hl), ho, PR.bind_bad]
    · exact classGo_end hl he (by omega)
  · have e : oneP s (l.isEmpty && !nt) k = oneP s false k := oneP_first fun h => by
      simp at h
      exact h2 h.1 h.2
    conv => lhs; unfold classGo
    rw [if_neg (fun h => he h.2), if_neg (by rintro ⟨a, b⟩; rcases h1 with h | h; exact a h; exact h b), e]
    congr 1
    funext a j
    unfold clM
    by_cases hj : s.size ≤ j
    · rw [if_pos hj, if_neg (by rw [bt_end s j hj]; omega), classGo_end (by simp) hj (by omega)]
    · rw [if_neg hj]

/-- the state of a class's loop -/
def ClG (fin : PR (List (Nat × Nat))) (s : ByteArray) (i : Nat) (nt : Bool) (l : List (Nat × Nat)) (r : Nat) (wr : World) (k m p : Nat) : Prop :=
  Hid (classGo s i nt m l k = fin) ∧ RR wr r s k 0 p ∧ k ≤ s.size ∧ s.size < k + m ∧ l.length ≤ k ∧ Hid (l = [] → nt = false → bt s k ≠ 94)
def ClB (fin : PR (List (Nat × Nat))) (s : ByteArray) (l : List (Nat × Nat)) (r : Nat) (wr : World) (c : Int) (q j : Nat) : Prop :=
  Hid (l ≠ []) ∧ Hid (c ≠ 0) ∧ Hid (fin = .bad c q) ∧ RR wr r s j c q
def ClS (fin : PR (List (Nat × Nat))) (s : ByteArray) (i : Nat) (nt : Bool) (l : List (Nat × Nat)) (r : Nat) (wr : World) : Prop :=
  (∃ k m p, ClG fin s i nt l r wr k m p) ∨ ∃ c q j, ClB fin s l r wr c q j
/-- what the loop's head tells -/
def ClH (fin : PR (List (Nat × Nat))) (s : ByteArray) (i : Nat) (nt : Bool) (l : List (Nat × Nat)) (r : Nat) (wr : World) (b : Bool) : Prop :=
  match b with
  | true => ∃ k m p, ClG fin s i nt l r wr k m p ∧ Hid (l = [] ∨ bt s k ≠ 93)
  | false => (∃ k m p, ClG fin s i nt l r wr k m p ∧ Hid (l ≠ []) ∧ Hid (bt s k = 93)) ∨ ∃ c q j, ClB fin s l r wr c q j

set_option maxHeartbeats 2000000 in
set_option maxRecDepth 100000 in
theorem rclass_any (w : World) (r : Nat) (s : ByteArray) (i p : Nat) (h : RR w r s i 0 p) (hs : s.size ≤ 65536) (hi : i < s.size) :
    Calls Tryd.prog 133 #[.pointer (some ⟨r, 0, none⟩)] w fun e w' => XPo (classP s i) r s w e w' := by
  have hrlt : r < w.heap.size := Blk.lt h
  obtain ⟨y0, y1, y2, y3⟩ := h.cells
  obtain ⟨e1, e2, e3⟩ := h.froz
  have hst : RR ((w.setCell ⟨r, 1, none⟩ (.int .i64 ((i : Int) + 1))).alloc (.cells #[.int .i64 0, .int .i64 0, .int .i64 0, .int .i64 0, .int .i64 0, .slice none 0 0] 25)) r s (i + 1) 0 p := Blk.alloc h.step _
  have hc1 : Chg (One r) w ((w.setCell ⟨r, 1, none⟩ (.int .i64 ((i : Int) + 1))).alloc (.cells #[.int .i64 0, .int .i64 0, .int .i64 0, .int .i64 0, .int .i64 0, .slice none 0 0] 25)) := Chg.alloc ((Chg.refl (One r) w).setCell (p := ⟨r, 1, none⟩) _ fun _ => rfl) _
  have hb1 : Blk ((w.setCell ⟨r, 1, none⟩ (.int .i64 ((i : Int) + 1))).alloc (.cells #[.int .i64 0, .int .i64 0, .int .i64 0, .int .i64 0, .int .i64 0, .slice none 0 0] 25)) w.heap.size 25 #[.int .i64 0, .int .i64 0, .int .i64 0, .int .i64 0, .int .i64 0, .slice none 0 0] := by
    have := Blk.new (w.setCell ⟨r, 1, none⟩ (.int .i64 ((i : Int) + 1))) 25 #[.int .i64 0, .int .i64 0, .int .i64 0, .int .i64 0, .int .i64 0, .slice none 0 0]
    simpa [World.setCell] using this
  obtain ⟨nt, hnt⟩ : ∃ nt : Bool, decide (bt s (i + 1) = 94) = nt := ⟨_, rfl⟩
  obtain ⟨st, hst2⟩ : ∃ st : Nat, (if bt s (i + 1) = 94 then i + 2 else i + 1) = st := ⟨_, rfl⟩
  obtain ⟨fin, hfn⟩ : ∃ f, classGo s i nt (s.size + 1) [] st = f := ⟨_, rfl⟩
  have hfin : classP s i = fin.bind fun l j => classEnd i nt l j := by unfold classP; rw [hnt, hst2, hfn]
  have hst3 : st ≤ s.size := by
    rw [← hst2]; split
    · rename_i e
      have := bt_small e (by omega); omega
    · omega
  have hst4 : nt = false → bt s st ≠ 94 := by
    intro hz
    rw [hz] at hnt
    have hq : ¬ bt s (i + 1) = 94 := by simpa using hnt
    rw [if_neg hq] at hst2
    rw [← hst2]; exact hq
  have HNT := Lib.hid hnt
  have HST := Lib.hid hst2
  have HFN := Lib.hid hfn
  have HF := Lib.hid hfin
  have H4 := Lib.hid hst4
  clear hnt hst2 hfin hfn hst4 h
  go_enter Tryd.func133, Tryd.ntmps133
  go_upto_region 3 with fail
  go_cut [4] (fun s4 wx => IsV s4 (.bool nt) ∧ (∃ p, RR wx r s st 0 p) ∧ Blk wx w.heap.size 25 #[.int .i64 0, .int .i64 0, .int .i64 0, .int .i64 0, .int .i64 0, .slice none 0 0] ∧ Chg (One r) w wx)
  case first =>
    have hnt := HNT.out
    have hst2 := HST.out
    by_cases q : bt s (i + 1) = 94
    · rw [if_pos q] at hst2
      have hq : nt = true := by rw [← hnt]; simpa using q
      subst hq hst2
      have hT := rtook_yes _ r s (i + 1) p 94 hst hs (by omega) q
      have HT := Lib.hid hT
      clear hT q hnt
      go_wp2_with fail
      refine HT.out.mono ?_
      rintro e w2 ⟨rfl, hr3, hc3⟩
      go_wp2_with fail
      go_meet
      exact ⟨rfl, ⟨_, hr3⟩, hb1.chg hc3 (fun e => by unfold One at e; omega), hc1.trans hc3⟩
    · rw [if_neg q] at hst2
      have hq : nt = false := by rw [← hnt]; simpa using q
      subst hq hst2
      have hT := rtook_no _ r s (i + 1) 0 p 94 hst (by omega) (by simpa using q)
      have HT := Lib.hid hT
      clear hT q hnt
      go_wp2_with fail
      refine HT.out.mono ?_
      rintro e w2 ⟨rfl, n2, rfl⟩
      go_wp2_with fail
      go_meet
      exact ⟨rfl, ⟨_, hst.drewN _⟩, hb1.drewN _, hc1.drewN _⟩
  case rest =>
    obtain ⟨h4, ⟨p0, hR⟩, hb, hC⟩ := hcut
    unfold IsV at h4; subst h4
    clear hst hc1 hb1 y0 y1 y2 y3 e1 e2 e3
    go_wp2
    go_loopw [5, 6] (fun v5 v6 wr => ∃ l : List (Nat × Nat), v6 = .bool l.isEmpty ∧ Own wr (w.heap.size + 1) v5 (l.map rg) ∧ ClS fin s i nt l r wr ∧ l.length ≤ 65537 ∧ Blk wr w.heap.size 25 #[.int .i64 0, .int .i64 0, .int .i64 0, .int .i64 0, .int .i64 0, .slice none 0 0] ∧ Chg (One r) w wr) (fun _ _ wr => rrM r s.size wr)
    case atStart => exact ⟨[], rfl, Own.nil _ _, .inl ⟨st, s.size + 1, p0, HFN, hR, hst3, by omega, by simp, Lib.hid fun _ => H4.out⟩, by simp, hb, hC⟩
    case round =>
      clear hR hb hC
      obtain ⟨l, rfl, hO, hS, hll, hb, hC⟩ := hrel
      have HS := Lib.hid hS
      have hOlt := hO.lt
      have hbl := hb.lt
      clear hS
      go_upto_region 6 with fail
      go_cut [34] (fun s34 wx => ∃ b, IsV s34 (.bool b) ∧ ClH fin s i nt l r wr b ∧ ∃ n, wx = wr.drewN n)
      case first =>
        rcases HS.out with ⟨k, m, p1, hg⟩ | ⟨c, q, j, hg⟩
        · obtain ⟨HG, hR, hk, hm, hlk, H5⟩ := hg
          obtain ⟨y0, y1, y2, y3⟩ := hR.cells
          have HR := Lib.hid hR
          clear hR
          cases l with
          | nil =>
            simp only [List.isEmpty_nil]
            go_wp2
            go_meet
            exact ⟨true, rfl, ⟨k, m, p1, ⟨HG, HR.out, hk, hm, hlk, (by first | exact H5 | exact Lib.hid fun _ => H5.out trivial)⟩, Lib.hid (.inl rfl)⟩, 0, rfl⟩
          | cons x l =>
            simp only [List.isEmpty_cons]
            by_cases q : bt s k = 93
            · have hT := fun w' (h' : RR w' r s k 0 p1) => rnext_any w' r s k 0 p1 93 true h' (by omega) (by simpa using q)
              have Q := Lib.hid q
              clear q
              go_wp2_with (go_at_call 110; refine (hT _ HR.out).mono ?_; rintro e w2 ⟨rfl, n2, rfl⟩)
              go_meet
              exact ⟨false, rfl, .inl ⟨k, m, p1, ⟨HG, HR.out, hk, hm, hlk, H5⟩, Lib.hid (by simp), Q⟩, _, rfl⟩
            · have hT := fun w' (h' : RR w' r s k 0 p1) => rnext_any w' r s k 0 p1 93 false h' (by omega) (by simpa using q)
              have Q := Lib.hid q
              clear q
              go_wp2_with (go_at_call 110; refine (hT _ HR.out).mono ?_; rintro e w2 ⟨rfl, n2, rfl⟩)
              go_meet
              exact ⟨true, rfl, ⟨k, m, p1, ⟨HG, HR.out, hk, hm, hlk, H5⟩, Lib.hid (.inr Q.out)⟩, _, rfl⟩
        · obtain ⟨HL, HC, HQ, hR⟩ := hg
          obtain ⟨y0, y1, y2, y3⟩ := hR.cells
          have hc : (c == 0) = false := by simpa using HC.out
          cases l with
          | nil => exact absurd rfl HL.out
          | cons x l =>
          simp only [List.isEmpty_cons]
          go_wp2
          go_meet
          exact ⟨false, rfl, .inr ⟨c, q, j, HL, HC, HQ, hR⟩, 0, rfl⟩
      case rest =>
        obtain ⟨b, h34, hH, n0, rfl⟩ := hcut
        unfold IsV at h34; subst h34
        have HH := Lib.hid hH
        clear hH HS
        have hno : ∀ g, w.heap.size ≤ g → ¬ One r g := fun g hg => by unfold One; omega
        cases b with
        | false =>
          obtain ⟨A0, c0, rfl, hSl⟩ := hO.form
          rw [List.length_map] at hSl hO
          have HSL := Lib.hid hSl
          clear hSl
          rcases HH.out with ⟨k, m, p1, ⟨HG, hR, hk, hm, hlk, H5⟩, HL, HQ⟩ | ⟨c, q, j, HL, HC, HQ, hR⟩
          · have hks := bt_small HQ.out (by omega)
            have hfin : fin = .ok l k := by rw [← HG.out]; exact classGo_stop HL.out HQ.out (by omega)
            have hce : classP s i = classEnd i nt l k := by rw [HF.out, hfin]; rfl
            have HCE := Lib.hid hce
            have HR := Lib.hid hR
            clear hR hfin hce HH
            go_wp2_with fail
            refine (rtook_yes _ r s k p1 93 (HR.out.drewN n0) hs (by omega) HQ.out).mono ?_
            rintro e w2 ⟨rfl, g2, c2⟩
            have hb2 := (hb.drewN n0).chg c2 (hno _ (Nat.le_refl _))
            have hC2 := (hC.drewN n0).trans c2
            have hO2 := (hO.chg ((Chg.refl No _).drewN n0) fun _ _ h => h).chg c2 fun q hq => hno q (by omega)
            have hz2 := hC2.size
            have hl2 := hb2.lt
            have hSl2 : Sl w2 (fun k => w.heap.size + 1 ≤ k) A0 l.length c0 (l.map rg) := (HSL.out.drewN n0).chg c2 fun q hq => hno q (by omega)
            have G2 := Lib.hid g2
            obtain ⟨y0, y1, y2, y3⟩ := g2.cells
            clear g2 HSL
            cases nt with
            | false =>
              have HX : Hid (classP s i = .ok (oneOr 3 (l.map rg)) (k + 1)) := Lib.hid (by
                rw [HCE.out]; unfold classEnd; rw [if_neg (by simpa using HL.out), eitherR_one]; rfl)
              clear HCE
              go_wp2_with fail
              refine (reither_any _ (l.map rg) A0 _ c0 _ hSl2).mono ?_
              rintro e w4 ⟨A4, n4, c4, rfl, hS4, hc4⟩
              have hb4 := hb2.chg hc4 id
              have hC4 := hC2.then_ hc4 fun k hk e => e.elim
              go_wp2_with (refine wpList_store_ex rfl _ _ rfl _ _ _ _ _ _ _ hb4 rfl _ _ _ _ _ _ _ _ rfl ?_; intro wz hbz hcz)
              refine bodyPost_ret_ex rfl rfl rfl hbz (XPo.ok HX.out rfl (Sl.mono (hS4.chg hcz fun k hk e => by unfold One at e; omega) fun k hk => by omega) ((G2.out.chg hc4 id).chg hcz fun e => by unfold One at e; omega) (hC4.then_ hcz fun q hq e => by unfold One at e; omega))
            | true =>
              go_wp2_with fail
              refine (rothers_any _ A0 _ c0 l _ hSl2 (by omega)).mono ?_
              rintro e w3 ⟨v3, rfl, hO3, hc3⟩
              obtain ⟨A3, c3, rfl, hSl3⟩ := hO3.form
              have hb3 := hb2.chg hc3 id
              have hC3 := hC2.then_ hc3 fun k hk e => e.elim
              have G3 := Lib.hid (G2.out.chg hc3 id)
              obtain ⟨ps, hps⟩ : ∃ ps, othersP l = ps := ⟨_, rfl⟩
              rw [hps] at hSl3 ⊢
              have HPS := Lib.hid hps
              clear hb2 hps hO3
              cases ps with
              | nil =>
                have HX : Hid (classP s i = .bad 22 i) := Lib.hid (by
                  rw [HCE.out]; unfold classEnd; rw [if_pos (by simpa using HPS.out)])
                clear HCE HPS hSl3
                simp only [List.map_nil, List.length_nil]
                go_wp2_with fail
                refine (rfail_ok _ r s (k + 1) p1 22 i G3.out).mono ?_
                rintro e w4 ⟨rfl, g4, k4⟩
                have hb4 := hb3.chg k4 (hno _ (Nat.le_refl _))
                have hC4 := hC3.trans k4
                go_wp2_with (refine wpList_store_ex rfl _ _ rfl _ _ _ _ _ _ _ hb4 rfl _ _ _ _ _ _ _ _ rfl ?_; intro wz hbz hcz)
                refine bodyPost_ret_ex rfl rfl rfl hbz (XPo.bad (x := zeroEx) HX.out rfl ⟨rfl, Nat.le_refl _, by omega, fun h => absurd rfl h⟩ (g4.chg hcz fun e => by unfold One at e; omega) (hC4.then_ hcz fun q hq e => by unfold One at e; omega) (by decide))
              | cons q ps =>
                have HX : Hid (classP s i = .ok (oneOr 3 ((q :: ps).map rg)) (k + 1)) := Lib.hid (by
                  rw [HCE.out]; unfold classEnd; rw [if_neg (by rw [if_pos rfl, HPS.out]; simp), eitherR_one, if_pos rfl, HPS.out])
                clear HCE HPS
                simp only [List.length_map, List.length_cons] at hSl3
                go_wp2_with fail
                refine (reither_any _ ((q :: ps).map rg) A3 _ c3 _ hSl3).mono ?_
                rintro e w4 ⟨A4, n4, c4, rfl, hS4, hc4⟩
                have hb4 := hb3.chg hc4 id
                have hC4 := hC3.then_ hc4 fun k hk e => e.elim
                go_wp2_with (refine wpList_store_ex rfl _ _ rfl _ _ _ _ _ _ _ hb4 rfl _ _ _ _ _ _ _ _ rfl ?_; intro wz hbz hcz)
                refine bodyPost_ret_ex rfl rfl rfl hbz (XPo.ok HX.out rfl (Sl.mono (hS4.chg hcz fun k hk e => by unfold One at e; omega) fun k hk => by omega) ((G3.out.chg hc4 id).chg hcz fun e => by unfold One at e; omega) (hC4.then_ hcz fun q hq e => by unfold One at e; omega))
          · have HX : Hid (classP s i = .bad c q) := Lib.hid (by rw [HF.out, HQ.out]; rfl)
            have HR := Lib.hid hR
            have hcb : (c != 0) = true := by simpa using HC.out
            clear hR HH
            go_wp2_with fail
            refine (rtook_no _ r s j c q 93 (HR.out.drewN n0) (by omega) (ne_bool HC.out _)).mono ?_
            rintro e w2 ⟨rfl, n2, rfl⟩
            obtain ⟨y0, y1, y2, y3⟩ := HR.out.cells
            have hb2 := hb
            have hC2 := hC
            cases nt with
            | false =>
              go_wp2_with fail
              refine (reither_any _ (l.map rg) A0 _ c0 _ (HSL.out.drewN _)).mono ?_
              rintro e w4 ⟨A4, n4, c4, rfl, hS4, hc4⟩
              have hb4 := (hb2.drewN _).chg hc4 id
              have hC4 := (hC2.drewN _).then_ hc4 fun k hk e => e.elim
              go_wp2_with (refine wpList_store_ex rfl _ _ rfl _ _ _ _ _ _ _ hb4 rfl _ _ _ _ _ _ _ _ rfl ?_; intro wz hbz hcz)
              refine bodyPost_ret_ex rfl rfl rfl hbz (XPo.bad HX.out rfl (Sl.mono (hS4.chg hcz fun k hk e => by unfold One at e; omega) fun k hk => by omega) (((HR.out.drewN _).chg hc4 id).chg hcz fun e => by unfold One at e; omega) (hC4.then_ hcz fun q hq e => by unfold One at e; omega) HC.out)
            | true =>
              go_wp2_with fail
              refine (reither_any _ (l.map rg) A0 _ c0 _ (HSL.out.drewN _)).mono ?_
              rintro e w4 ⟨A4, n4, c4, rfl, hS4, hc4⟩
              have hb4 := (hb2.drewN _).chg hc4 id
              have hC4 := (hC2.drewN _).then_ hc4 fun k hk e => e.elim
              go_wp2_with (refine wpList_store_ex rfl _ _ rfl _ _ _ _ _ _ _ hb4 rfl _ _ _ _ _ _ _ _ rfl ?_; intro wz hbz hcz)
              refine bodyPost_ret_ex rfl rfl rfl hbz (XPo.bad HX.out rfl (Sl.mono (hS4.chg hcz fun k hk e => by unfold One at e; omega) fun k hk => by omega) (((HR.out.drewN _).chg hc4 id).chg hcz fun e => by unfold One at e; omega) (hC4.then_ hcz fun q hq e => by unfold One at e; omega) HC.out)
        | true =>
          obtain ⟨k, m, p1, ⟨HG, hR, hk, hm, hlk, H5⟩, HQ⟩ := HH.out
          obtain ⟨m, rfl⟩ : ∃ m', m = m' + 1 := ⟨m - 1, by omega⟩
          have HGO : Hid (((oneP s false k).bind fun a j => clM s i nt m l a j) = fin) := Lib.hid (by rw [← HG.out, classGo_head HQ.out H5.out hm])
          have HM := Lib.hid (rrM_good hR (n := s.size))
          have HR := Lib.hid hR
          have hsz := hC.size
          have hOlt' := hOlt
          clear hR HH HG HQ H5
          go_wp2_with fail
          refine (rone_any _ r s k p1 (HR.out.drewN n0) hs hk).mono ?_
          intro e w2 hp
          cases hq : oneP s false k with
          | bad c q =>
            rw [hq] at hp
            obtain ⟨⟨a, rfl⟩, ⟨j, g2⟩, c2, hc⟩ := hp
            have HX : Hid (fin = .bad c q) := Lib.hid (by rw [← HGO.out, hq]; rfl)
            have HC := Lib.hid hc
            have hcb : (c == 0) = false := by simpa using hc
            obtain ⟨y0, y1, y2, y3⟩ := g2.cells
            have G2 := Lib.hid g2
            clear hq HGO hc g2
            go_wp2_with fail
            refine (rtook_no _ r s j c q 45 G2.out (by omega) (ne_bool HC.out _)).mono ?_
            rintro e w3 ⟨rfl, n3, rfl⟩
            have hX : Chg (One r) wr (w2.drewN n3) := (((Chg.refl _ _).drewN n0).trans c2).drewN n3
            have HRX := Lib.hid (G2.out.drewN n3)
            have hOX := hO.chg hX fun q hq => hno q (by omega)
            have hCX := hC.trans hX
            have hbX := hb.chg hX (hno _ (Nat.le_refl _))
            go_wp2_with (at_builtin; refine wpList_append_ex rfl _ _ rfl (w.heap.size + 1) _ _ rfl (hOX.chg ((Chg.refl No _).alloc _) fun _ _ h => h) _ 1 (rg (a, a)) none 0 0 rfl (Blk.new _ _ _) ⟨rfl, Nat.le_refl _, by omega, fun h => absurd rfl h⟩ (by first | omega | (simp; omega)) (by have := hbX.lt; first | omega | (simp at this ⊢; omega)) ?_; intro v' w8 hO' hg hat)
            have h78 : Chg (fun q => some q = u5.ownBlock) _ w8 := ((Chg.refl _ _).alloc _).then_ (Chg.of_grown (S := fun q => some q = _) hg fun q e _ => e.symm) fun q _ e => e
            have hnr : ¬ some r = u5.ownBlock := fun e => by have := (hOlt' _ e.symm).1; omega
            have hnw : ¬ some w.heap.size = u5.ownBlock := fun e => by have := (hOlt' _ e.symm).1; omega
            have hR8 := HRX.out.chg h78 hnr
            have hM := rrM_bad hR8 (n := s.size) HC.out
            refine ⟨⟨l ++ [(a, a)], (by simp), by rw [List.map_append]; exact hO', .inr ⟨c, q, j, Lib.hid (by simp), HC, HX, hR8⟩, by simp; omega, hbX.chg h78 hnw, hCX.then_ h78 fun q hq e => by have := (hOlt' _ e.symm).1; omega⟩, ?_⟩
            show rrM r s.size w8 < rrM r s.size _
            rw [hM, HM.out]; omega
          | ok a j =>
            rw [hq] at hp
            obtain ⟨rfl, ⟨p2, g2⟩, c2⟩ := hp
            obtain ⟨o1, o2, o3⟩ := oneP_ok _ _ _ _ _ hq
            have HX : Hid (clM s i nt m l a j = fin) := Lib.hid (by rw [← HGO.out, hq]; rfl)
            have G2 := Lib.hid g2
            clear hq HGO g2
            by_cases q45 : bt s j = 45
            rotate_left
            · have HY : Hid (classGo s i nt m (l ++ [(a, a)]) j = fin) := Lib.hid (by rw [← HX.out]; unfold clM; rw [if_neg q45])
              have hT := fun w' (h' : RR w' r s j 0 p2) => rtook_no w' r s j 0 p2 45 h' (by omega) (by simpa using q45)
              obtain ⟨y0, y1, y2, y3⟩ := G2.out.cells
              clear q45 HX
              go_wp2_with fail
              refine (hT _ G2.out).mono ?_
              rintro e w3 ⟨rfl, n3, rfl⟩
              have hX : Chg (One r) wr (w2.drewN n3) := (((Chg.refl _ _).drewN n0).trans c2).drewN n3
              have HRX := Lib.hid (G2.out.drewN n3)
              have hOX := hO.chg hX fun q hq => hno q (by omega)
              have hCX := hC.trans hX
              have hbX := hb.chg hX (hno _ (Nat.le_refl _))
              go_wp2_with (at_builtin; refine wpList_append_ex rfl _ _ rfl (w.heap.size + 1) _ _ rfl (hOX.chg ((Chg.refl No _).alloc _) fun _ _ h => h) _ 1 (rg (a, a)) none 0 0 rfl (Blk.new _ _ _) ⟨rfl, Nat.le_refl _, by omega, fun h => absurd rfl h⟩ (by first | omega | (simp; omega)) (by have := hbX.lt; first | omega | (simp at this ⊢; omega)) ?_; intro v' w8 hO' hg hat)
              have h78 : Chg (fun q => some q = u5.ownBlock) _ w8 := ((Chg.refl _ _).alloc _).then_ (Chg.of_grown (S := fun q => some q = _) hg fun q e _ => e.symm) fun q _ e => e
              have hnr : ¬ some r = u5.ownBlock := fun e => by have := (hOlt' _ e.symm).1; omega
              have hnw : ¬ some w.heap.size = u5.ownBlock := fun e => by have := (hOlt' _ e.symm).1; omega
              have hR8 := HRX.out.chg h78 hnr
              have hM := rrM_good hR8 (n := s.size)
              refine ⟨⟨l ++ [(a, a)], (by simp), by rw [List.map_append]; exact hO', .inl ⟨j, m, p2, HY, hR8, o2, by omega, by simp; omega, Lib.hid fun h => absurd h (by simp)⟩, by simp; omega, hbX.chg h78 hnw, hCX.then_ h78 fun q hq e => by have := (hOlt' _ e.symm).1; omega⟩, ?_⟩
              show rrM r s.size w8 < rrM r s.size _
              rw [hM, HM.out]; omega
            · have HY : Hid (((oneP s false (j + 1)).bind fun b j2 => if b < a then .bad 22 i else classGo s i nt m (l ++ [(a, b)]) j2) = fin) := Lib.hid (by rw [← HX.out]; unfold clM; rw [if_pos q45])
              have hj1 := bt_small q45 (by omega)
              have hT := fun w' (h' : RR w' r s j 0 p2) => rtook_yes w' r s j p2 45 h' hs (by omega) q45
              clear q45 HX
              go_wp2_with fail
              refine (hT _ G2.out).mono ?_
              rintro e w3 ⟨rfl, g3, c3⟩
              have hX3 : Chg (One r) wr w3 := (((Chg.refl _ _).drewN n0).trans c2).trans c3
              have G3 := Lib.hid g3
              clear hT g3
              go_wp2_with fail
              refine (rone_any _ r s (j + 1) p2 G3.out hs (by omega)).mono ?_
              intro e w4 hp
              cases hq : oneP s false (j + 1) with
              | bad c q =>
                rw [hq] at hp
                obtain ⟨⟨b, rfl⟩, ⟨j4, g4⟩, c4, hc⟩ := hp
                have HZ : Hid (fin = .bad c q) := Lib.hid (by rw [← HY.out, hq]; rfl)
                have HC := Lib.hid hc
                have hcb : (c == 0) = false := by simpa using hc
                obtain ⟨y0, y1, y2, y3⟩ := g4.cells
                have HRX := Lib.hid g4
                clear hq HY hc g4
                have hX := hX3.trans c4
                have hOX := hO.chg hX fun q hq => hno q (by omega)
                have hCX := hC.trans hX
                have hbX := hb.chg hX (hno _ (Nat.le_refl _))
                go_wp2_with (at_builtin; refine wpList_append_ex rfl _ _ rfl (w.heap.size + 1) _ _ rfl (hOX.chg ((Chg.refl No _).alloc _) fun _ _ h => h) _ 1 (rg (a, b)) none 0 0 rfl (Blk.new _ _ _) ⟨rfl, Nat.le_refl _, by omega, fun h => absurd rfl h⟩ (by first | omega | (simp; omega)) (by have := hbX.lt; first | omega | (simp at this ⊢; omega)) ?_; intro v' w8 hO' hg hat)
                have h78 : Chg (fun q => some q = u5.ownBlock) _ w8 := ((Chg.refl _ _).alloc _).then_ (Chg.of_grown (S := fun q => some q = _) hg fun q e _ => e.symm) fun q _ e => e
                have hnr : ¬ some r = u5.ownBlock := fun e => by have := (hOlt' _ e.symm).1; omega
                have hnw : ¬ some w.heap.size = u5.ownBlock := fun e => by have := (hOlt' _ e.symm).1; omega
                have hR8 := HRX.out.chg h78 hnr
                have hM := rrM_bad hR8 (n := s.size) HC.out
                refine ⟨⟨l ++ [(a, b)], (by simp), by rw [List.map_append]; exact hO', .inr ⟨c, q, j4, Lib.hid (by simp), HC, HZ, hR8⟩, by simp; omega, hbX.chg h78 hnw, hCX.then_ h78 fun q hq e => by have := (hOlt' _ e.symm).1; omega⟩, ?_⟩
                show rrM r s.size w8 < rrM r s.size _
                rw [hM, HM.out]; omega
              | ok b j4 =>
                rw [hq] at hp
                obtain ⟨rfl, ⟨p4, g4⟩, c4⟩ := hp
                obtain ⟨u1, u2, u3⟩ := oneP_ok _ _ _ _ _ hq
                have HZ : Hid ((if b < a then .bad 22 i else classGo s i nt m (l ++ [(a, b)]) j4) = fin) := Lib.hid (by rw [← HY.out, hq]; rfl)
                obtain ⟨y0, y1, y2, y3⟩ := g4.cells
                have G4 := Lib.hid g4
                have hX4 := hX3.trans c4
                clear hq HY g4
                by_cases hba : b < a
                · have HB : Hid (fin = .bad 22 i) := Lib.hid (by rw [← HZ.out, if_pos hba])
                  have hba' : decide ((b : Int) < (a : Int)) = true := decide_eq_true (by omega)
                  clear HZ
                  go_wp2_with fail
                  refine (rfail_ok _ r s j4 p4 22 i G4.out).mono ?_
                  rintro e w5 ⟨rfl, g5, c5⟩
                  have hX := hX4.trans c5
                  have HRX := Lib.hid g5
                  clear g5 hba
                  have hOX := hO.chg hX fun q hq => hno q (by omega)
                  have hCX := hC.trans hX
                  have hbX := hb.chg hX (hno _ (Nat.le_refl _))
                  go_wp2_with (at_builtin; refine wpList_append_ex rfl _ _ rfl (w.heap.size + 1) _ _ rfl (hOX.chg ((Chg.refl No _).alloc _) fun _ _ h => h) _ 1 (rg (a, b)) none 0 0 rfl (Blk.new _ _ _) ⟨rfl, Nat.le_refl _, by omega, fun h => absurd rfl h⟩ (by first | omega | (simp; omega)) (by have := hbX.lt; first | omega | (simp at this ⊢; omega)) ?_; intro v' w8 hO' hg hat)
                  have h78 : Chg (fun q => some q = u5.ownBlock) _ w8 := ((Chg.refl _ _).alloc _).then_ (Chg.of_grown (S := fun q => some q = _) hg fun q e _ => e.symm) fun q _ e => e
                  have hnr : ¬ some r = u5.ownBlock := fun e => by have := (hOlt' _ e.symm).1; omega
                  have hnw : ¬ some w.heap.size = u5.ownBlock := fun e => by have := (hOlt' _ e.symm).1; omega
                  have hR8 := HRX.out.chg h78 hnr
                  have hM := rrM_bad hR8 (n := s.size) (by decide)
                  refine ⟨⟨l ++ [(a, b)], (by simp), by rw [List.map_append]; exact hO', .inr ⟨22, i, j4, Lib.hid (by simp), Lib.hid (by decide), HB, hR8⟩, by simp; omega, hbX.chg h78 hnw, hCX.then_ h78 fun q hq e => by have := (hOlt' _ e.symm).1; omega⟩, ?_⟩
                  show rrM r s.size w8 < rrM r s.size _
                  rw [hM, HM.out]; omega
                · have HB : Hid (classGo s i nt m (l ++ [(a, b)]) j4 = fin) := Lib.hid (by rw [← HZ.out, if_neg hba])
                  have hba' : ¬ (b : Int) < (a : Int) := by omega
                  have hX := hX4
                  have HRX := G4
                  clear HZ hba
                  have hOX := hO.chg hX fun q hq => hno q (by omega)
                  have hCX := hC.trans hX
                  have hbX := hb.chg hX (hno _ (Nat.le_refl _))
                  go_wp2_with (at_builtin; refine wpList_append_ex rfl _ _ rfl (w.heap.size + 1) _ _ rfl (hOX.chg ((Chg.refl No _).alloc _) fun _ _ h => h) _ 1 (rg (a, b)) none 0 0 rfl (Blk.new _ _ _) ⟨rfl, Nat.le_refl _, by omega, fun h => absurd rfl h⟩ (by first | omega | (simp; omega)) (by have := hbX.lt; first | omega | (simp at this ⊢; omega)) ?_; intro v' w8 hO' hg hat)
                  have h78 : Chg (fun q => some q = u5.ownBlock) _ w8 := ((Chg.refl _ _).alloc _).then_ (Chg.of_grown (S := fun q => some q = _) hg fun q e _ => e.symm) fun q _ e => e
                  have hnr : ¬ some r = u5.ownBlock := fun e => by have := (hOlt' _ e.symm).1; omega
                  have hnw : ¬ some w.heap.size = u5.ownBlock := fun e => by have := (hOlt' _ e.symm).1; omega
                  have hR8 := HRX.out.chg h78 hnr
                  have hM := rrM_good hR8 (n := s.size)
                  refine ⟨⟨l ++ [(a, b)], (by simp), by rw [List.map_append]; exact hO', .inl ⟨j4, m, p4, HB, hR8, u2, by omega, by simp; omega, Lib.hid fun h => absurd h (by simp)⟩, by simp; omega, hbX.chg h78 hnw, hCX.then_ h78 fun q hq e => by have := (hOlt' _ e.symm).1; omega⟩, ?_⟩
                  show rrM r s.size w8 < rrM r s.size _
                  rw [hM, HM.out]; omega
end Go.Proofs.YticipgjbgcdccaaDoor
