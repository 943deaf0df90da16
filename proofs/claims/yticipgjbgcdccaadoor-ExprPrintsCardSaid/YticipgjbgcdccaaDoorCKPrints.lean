/- graftref2's printer: among, printable, plain, coded, inClass, member, ranges, decimal: contracts.
   graftref2's printer: times, part: contracts.
   graftref2's printer: part, print of a range and of a repetition: contracts.
   graftref2's printer: print, Print: contracts.
   Package graftlaw2: ExprChecks: the walk.
   Package graftlaw2: ExprPrints: the walk.
   The statement ExprPrints: for every list of patterns that is handed in, the law answers true and leaves all as it was: the tied card, proved. -/
import Derived.Test.YticipgjbgcdccaaDoorZ4
import Derived.Test.YticipgjbgcdccaaDoorZ9
import Derived.Deep.RegionHeld3
import Derived.Test.YticipgjbgcdccaaDoorZ8
import Derived.Test.YticipgjbgcdccaaDoorZ10
import Derived.Test.YticipgjbgcdccaaDoorTie
import Derived.Test.YticipgjbgcdccaaDoorCards
import Derived.SevenTiedAt
set_option linter.unusedSimpArgs false
set_option linter.unusedVariables false
namespace Go.Proofs.YticipgjbgcdccaaDoor
open Go.RowKit

set_option maxRecDepth 100000 in
theorem among_any (s : ByteArray) (c : Nat) (w : World) (hs : s.size ≤ 65536) :
    Calls Tryd.prog 107 #[.int .u8 (c : Int), .string s] w fun e w' => e = .returned (.bool (hasP s.data.toList c)) ∧ w = w' := by
  go_enter Tryd.func107, Tryd.ntmps107
  go_wp2
  go_loop [5] (fun v => ∃ i : Nat, i ≤ s.size ∧ v = .int .i64 (i : Int) ∧ hasP (s.data.toList.take i) c = false) (fun v => s.size - (intOf v).toNat)
  case atStart => exact ⟨0, Nat.zero_le _, rfl, by simp [hasP]⟩
  case round =>
    obtain ⟨i, hi, rfl, hn⟩ := hrel
    have HN := Lib.hid hn; clear hn
    by_cases hlt : i < s.size
    · have hd : i < s.data.toList.length := by simpa using hlt
      have ht : hasP (s.data.toList.take (i + 1)) c = (hasP (s.data.toList.take i) c || (s[i].toNat == c)) := by
        unfold hasP; rw [List.take_succ_eq_append_getElem hd, List.any_append]; simp; rfl
      have HT := Lib.hid ht; clear ht
      by_cases he : s[i].toNat = c
      · have e1 : ((s[i].toNat : Int) == (c : Int)) = true := by simp [he]
        have HE := Lib.hid he; clear he
        go_wp2
        go_ret
        refine ⟨congrArg _ (congrArg Value.bool ?_), rfl⟩
        have : hasP s.data.toList c = true := by
          unfold hasP
          rw [List.any_eq_true]
          exact ⟨s[i], Array.mem_toList_iff.2 (Array.getElem_mem (xs := s.data) hlt), by simpa using HE.out⟩
        rw [this]
      · have e1 : ((s[i].toNat : Int) == (c : Int)) = false := by simp; omega
        have HE := Lib.hid he; clear he
        go_wp2
        exact ⟨⟨i + 1, by omega, by go_num, by rw [HT.out, HN.out]; simpa using HE.out⟩, by simp [intOf]; omega⟩
    · go_wp2
      go_ret
      refine ⟨congrArg _ (congrArg Value.bool ?_), rfl⟩
      have := HN.out
      rw [List.take_of_length_le (by simp; omega)] at this
      rw [this]
theorem rprintable_any (c : Nat) (w : World) :
    Calls Tryd.prog 115 #[.int .u8 (c : Int)] w fun e w' => e = .returned (.bool (printableP c)) ∧ w = w' := by
  go_enter Tryd.func115, Tryd.ntmps115
  go_wp2
  all_goals
    go_ret
    refine ⟨congrArg _ (congrArg Value.bool ?_), rfl⟩
    rw [Bool.eq_iff_iff]; simp [printableP]; omega
theorem among_signs (c : Nat) (w : World) :
    Calls Tryd.prog 107 #[.int .u8 (c : Int), .string ⟨#[40, 41, 91, 93, 123, 125, 46, 124, 42, 43, 63, 92, 47, 94, 36]⟩] w fun e w' => e = .returned (.bool (hasP signsP c)) ∧ w = w' :=
  among_any _ c w (by simp [ByteArray.size])
def classSigns5 : List UInt8 := [93, 92, 45, 47, 94]
theorem among_class (c : Nat) (w : World) :
    Calls Tryd.prog 107 #[.int .u8 (c : Int), .string ⟨#[93, 92, 45, 47, 94]⟩] w fun e w' => e = .returned (.bool (hasP classSigns5 c)) ∧ w = w' :=
  among_any _ c w (by simp [ByteArray.size])
theorem rplain_any (c : Nat) (w : World) :
    Calls Tryd.prog 83 #[.int .u8 (c : Int)] w fun e w' => e = .returned (.bool (plainP c)) ∧ w = w' := by
  have hp : plainP c = (printableP c && !hasP signsP c) := rfl
  rw [hp]; clear hp
  obtain ⟨b1, h1⟩ : ∃ b, printableP c = b := ⟨_, rfl⟩
  rw [h1]
  cases b1 with
  | true =>
    go_enter Tryd.func83, Tryd.ntmps83
    go_wp2_with (first | (go_at_call 115; refine (rprintable_any c _).mono ?_; rintro e w' ⟨rfl, rfl⟩) | (go_at_call 107; refine (among_signs c _).mono ?_; rintro e w' ⟨rfl, rfl⟩))
    go_ret
    exact ⟨by simp, rfl⟩
  | false =>
    go_enter Tryd.func83, Tryd.ntmps83
    go_wp2_with (go_at_call 115; refine (rprintable_any c _).mono ?_; rintro e w' ⟨rfl, rfl⟩)
    go_ret
    exact ⟨by simp, rfl⟩

theorem hexS_one : ∀ m : Fin 16, hexS.extract m.val (m.val + 1) = b1 (hexd m.val) := by decide +kernel
theorem hex_slice (m : Nat) (hm : m < 16) (w : World) : (Instr.slice 9 (.string hexS) (some (.int .i64 (m : Int))) (some (.int .i64 ((m : Int) + 1))) none).run Tryd.prog w = .ok (.string (b1 (hexd m))) w := by
  have h := run_slice_string (P := Tryd.prog) w 9 hexS .i64 .i64 (m : Int) ((m : Int) + 1) Tryd.underlying9 (by omega) (by omega) (by have : hexS.size = 16 := rfl; omega)
  rw [h]
  have e : ((m : Int) + 1).toNat = m + 1 := by omega
  rw [e]
  exact congrArg (fun s => Result.ok (Value.string s) w) (hexS_one ⟨m, hm⟩)
theorem b2_split (c d : Nat) : b2 c d = b1 c ++ b1 d := by
  apply ByteArray.ext
  simp [b2, b1]

set_option maxHeartbeats 2000000 in
set_option maxRecDepth 100000 in
theorem coded_any (c : Nat) (w : World) (hc : c < 256) :
    Calls Tryd.prog 84 #[.int .i64 (c : Int)] w fun e w' => e = .returned (.string (escapedP c)) ∧ Chg No w w' := by
  obtain ⟨k0, h0⟩ : ∃ b : Bool, ((c : Int) == 10) = b := ⟨_, rfl⟩
  obtain ⟨k1, h1⟩ : ∃ b : Bool, ((c : Int) == 13) = b := ⟨_, rfl⟩
  obtain ⟨k2, h2⟩ : ∃ b : Bool, ((c : Int) == 9) = b := ⟨_, rfl⟩
  have hm8 : (c : Int) % 256 = c := by omega
  go_enter Tryd.func84, Tryd.ntmps84
  cases k0 with
  | true =>
    go_wp2
    go_ret
    refine ⟨?_, Chg.refl _ _⟩
    unfold escapedP
    rw [if_pos (by simp at h0; omega)]; rfl
  | false =>
  cases k1 with
  | true =>
    go_wp2
    go_ret
    refine ⟨?_, Chg.refl _ _⟩
    unfold escapedP
    rw [if_neg (by simp at h0; omega), if_pos (by simp at h1; omega)]; rfl
  | false =>
  cases k2 with
  | true =>
    go_wp2
    go_ret
    refine ⟨?_, Chg.refl _ _⟩
    unfold escapedP
    rw [if_neg (by simp at h0; omega), if_neg (by simp at h1; omega), if_pos (by simp at h2; omega)]; rfl
  | false =>
  by_cases q : 32 < c ∧ c ≤ 126
  · obtain ⟨q1, q2⟩ := q
    have kc := conv_b1 c w hc
    have ks : (b1 c).size = 1 := rfl
    go_wp2
    go_ret
    refine ⟨?_, (Chg.refl _ _).alloc _⟩
    unfold escapedP
    rw [if_neg (by simp at h0; omega), if_neg (by simp at h1; omega), if_neg (by simp at h2; omega), if_pos ⟨q1, q2⟩]; rfl
  · have q3 : c ≤ 32 ∨ 126 < c := by omega
    have hfin : escapedP c = ⟨#[92, 120]⟩ ++ b1 (hexd (c / 16)) ++ b1 (hexd (c % 16)) := by
      unfold escapedP
      rw [if_neg (by simp at h0; omega), if_neg (by simp at h1; omega), if_neg (by simp at h2; omega), if_neg q, b2_split, ByteArray.append_assoc]
    have HF := Lib.hid hfin
    clear hfin q
    have hq : (c : Int).tdiv 16 = ((c / 16 : Nat) : Int) := by rw [Int.tdiv_eq_ediv_of_nonneg (by omega)]; omega
    have hm : (c : Int).tmod 16 = ((c % 16 : Nat) : Int) := by rw [Int.tmod_eq_emod_of_nonneg (by omega)]; omega
    have i0 := fun w : World => hex_slice (c / 16) (by omega) w
    have i1 := fun w : World => hex_slice (c % 16) (by omega) w
    have hp16 : c / 16 < 16 := by omega
    have hq16 : c % 16 < 16 := by omega
    obtain ⟨p, hp⟩ : ∃ p, c / 16 = p := ⟨_, rfl⟩
    obtain ⟨q, hq'⟩ : ∃ q, c % 16 = q := ⟨_, rfl⟩
    rw [hp] at hq i0 hp16 HF
    rw [hq'] at hm i1 hq16 HF
    clear hp hq'
    simp only [hexS] at i0 i1
    obtain ⟨d0, e0⟩ : ∃ d, b1 (hexd p) = d := ⟨_, rfl⟩
    obtain ⟨d1, e1⟩ : ∃ d, b1 (hexd q) = d := ⟨_, rfl⟩
    have s0 : d0.size = 1 := by rw [← e0]; rfl
    have s1 : d1.size = 1 := by rw [← e1]; rfl
    rw [e0] at i0 HF
    rw [e1] at i1 HF
    clear e0 e1
    rcases q3 with q3 | q3
    all_goals
      go_wp2
      go_region
      all_goals
        go_wp2
        go_ret
        exact ⟨by rw [HF.out]; rfl, (Chg.refl _ _).drew⟩

theorem inClass_eq (c : Nat) : (printableP c && !hasP classSigns5 c) = (printableP c && (c != 94) && !hasP classSignsP c) := by
  unfold hasP classSigns5 classSignsP
  simp only [List.any_cons, List.any_nil]
  cases printableP c
  · rfl
  · rw [Bool.eq_iff_iff]; simp; omega
set_option maxHeartbeats 1000000 in
set_option maxRecDepth 100000 in
theorem inClass_any (c : Nat) (w : World) (hc : c < 256) :
    Calls Tryd.prog 116 #[.int .i64 (c : Int)] w fun e w' => e = .returned (.string (memberP c)) ∧ Chg No w w' := by
  have hm8 : (c : Int) % 256 = c := by omega
  have HF := Lib.hid (show memberP c = if (printableP c && !hasP classSigns5 c) = true then b1 c else escapedP c by rw [inClass_eq]; rfl)
  have kc := conv_b1 c w hc
  have hk := coded_any c w hc
  obtain ⟨z1, h1⟩ : ∃ b, printableP c = b := ⟨_, rfl⟩
  obtain ⟨z2, h2⟩ : ∃ b, hasP classSigns5 c = b := ⟨_, rfl⟩
  have hp := rprintable_any c w
  have ha := among_class c w
  rw [h1] at hp HF
  rw [h2] at ha HF
  clear h1 h2
  go_enter Tryd.func116, Tryd.ntmps116
  cases z1 <;> cases z2
  all_goals
    go_wp2_with (first | (go_at_call 115; refine hp.mono ?_; rintro e w' ⟨rfl, rfl⟩) | (go_at_call 107; refine ha.mono ?_; rintro e w' ⟨rfl, rfl⟩) | (go_at_call 84; refine hk.mono ?_; rintro e w1 ⟨rfl, hC⟩))
    go_ret
    refine ⟨by rw [HF.out]; rfl, ?_⟩
    first | exact hC | exact (Chg.refl _ _).alloc _

/-- a member of a class -/
def memP (x : Ex) : ByteArray := if x.f = x.t then memberP x.f.toNat else memberP x.f.toNat ++ ⟨#[45]⟩ ++ memberP x.t.toNat
theorem memP_size (x : Ex) : (memP x).size ≤ 9 := by
  unfold memP
  have h1 := (memberP_size x.f.toNat).1
  have h2 := (memberP_size x.t.toNat).1
  split
  · omega
  · rw [ByteArray.size_append, ByteArray.size_append]
    have : (⟨#[45]⟩ : ByteArray).size = 1 := rfl
    omega
set_option maxHeartbeats 1000000 in
set_option maxRecDepth 100000 in
theorem rmember_any (x : Ex) (hx : rangeOk x) (A : Option Addr) (n c : Nat) (w : World) :
    Calls Tryd.prog 85 #[.agg #[.int .i64 x.k, .int .i64 x.f, .int .i64 x.t, .int .i64 x.a, .int .i64 x.b, .slice A n c]] w fun e w' => e = .returned (.string (memP x)) ∧ Chg No w w' := by
  have HF := Lib.hid (show memP x = if x.f = x.t then memberP x.f.toNat else memberP x.f.toNat ++ ⟨#[45]⟩ ++ memberP x.t.toNat from rfl)
  obtain ⟨k, f, t, a, b, l⟩ := x
  obtain ⟨x1, x2, x3⟩ := hx
  simp only [Ex.k, Ex.f, Ex.t, Ex.a, Ex.b, Ex.l] at x1 x2 x3 HF ⊢
  obtain ⟨f, rfl⟩ : ∃ m : Nat, f = (m : Int) := ⟨f.toNat, by omega⟩
  obtain ⟨t, rfl⟩ : ∃ m : Nat, t = (m : Int) := ⟨t.toNat, by omega⟩
  rw [show (f : Int).toNat = f from rfl, show (t : Int).toNat = t from rfl] at HF
  have hb := Blk.new w 25 #[.int .i64 k, .int .i64 (f : Int), .int .i64 (t : Int), .int .i64 a, .int .i64 b, .slice A n c]
  have hc0 : Chg No w (w.alloc (.cells #[.int .i64 k, .int .i64 (f : Int), .int .i64 (t : Int), .int .i64 a, .int .i64 b, .slice A n c] 25)) := (Chg.refl _ _).alloc _
  obtain ⟨y0, y1, y2, y3, y4, y5⟩ := ex_cells hb
  have g1 := fun w' => inClass_any f w' (by omega)
  have g2 := fun w' => inClass_any t w' (by omega)
  have z1 := (memberP_size f).1
  have z2 := (memberP_size t).1
  obtain ⟨M1, e1⟩ : ∃ M, memberP f = M := ⟨_, rfl⟩
  obtain ⟨M2, e2⟩ : ∃ M, memberP t = M := ⟨_, rfl⟩
  rw [e1] at g1 z1
  rw [e2] at g2 z2
  rw [e1, e2] at HF
  clear e1 e2
  by_cases q : f = t
  · have e1 : ((f : Int) == (t : Int)) = true := by simp; omega
    have HG : Hid (memP (.mk k f t a b l) = M1) := Lib.hid (HF.out.trans (if_pos (by omega)))
    clear q g2 HF
    go_enter Tryd.func85, Tryd.ntmps85
    go_wp2_with (go_at_call 116; refine (g1 _).mono ?_; rintro e w1 ⟨rfl, hC⟩)
    go_ret
    exact ⟨by rw [HG.out]; rfl, hc0.trans hC⟩
  · have e1 : ((f : Int) == (t : Int)) = false := by simp; omega
    have HG : Hid (memP (.mk k f t a b l) = M1 ++ ⟨#[45]⟩ ++ M2) := Lib.hid (HF.out.trans (if_neg (by omega)))
    clear q HF
    go_enter Tryd.func85, Tryd.ntmps85
    have hb1 : ¬ 9223372036854775807 < M1.size + 1 := by omega
    have hb2 : ¬ 9223372036854775807 < M1.size + 1 + M2.size := by omega
    clear y0 y3 y4 y5
    go_wp2_with fail
    generalize w.alloc (.cells #[.int .i64 k, .int .i64 (f : Int), .int .i64 (t : Int), .int .i64 a, .int .i64 b, .slice A n c] 25) = W0 at *
    have KS : Hid (∀ w', Chg No W0 w' → Chg No W0 w' ∧ w'.cell? ⟨w.heap.size, 1, none⟩ = some (.int .i64 (f : Int)) ∧ w'.cell? ⟨w.heap.size, 2, none⟩ = some (.int .i64 (t : Int))) := Lib.hid fun w' h => ⟨h, (ex_cells (hb.chg h id)).2.1, (ex_cells (hb.chg h id)).2.2.1⟩
    have hD : Chg No W0 W0.drew := (Chg.refl No W0).drew
    clear y1 y2
    go_region_held3 (fun w' => Chg No W0 w' ∧ w'.cell? ⟨w.heap.size, 1, none⟩ = some (.int .i64 (f : Int)) ∧ w'.cell? ⟨w.heap.size, 2, none⟩ = some (.int .i64 (t : Int))) ((refine KS.out _ ?_; with_reducible assumption)) (first | (go_at_call 116; (with_reducible refine (g1 W0.drew).mono ?_); rintro e w1 ⟨rfl, hC1⟩; have hK1 := hD.trans hC1) | (go_at_call 116; (with_reducible refine (g2 w1).mono ?_); rintro e w2 ⟨rfl, hC2⟩; have hK2 := hK1.trans hC2))
    go_wp2
    go_ret
    exact ⟨by rw [HG.out]; rfl, hc0.trans hK2⟩

/-- are all of them single ranges -/
theorem ranges_any (x : Ex) (A : Option Addr) (n c : Nat) (S : Nat → Prop) (w : World) (hl : Sl w S A n c x.l) :
    Calls Tryd.prog 88 #[.agg #[.int .i64 x.k, .int .i64 x.f, .int .i64 x.t, .int .i64 x.a, .int .i64 x.b, .slice A n c]] w fun e w' => e = .returned (.bool (decide (x.k = 3) && classesP x.l)) ∧ Chg No w w' := by
  obtain ⟨q3, h3'⟩ : ∃ q : Bool, decide (x.k = 3) = q := ⟨_, rfl⟩
  rw [h3']
  have h3 : (x.k == 3) = q3 := by rw [← h3', Bool.eq_iff_iff]; simp
  clear h3'
  obtain ⟨k, f, t, a, b, l⟩ := x
  obtain ⟨rfl, hc1, hc2⟩ : n = l.length ∧ l.length ≤ c ∧ c ≤ 9223372036854775807 := ⟨hl.1, by have := hl.2.1; have := hl.1; simp only [Ex.l] at *; omega, hl.2.2.1⟩
  simp only [Ex.k, Ex.f, Ex.t, Ex.a, Ex.b, Ex.l] at hl h3 ⊢
  have hb := Blk.new w 25 #[.int .i64 k, .int .i64 f, .int .i64 t, .int .i64 a, .int .i64 b, .slice A l.length c]
  have hc0 : Chg No w (w.alloc (.cells #[.int .i64 k, .int .i64 f, .int .i64 t, .int .i64 a, .int .i64 b, .slice A l.length c] 25)) := (Chg.refl _ _).alloc _
  obtain ⟨y0, y1, y2, y3, y4, y5⟩ := ex_cells hb
  have hls := hl.chgNo hc0
  clear y1 y2 y3 y4
  go_enter Tryd.func88, Tryd.ntmps88
  go_wp2
  go_loop [3] (fun v => ∃ i : Nat, i ≤ l.length ∧ v = .int .i64 (i : Int) ∧ classesP (l.take i) = true) (fun v => l.length - (intOf v).toNat)
  case atStart => exact ⟨0, Nat.zero_le _, rfl, by simp [classesP]⟩
  case round =>
    obtain ⟨i, hi, rfl, hn⟩ := hrel
    have HN := Lib.hid hn; clear hn
    by_cases hlt : i < l.length
    · obtain ⟨g, o, A', c', rfl, hSg, x0, x1, x2, x3, x4, x5, hx⟩ := hls.at_ i hlt
      have ht : classesP (l.take (i + 1)) = (classesP (l.take i) && decide (l[i].k = 1)) := by
        unfold classesP; rw [List.take_succ_eq_append_getElem hlt, List.all_append]; simp
      have HT := Lib.hid ht; clear ht
      clear x1 x2 x3 x4 x5
      by_cases he : l[i].k = 1
      · have e1 : (l[i].k != 1) = false := by rw [he]; rfl
        have HE := Lib.hid he; clear he
        go_wp2
        exact ⟨⟨i + 1, by omega, by go_num, by rw [HT.out, HN.out, HE.out]; rfl⟩, by simp [intOf]; omega⟩
      · have e1 : (l[i].k != 1) = true := by simpa using he
        have hfin : classesP l = false := by
          have h1 : l = l.take (i + 1) ++ l.drop (i + 1) := (List.take_append_drop _ _).symm
          rw [h1]
          unfold classesP at HT ⊢
          rw [List.all_append, HT.out, decide_eq_false he]; simp
        have HF := Lib.hid hfin
        clear he hfin
        go_wp2
        go_ret
        exact ⟨by rw [HF.out]; simp, hc0⟩
    · obtain rfl : i = l.length := by omega
      have h2 := HN.out
      rw [List.take_of_length_le (Nat.le_refl _)] at h2
      have HF := Lib.hid h2
      clear h2
      go_wp2
      go_ret
      exact ⟨by rw [HF.out]; simp, hc0⟩

/-- a number's digits -/
def decP (n : Nat) : ByteArray := if n < 10 then b1 (48 + n) else decP (n / 10) ++ b1 (48 + n % 10)
termination_by n
decreasing_by omega
theorem decP_small {n : Nat} (h : n < 10) : decP n = b1 (48 + n) := by rw [decP, if_pos h]
theorem decP_step {n : Nat} (h : ¬ n < 10) : decP n = decP (n / 10) ++ b1 (48 + n % 10) := by rw [decP, if_neg h]
/-- the same by rounds -/
def decGo : Nat → Nat → ByteArray
  | 0, n => b1 (48 + n)
  | r + 1, n => if n < 10 then b1 (48 + n) else decGo r (n / 10) ++ b1 (48 + n % 10)
theorem decGo_eq : ∀ (r n : Nat), n < 10 ^ (r + 1) → decGo r n = decP n
  | 0, n, h => by rw [decP_small (by omega)]; rfl
  | r + 1, n, h => by
    unfold decGo
    by_cases q : n < 10
    · rw [if_pos q, decP_small q]
    · rw [if_neg q, decP_step q, decGo_eq r (n / 10) (by rw [Nat.pow_succ] at h; omega)]
theorem decGo_itoa : ∀ n : Fin 1001, decGo 3 n.val = itoaB (n.val : Int) := by decide +kernel
theorem decP_itoa {n : Nat} (h : n ≤ 1000) : decP n = itoaB (n : Int) := by
  rw [← decGo_eq 3 n (by omega)]
  exact decGo_itoa ⟨n, by omega⟩
theorem decP_size {n : Nat} (h : n ≤ 1000) : (decP n).size ≤ 4 := by
  rw [decP_itoa h]; exact itoaB_size n (by omega) (by omega)

set_option maxRecDepth 100000 in
/-- 'string([]byte{c})', the byte in block g -/
theorem conv_blk {w : World} {g c : Nat} {z : Int} (hb : Blk w g 5 #[.int .u8 z]) (hz : z = (c : Int)) (hc : c < 256) :
    (convert 41 9 (.slice (some ⟨g, 0, none⟩) 1 1)).run Tryd.prog w = .ok (.string (b1 c)) w := by
  subst hz
  refine run_convert_bytes_back (P := Tryd.prog) _ 41 9 5 ⟨g, 0, none⟩ 1 [UInt8.ofNat c] rfl rfl rfl ?_
  intro j hj
  simp at hj
  subst hj
  rw [add0, hb.cell]
  simp
  omega
set_option maxHeartbeats 2000000 in
set_option maxRecDepth 100000 in
theorem decimal_any : ∀ (N n : Nat) (w : World), n < N → n ≤ 1000 →
    Calls Tryd.prog 117 #[.int .i64 (n : Int)] w fun e w' => e = .returned (.string (decP n)) ∧ Chg No w w' := by
  intro N
  induction N with
  | zero => intro _ _ h; omega
  | succ N ih =>
    intro n w hN hn
    by_cases q : n < 10
    · have HF := decP_small q
      have hm8 : 48 + n < 256 := by omega
      have kc := conv_blk (Blk.new w 5 #[.int .u8 (48 + (n : Int))]) (c := 48 + n) (by omega) hm8
      have HF := Lib.hid HF
      clear ih
      go_enter Tryd.func117, Tryd.ntmps117
      go_wp2
      go_ret
      exact ⟨by rw [HF.out]; rfl, (Chg.refl _ _).alloc _⟩
    · have HF := decP_step q
      have hq : (n : Int).tdiv 10 = ((n / 10 : Nat) : Int) := by rw [Int.tdiv_eq_ediv_of_nonneg (by omega)]; omega
      have hm : (n : Int).tmod 10 = ((n % 10 : Nat) : Int) := by rw [Int.tmod_eq_emod_of_nonneg (by omega)]; omega
      have IH := fun w' => ih (n / 10) w' (by omega) (by omega)
      have hz := decP_size (n := n / 10) (by omega)
      have hr10 : n % 10 < 10 := by omega
      obtain ⟨p, hp⟩ : ∃ p, n / 10 = p := ⟨_, rfl⟩
      obtain ⟨r, hr⟩ : ∃ r, n % 10 = r := ⟨_, rfl⟩
      rw [hp] at hq IH hz HF
      rw [hr] at hm hr10 HF
      obtain ⟨D, hD⟩ : ∃ D, decP p = D := ⟨_, rfl⟩
      rw [hD] at IH hz HF
      have hm8 : 48 + r < 256 := by omega
      obtain ⟨M, hM⟩ : ∃ M, b1 (48 + r) = M := ⟨_, rfl⟩
      have hM1 : M.size = 1 := by rw [← hM]; rfl
      have hbig : ¬ 9223372036854775807 < D.size + 1 := by omega
      rw [hM] at HF
      have HF := Lib.hid HF
      have HM := Lib.hid hM
      have HI := Lib.hid IH
      have k0 := conv_blk (w := (w.alloc (.cells #[.int .u8 (48 + (r : Int))] 5)).drew) (g := w.heap.size) ((Blk.new w 5 #[.int .u8 (48 + (r : Int))]).drew) (c := 48 + r) (by omega) hm8
      rw [hM] at k0
      have hpb : p ≤ 100 := by omega
      have w1 : IntKind.i64.wrap (p : Int) = (p : Int) := by simp [IntKind.wrap, IntKind.bits, IntKind.signed]; omega
      have w2 : IntKind.i64.wrap (48 + (r : Int)) = 48 + (r : Int) := by simp [IntKind.wrap, IntKind.bits, IntKind.signed]; omega
      have w3 : IntKind.u8.wrap (48 + (r : Int)) = 48 + (r : Int) := by simp [IntKind.wrap, IntKind.bits, IntKind.signed]; omega
      clear hp hr hD ih hM IH
      have hD1 : Chg No w w.drew := (Chg.refl No w).drew
      have hD2 : Chg No w (w.alloc (.cells #[.int .u8 (48 + (r : Int))] 5)).drew := ((Chg.refl No w).alloc _).drew
      go_enter Tryd.func117, Tryd.ntmps117
      go_wp2_with fail
      go_region_law (first | (go_simp; go_at_call 117; (with_reducible refine (HI.out w.drew).mono ?_); rintro e w1 ⟨rfl, hC⟩; have hK := hD1.trans hC; have k1 := conv_blk (Blk.new w1 5 #[.int .u8 (48 + (r : Int))]) (c := 48 + r) (by omega) hm8; rw [HM.out] at k1) | (go_simp; go_at_call 117; (with_reducible refine (HI.out (w.alloc (.cells #[.int .u8 (48 + (r : Int))] 5)).drew).mono ?_); rintro e w1 ⟨rfl, hC⟩; have hK := hD2.trans hC; have k1 := conv_blk (((Blk.new w 5 #[.int .u8 (48 + (r : Int))]).drew).chg hC id) (c := 48 + r) (by omega) hm8; rw [HM.out] at k1))
      all_goals
        go_wp2
        go_ret
        refine ⟨by rw [HF.out]; rfl, ?_⟩
        first | with_reducible exact hK | exact hK.alloc _
end Go.Proofs.YticipgjbgcdccaaDoor
namespace Go.Proofs.YticipgjbgcdccaaDoor
open Go.RowKit

theorem nat_toInt {n : Nat} : ((n : Int)).toNat = n := rfl
set_option maxHeartbeats 4000000 in
set_option maxRecDepth 100000 in
theorem rtimes_any (x : Ex) (ha : 0 ≤ x.a ∧ x.a ≤ 1000) (hb : x.b ≤ 1000) (A : Option Addr) (n c : Nat) (w : World) :
    Calls Tryd.prog 87 #[.agg #[.int .i64 x.k, .int .i64 x.f, .int .i64 x.t, .int .i64 x.a, .int .i64 x.b, .slice A n c]] w fun e w' => e = .returned (.string (oftenP x.a x.b)) ∧ Chg No w w' := by
  obtain ⟨k, f, t, a, b, l⟩ := x
  have ha : 0 ≤ a ∧ a ≤ 1000 := ha
  have hb : b ≤ 1000 := hb
  show Calls Tryd.prog 87 #[.agg #[.int .i64 k, .int .i64 f, .int .i64 t, .int .i64 a, .int .i64 b, .slice A n c]] w fun e w' => e = .returned (.string (oftenP a b)) ∧ Chg No w w'
  have hbx := Blk.new w 25 #[.int .i64 k, .int .i64 f, .int .i64 t, .int .i64 a, .int .i64 b, .slice A n c]
  have hc0 : Chg No w (w.alloc (.cells #[.int .i64 k, .int .i64 f, .int .i64 t, .int .i64 a, .int .i64 b, .slice A n c] 25)) := (Chg.refl _ _).alloc _
  obtain ⟨y0, y1, y2, y3, y4, y5⟩ := ex_cells hbx
  obtain ⟨a, rfl⟩ : ∃ m : Nat, a = (m : Int) := ⟨a.toNat, by omega⟩
  have hda := fun w' => decimal_any _ a w' (Nat.lt_succ_self _) (by omega)
  have hza := decP_size (n := a) (by omega)
  have hia := decP_itoa (n := a) (by omega)
  obtain ⟨D, hD⟩ : ∃ D, decP a = D := ⟨_, rfl⟩
  rw [hD] at hda hza hia
  have HIA := Lib.hid hia
  clear hia hD
  have s1 : (⟨#[123]⟩ : ByteArray).size = 1 := rfl
  have s2 : (⟨#[44, 125]⟩ : ByteArray).size = 2 := rfl
  have s3 : (⟨#[125]⟩ : ByteArray).size = 1 := rfl
  have s4 : (⟨#[44]⟩ : ByteArray).size = 1 := rfl
  by_cases hb0 : b < 0
  · have e1 : decide (b < 0) = true := decide_eq_true hb0
    by_cases a0 : a = 0
    · have HF : Hid (oftenP (a : Int) b = ⟨#[42]⟩) := Lib.hid (by unfold oftenP; rw [if_pos ⟨by omega, hb0⟩])
      have e2 : ((a : Int) == 0) = true := by simp; omega
      clear a0 hb0
      go_enter Tryd.func87, Tryd.ntmps87
      go_wp2
      go_ret
      exact ⟨by rw [HF.out]; rfl, hc0⟩
    · have e2 : ((a : Int) == 0) = false := by simp; omega
      by_cases a1 : a = 1
      · have HF : Hid (oftenP (a : Int) b = ⟨#[43]⟩) := Lib.hid (by unfold oftenP; rw [if_neg (by omega), if_pos ⟨by omega, hb0⟩])
        have e3 : ((a : Int) == 1) = true := by simp; omega
        clear a0 a1 hb0
        go_enter Tryd.func87, Tryd.ntmps87
        go_wp2
        go_ret
        exact ⟨by rw [HF.out]; rfl, hc0⟩
      · have e3 : ((a : Int) == 1) = false := by simp; omega
        have HF : Hid (oftenP (a : Int) b = ⟨#[123]⟩ ++ D ++ ⟨#[44, 125]⟩) := Lib.hid (by unfold oftenP; rw [if_neg (by omega), if_neg (by omega), if_neg (by omega), if_neg (by omega), if_pos hb0, HIA.out])
        clear a0 a1 hb0
        go_enter Tryd.func87, Tryd.ntmps87
        go_wp2_with (go_at_call 117; refine (hda _).mono ?_; rintro e w1 ⟨rfl, hC⟩)
        go_ret
        exact ⟨by rw [HF.out]; rfl, hc0.trans hC⟩
  · have e1 : decide (b < 0) = false := decide_eq_false hb0
    obtain ⟨b, rfl⟩ : ∃ m : Nat, b = (m : Int) := ⟨b.toNat, by omega⟩
    by_cases a01 : a = 0 ∧ b = 1
    · have HF : Hid (oftenP (a : Int) (b : Int) = ⟨#[63]⟩) := Lib.hid (by unfold oftenP; rw [if_neg (by omega), if_neg (by omega), if_pos (by omega)])
      have e2 : ((a : Int) == 0) = true := by simp; omega
      have e3 : ((a : Int) == 1) = false := by simp; omega
      have e4 : ((b : Int) == 1) = true := by simp; omega
      clear a01 hb0
      go_enter Tryd.func87, Tryd.ntmps87
      go_wp2
      go_ret
      exact ⟨by rw [HF.out]; rfl, hc0⟩
    · obtain ⟨z1, hz1⟩ : ∃ z : Bool, ((a : Int) == 0) = z := ⟨_, rfl⟩
      obtain ⟨z2, hz2⟩ : ∃ z : Bool, ((a : Int) == 1) = z := ⟨_, rfl⟩
      obtain ⟨z3, hz3⟩ : ∃ z : Bool, ((b : Int) == 1) = z := ⟨_, rfl⟩
      have hn : (z1 && z3) = false := by
        rw [← hz1, ← hz3]
        cases h : ((a : Int) == 0 && (b : Int) == 1) with
        | false => rfl
        | true => simp at h; exact absurd ⟨by omega, by omega⟩ a01
      by_cases ab : a = b
      · have HF : Hid (oftenP (a : Int) (b : Int) = ⟨#[123]⟩ ++ D ++ ⟨#[125]⟩) := Lib.hid (by unfold oftenP; rw [if_neg (by omega), if_neg (by omega), if_neg (by omega), if_pos (by omega), HIA.out])
        have e5 : ((b : Int) == (a : Int)) = true := by simp; omega
        clear a01 ab hb0
        go_enter Tryd.func87, Tryd.ntmps87
        cases z1 <;> cases z2 <;> cases z3
        all_goals first | (cases hn; done) | skip
        all_goals
          go_wp2_with (go_at_call 117; refine (hda _).mono ?_; rintro e w1 ⟨rfl, hC⟩)
          go_ret
          exact ⟨by rw [HF.out]; rfl, hc0.trans hC⟩
      · have hdb := fun w' => decimal_any _ b w' (Nat.lt_succ_self _) (by omega)
        have hzb := decP_size (n := b) (by omega)
        have hib := decP_itoa (n := b) (by omega)
        obtain ⟨F, hF⟩ : ∃ D, decP b = D := ⟨_, rfl⟩
        rw [hF] at hdb hzb hib
        have HIB := Lib.hid hib
        have HF : Hid (oftenP (a : Int) (b : Int) = ⟨#[123]⟩ ++ D ++ ⟨#[44]⟩ ++ F ++ ⟨#[125]⟩) := Lib.hid (by unfold oftenP; rw [if_neg (by omega), if_neg (by omega), if_neg (by omega), if_neg (by omega), if_neg (by omega), HIA.out, HIB.out])
        have e5 : ((b : Int) == (a : Int)) = false := by simp; omega
        have g1 : ¬ 9223372036854775807 < 1 + D.size := by omega
        have g2 : ¬ 9223372036854775807 < 1 + D.size + 1 := by omega
        have g3 : ¬ 9223372036854775807 < 1 + D.size + 1 + F.size := by omega
        have g4 : ¬ 9223372036854775807 < 1 + D.size + 1 + F.size + 1 := by omega
        clear a01 ab hb0 hF hib
        go_enter Tryd.func87, Tryd.ntmps87
        cases z1 <;> cases z2 <;> cases z3
        all_goals first | (cases hn; done) | skip
        all_goals
          go_wp2_with fail
          clear y0 y1 y2 y3 y4 y5
          generalize w.alloc (.cells #[.int .i64 k, .int .i64 f, .int .i64 t, .int .i64 (a : Int), .int .i64 (b : Int), .slice A n c] 25) = W0 at *
          have KS : Hid (∀ w', Chg No W0 w' → Chg No W0 w' ∧ w'.cell? ⟨w.heap.size, 3, none⟩ = some (.int .i64 (a : Int)) ∧ w'.cell? ⟨w.heap.size, 4, none⟩ = some (.int .i64 (b : Int))) := Lib.hid fun w' h => ⟨h, (ex_cells (hbx.chg h id)).2.2.2.1, (ex_cells (hbx.chg h id)).2.2.2.2.1⟩
          have hD : Chg No W0 W0.drew := (Chg.refl No W0).drew
          go_region_held3 (fun w' => Chg No W0 w' ∧ w'.cell? ⟨w.heap.size, 3, none⟩ = some (.int .i64 (a : Int)) ∧ w'.cell? ⟨w.heap.size, 4, none⟩ = some (.int .i64 (b : Int))) ((refine KS.out _ ?_; with_reducible assumption)) (first | (go_at_call 117; (with_reducible refine (hda W0.drew).mono ?_); rintro e w1 ⟨rfl, hC1⟩; have hK1 := hD.trans hC1) | (go_at_call 117; (with_reducible refine (hdb w1).mono ?_); rintro e w2 ⟨rfl, hC2⟩; have hK2 := hK1.trans hC2))
          go_wp2
          go_ret
          exact ⟨by rw [HF.out]; rfl, hc0.trans hK2⟩
end Go.Proofs.YticipgjbgcdccaaDoor
namespace Go.Proofs.YticipgjbgcdccaaDoor
open Go.RowKit

/-- what graftref2.print promises of a pattern -/
def PrRC (x : Ex) : Prop := ∀ (A : Option Addr) (n c : Nat) (S : Nat → Prop) (w : World), Sl w S A n c x.l →
  Calls Tryd.prog 51 #[.agg #[.int .i64 x.k, .int .i64 x.f, .int .i64 x.t, .int .i64 x.a, .int .i64 x.b, .slice A n c]] w fun e w' => e = .returned (.string (printedP x)) ∧ Chg No w w'

set_option maxHeartbeats 1000000 in
set_option maxRecDepth 100000 in
theorem rpart_any (k : Int) (x : Ex) (hp : PrRC x) (hz : (printedP x).size ≤ 100000) (A : Option Addr) (n c : Nat) (S : Nat → Prop) (w : World) (hl : Sl w S A n c x.l) :
    Calls Tryd.prog 86 #[.agg #[.int .i64 x.k, .int .i64 x.f, .int .i64 x.t, .int .i64 x.a, .int .i64 x.b, .slice A n c], .int .i64 k] w
      fun e w' => e = .returned (.string (wrapP k x (printedP x))) ∧ Chg No w w' := by
  obtain ⟨rfl, hc1, hc2⟩ : n = x.l.length ∧ x.l.length ≤ c ∧ c ≤ 9223372036854775807 := ⟨hl.1, by have := hl.2.1; have := hl.1; omega, hl.2.2.1⟩
  have hb := Blk.new w 25 #[.int .i64 x.k, .int .i64 x.f, .int .i64 x.t, .int .i64 x.a, .int .i64 x.b, .slice A x.l.length c]
  have hc0 : Chg No w (w.alloc (.cells #[.int .i64 x.k, .int .i64 x.f, .int .i64 x.t, .int .i64 x.a, .int .i64 x.b, .slice A x.l.length c] 25)) := (Chg.refl _ _).alloc _
  have hp1 := hp A _ c S _ (hl.chgNo hc0)
  have hcl := fun w1 (h : Chg No w w1) => ranges_any x A _ c S w1 (hl.chgNo h)
  obtain ⟨k0, h0⟩ : ∃ q : Bool, decide (x.k = 3) = q := ⟨_, rfl⟩
  have h0' : (x.k == 3) = k0 := by rw [← h0, Bool.eq_iff_iff]; simp
  obtain ⟨k1, h1⟩ : ∃ q : Bool, (x.k == 2) = q := ⟨_, rfl⟩
  obtain ⟨k2, h2⟩ : ∃ q : Bool, (k != 3) = q := ⟨_, rfl⟩
  obtain ⟨k3, h3⟩ : ∃ q : Bool, ((x.l.length : Int) == 0) = q := ⟨_, rfl⟩
  obtain ⟨k4, h4⟩ : ∃ q : Bool, classesP x.l = q := ⟨_, rfl⟩
  rw [h0, h4] at hcl
  obtain ⟨P, hP⟩ : ∃ P, printedP x = P := ⟨_, rfl⟩
  rw [hP] at hp1 hz
  have hF : wrapP k x (printedP x) = if ((k0 && !k4) || (k1 && (k2 || k3))) = true then ⟨#[40]⟩ ++ P ++ ⟨#[41]⟩ else P := by
    unfold wrapP parenP
    rw [hP, ← h0, ← h1, ← h2, ← h3, ← h4]
    congr 2
    rw [Bool.eq_iff_iff]; simp
  have HF := Lib.hid hF
  clear hF hP h4 hp h0
  have s1 : (⟨#[40]⟩ : ByteArray).size = 1 := rfl
  have s2 : (⟨#[41]⟩ : ByteArray).size = 1 := rfl
  obtain ⟨y0, y1, y2, y3, y4, y5⟩ := ex_cells hb
  go_enter Tryd.func86, Tryd.ntmps86
  go_wp2_with fail
  refine hp1.mono ?_
  rintro e w1 ⟨rfl, hcp⟩
  have hb1 := hb.chg hcp id
  clear y0 y1 y2 y3 y4 y5
  obtain ⟨y0, y1, y2, y3, y4, y5⟩ := ex_cells hb1
  have hcc := hc0.trans hcp
  clear hp1 hb
  cases k0 <;> cases k1 <;> cases k2 <;> cases k3 <;> cases k4
  all_goals
    go_wp2_with (go_at_call 88; refine (hcl _ hcc).mono ?_; rintro e w2 ⟨rfl, hc2⟩; obtain ⟨z0, z1, z2, z3, z4, z5⟩ := ex_cells (hb1.chg hc2 id))
    go_ret
    refine ⟨by rw [HF.out]; rfl, ?_⟩
    first | exact hcc.trans hc2 | exact hcc

theorem ba_nil (b : ByteArray) : (⟨#[]⟩ : ByteArray) ++ b = b := by
  apply ByteArray.ext
  simp
theorem range_mem {x : Ex} (hx : rangeOk x) (r : ByteArray) : rangeP r x = r ++ memP x := by
  obtain ⟨h1, h2, h3⟩ := hx
  unfold rangeP memP
  by_cases q : x.f = x.t
  · rw [if_neg (by omega), if_pos q]
  · rw [if_pos (by omega), if_neg q, ByteArray.append_assoc, ByteArray.append_assoc]

set_option maxHeartbeats 4000000 in
set_option maxRecDepth 100000 in
theorem rprint_one (f t a b : Int) (l : List Ex) (hx : rangeOk (.mk 1 f t a b l)) : PrRC (.mk 1 f t a b l) := by
  intro A n c S w hl
  have hF : printedP (.mk 1 f t a b l) = rangedP (.mk 1 f t a b l) := by unfold printedP; rw [if_pos rfl]
  rw [hF]
  clear hF
  have HM := Lib.hid (range_mem hx ⟨#[]⟩)
  have hmz := memP_size (.mk 1 f t a b l)
  have hme := fun w => rmember_any (.mk 1 f t a b l) hx A n c w
  obtain ⟨x1, x2, x3⟩ := hx
  have x1 : 0 ≤ f := x1
  have x2 : f ≤ t := x2
  have x3 : t ≤ 255 := x3
  show Calls Tryd.prog 51 #[.agg #[.int .i64 1, .int .i64 f, .int .i64 t, .int .i64 a, .int .i64 b, .slice A n c]] w fun e w' => e = .returned (.string (rangedP (.mk 1 f t a b l))) ∧ Chg No w w'
  have hme : ∀ w, Calls Tryd.prog 85 #[.agg #[.int .i64 1, .int .i64 f, .int .i64 t, .int .i64 a, .int .i64 b, .slice A n c]] w fun e w' => e = .returned (.string (memP (.mk 1 f t a b l))) ∧ Chg No w w' := hme
  obtain ⟨f, rfl⟩ : ∃ m : Nat, f = (m : Int) := ⟨f.toNat, by omega⟩
  obtain ⟨t, rfl⟩ : ∃ m : Nat, t = (m : Int) := ⟨t.toNat, by omega⟩
  have hb := Blk.new w 25 #[.int .i64 1, .int .i64 (f : Int), .int .i64 (t : Int), .int .i64 a, .int .i64 b, .slice A n c]
  have hc0 : Chg No w (w.alloc (.cells #[.int .i64 1, .int .i64 (f : Int), .int .i64 (t : Int), .int .i64 a, .int .i64 b, .slice A n c] 25)) := (Chg.refl _ _).alloc _
  obtain ⟨y0, y1, y2, y3, y4, y5⟩ := ex_cells hb
  have hf8 : (f : Int) % 256 = f := by omega
  have HR := Lib.hid (show rangedP (.mk 1 f t a b l) = if (decide ((f : Int) = (t : Int)) && plainP f) = true then b1 f else if (f : Int) = (t : Int) then escapedP f else if (f : Int) = 0 ∧ (t : Int) = 255 then ⟨#[46]⟩ else membersP [.mk 1 f t a b l] from rfl)
  have kc := conv_blk (Blk.new' (w := w.alloc (.cells #[.int .i64 1, .int .i64 (f : Int), .int .i64 (t : Int), .int .i64 a, .int .i64 b, .slice A n c] 25)) (g := w.heap.size + 1) (t := 5) (cs := #[.int .u8 (f : Int)]) (by simp)) (c := f) rfl (by omega)
  have hpl := fun w => rplain_any f w
  have hco := fun w => coded_any f w (by omega)
  by_cases q : f = t
  · have e1 : ((f : Int) == (t : Int)) = true := by simp; omega
    cases hz : plainP f with
    | true =>
      rw [hz] at hpl
      have HG : Hid (rangedP (.mk 1 f t a b l) = b1 f) := Lib.hid (by rw [HR.out, hz, decide_eq_true (by omega)]; rfl)
      clear q hz hme
      go_enter Tryd.func51, Tryd.ntmps51
      go_wp2_with (go_at_call 83; refine (hpl _).mono ?_; rintro e w1 ⟨rfl, rfl⟩)
      go_ret
      exact ⟨by rw [HG.out]; rfl, hc0.alloc _⟩
    | false =>
      rw [hz] at hpl
      have HG : Hid (rangedP (.mk 1 f t a b l) = escapedP f) := Lib.hid (by rw [HR.out, hz, if_neg (by simp), if_pos (by omega)])
      clear q hz hme
      go_enter Tryd.func51, Tryd.ntmps51
      go_wp2_with (first | (go_at_call 83; refine (hpl _).mono ?_; rintro e w1 ⟨rfl, rfl⟩) | (go_at_call 84; refine (hco _).mono ?_; rintro e w1 ⟨rfl, hC⟩))
      go_ret
      exact ⟨by rw [HG.out]; rfl, hc0.trans hC⟩
  · have e1 : ((f : Int) == (t : Int)) = false := by simp; omega
    by_cases q2 : f = 0 ∧ t = 255
    · have HG : Hid (rangedP (.mk 1 f t a b l) = ⟨#[46]⟩) := Lib.hid (by rw [HR.out, decide_eq_false (by omega)]; simp only [Bool.false_and, Bool.false_eq_true, if_false]; rw [if_neg (by omega), if_pos (by omega)])
      have e2 : ((f : Int) == 0) = true := by simp; omega
      have e3 : ((t : Int) == 255) = true := by simp; omega
      clear q q2 hme
      go_enter Tryd.func51, Tryd.ntmps51
      go_wp2
      go_ret
      exact ⟨by rw [HG.out]; rfl, hc0⟩
    · obtain ⟨M, hM⟩ : ∃ M, memP (.mk 1 f t a b l) = M := ⟨_, rfl⟩
      have HG : Hid (rangedP (.mk 1 f t a b l) = ⟨#[91]⟩ ++ M ++ ⟨#[93]⟩) := Lib.hid (by
        rw [HR.out, decide_eq_false (by omega)]; simp only [Bool.false_and, Bool.false_eq_true, if_false]; rw [if_neg (by omega), if_neg (by omega)]
        unfold membersP
        simp only [List.foldl_cons, List.foldl_nil]
        rw [HM.out, ba_nil, hM])
      rw [hM] at hme hmz
      have s1 : (⟨#[91]⟩ : ByteArray).size = 1 := rfl
      have s2 : (⟨#[93]⟩ : ByteArray).size = 1 := rfl
      obtain ⟨z1, hz1⟩ : ∃ z : Bool, ((f : Int) == 0) = z := ⟨_, rfl⟩
      obtain ⟨z2, hz2⟩ : ∃ z : Bool, ((t : Int) == 255) = z := ⟨_, rfl⟩
      have hn : (z1 && z2) = false := by
        rw [← hz1, ← hz2]
        cases h : ((f : Int) == 0 && (t : Int) == 255) with
        | false => rfl
        | true => simp at h; exact absurd ⟨by omega, by omega⟩ q2
      clear q q2 hM
      go_enter Tryd.func51, Tryd.ntmps51
      cases z1 <;> cases z2
      all_goals first | (cases hn; done) | skip
      all_goals
        go_wp2_with (go_at_call 85; refine (hme _).mono ?_; rintro e w1 ⟨rfl, hC⟩)
        go_ret
        exact ⟨by rw [HG.out]; rfl, hc0.trans hC⟩

set_option maxHeartbeats 4000000 in
set_option maxRecDepth 100000 in
theorem rprint_rep (f t a b : Int) (l : List Ex) (hR : rightP (.mk 4 f t a b l) = true) (hn : nodesP (.mk 4 f t a b l) ≤ 4096) (IHP : ∀ y ∈ l, PrRC y) : PrRC (.mk 4 f t a b l) := by
  intro A n c S w hl
  obtain ⟨rfl, hc1, hc2⟩ : n = l.length ∧ l.length ≤ c ∧ c ≤ 9223372036854775807 := ⟨hl.1, by have := hl.2.1; have := hl.1; simp only [Ex.l] at *; omega, hl.2.2.1⟩
  obtain ⟨hh, hr⟩ := rightP_head hR
  have hns : nodesS l ≤ 4095 := by unfold nodesP at hn; omega
  have hab : 0 ≤ a ∧ a ≤ 1000 ∧ b ≤ 1000 ∧ l.length = 1 := by simp [headOk] at hh; omega
  obtain ⟨y, rfl⟩ : ∃ y, l = [y] := List.length_eq_one_iff.1 hab.2.2.2
  have hl : Sl w S A 1 c [y] := hl
  show Calls Tryd.prog 51 #[.agg #[.int .i64 4, .int .i64 f, .int .i64 t, .int .i64 a, .int .i64 b, .slice A 1 c]] w fun e w' => e = .returned (.string (printedP (.mk 4 f t a b [y]))) ∧ Chg No w w'
  have hF : printedP (.mk 4 f t a b [y]) = wrapP 4 y (printedP y) ++ oftenP a b := by
    conv => lhs; unfold printedP
    rw [if_neg (by omega), if_pos rfl, undersP_eq]; rfl
  have HF := Lib.hid hF
  have hny : nodesP y ≤ 4096 := by simp [nodesS] at hns; omega
  have hpy := printedP_size y (hr y (by simp))
  have hwy := wrapP_size 4 y (printedP y)
  have hoz := oftenP_size a b ⟨hab.1, hab.2.1⟩ hab.2.2.1
  have hpart := fun (A' : Option Addr) (c' : Nat) (w' : World) (h : Sl w' S A' y.l.length c' y.l) => rpart_any 4 y (IHP y (by simp)) (by omega) A' _ c' S w' h
  have htime : ∀ (A' : Option Addr) (n' c' : Nat) (w' : World), Calls Tryd.prog 87 #[.agg #[.int .i64 4, .int .i64 f, .int .i64 t, .int .i64 a, .int .i64 b, .slice A' n' c']] w' fun e w'' => e = .returned (.string (oftenP a b)) ∧ Chg No w' w'' := fun A' n' c' w' => rtimes_any (.mk 4 f t a b [y]) ⟨hab.1, hab.2.1⟩ hab.2.2.1 A' n' c' w'
  obtain ⟨P, hP⟩ : ∃ P, wrapP 4 y (printedP y) = P := ⟨_, rfl⟩
  obtain ⟨O, hO⟩ : ∃ O, oftenP a b = O := ⟨_, rfl⟩
  rw [hP] at hpart hwy
  rw [hO] at htime hoz
  rw [hP, hO] at HF
  have hbig : ¬ 9223372036854775807 < P.size + O.size := by omega
  clear hF hh hP hO hpy hwy hoz hns hny
  have hb := Blk.new w 25 #[.int .i64 4, .int .i64 f, .int .i64 t, .int .i64 a, .int .i64 b, .slice A 1 c]
  have hc0 : Chg No w (w.alloc (.cells #[.int .i64 4, .int .i64 f, .int .i64 t, .int .i64 a, .int .i64 b, .slice A 1 c] 25)) := (Chg.refl _ _).alloc _
  obtain ⟨y0, y1, y2, y3, y4, y5⟩ := ex_cells hb
  obtain ⟨g, o, A', c', rfl, hS, x0, x1, x2, x3, x4, x5, hx⟩ := (hl.chgNo hc0).at_ 0 (by simp)
  simp only [List.getElem_cons_zero, Nat.zero_mul, Nat.add_zero] at x0 x1 x2 x3 x4 x5 hx
  go_enter Tryd.func51, Tryd.ntmps51
  go_wp2_with fail
  clear hl
  generalize w.alloc (.cells #[.int .i64 4, .int .i64 f, .int .i64 t, .int .i64 a, .int .i64 b, .slice (some ⟨g, o, none⟩) 1 c] 25) = W0 at *
  have KS : Hid (∀ w', Chg No W0 w' → Chg No W0 w' ∧ (w'.cell? ⟨w.heap.size, 0, none⟩ = some (.int .i64 4) ∧ w'.cell? ⟨w.heap.size, 1, none⟩ = some (.int .i64 f) ∧ w'.cell? ⟨w.heap.size, 2, none⟩ = some (.int .i64 t) ∧ w'.cell? ⟨w.heap.size, 3, none⟩ = some (.int .i64 a) ∧ w'.cell? ⟨w.heap.size, 4, none⟩ = some (.int .i64 b) ∧ w'.cell? ⟨w.heap.size, 5, none⟩ = some (.slice (some ⟨g, o, none⟩) 1 c)) ∧
        w'.cell? ⟨g, o, none⟩ = some (.int .i64 y.k) ∧ w'.cell? ⟨g, o + 1, none⟩ = some (.int .i64 y.f) ∧ w'.cell? ⟨g, o + 2, none⟩ = some (.int .i64 y.t) ∧ w'.cell? ⟨g, o + 3, none⟩ = some (.int .i64 y.a) ∧ w'.cell? ⟨g, o + 4, none⟩ = some (.int .i64 y.b) ∧ w'.cell? ⟨g, o + 5, none⟩ = some (.slice A' y.l.length c')) := Lib.hid fun w' h => by
      have k : ∀ (p : Addr) (v : Value), W0.cell? p = some v → w'.cell? p = some v := fun p v hp => (h.below.cell (World.block_lt_of_cell? _ p hp)).trans hp
      exact ⟨h, ex_cells (hb.chg h id), k _ _ x0, k _ _ x1, k _ _ x2, k _ _ x3, k _ _ x4, k _ _ x5⟩
  have hD : Chg No W0 W0.drew := (Chg.refl No W0).drew
  have HC := hpart A' c' W0.drew (hx.chgNo hD)
  clear hpart y0 y1 y2 y3 y4 y5 x0 x1 x2 x3 x4 x5 hx
  go_region_held3 (fun w' => Chg No W0 w' ∧ (w'.cell? ⟨w.heap.size, 0, none⟩ = some (.int .i64 4) ∧ w'.cell? ⟨w.heap.size, 1, none⟩ = some (.int .i64 f) ∧ w'.cell? ⟨w.heap.size, 2, none⟩ = some (.int .i64 t) ∧ w'.cell? ⟨w.heap.size, 3, none⟩ = some (.int .i64 a) ∧ w'.cell? ⟨w.heap.size, 4, none⟩ = some (.int .i64 b) ∧ w'.cell? ⟨w.heap.size, 5, none⟩ = some (.slice (some ⟨g, o, none⟩) 1 c)) ∧
        w'.cell? ⟨g, o, none⟩ = some (.int .i64 y.k) ∧ w'.cell? ⟨g, o + 1, none⟩ = some (.int .i64 y.f) ∧ w'.cell? ⟨g, o + 2, none⟩ = some (.int .i64 y.t) ∧ w'.cell? ⟨g, o + 3, none⟩ = some (.int .i64 y.a) ∧ w'.cell? ⟨g, o + 4, none⟩ = some (.int .i64 y.b) ∧ w'.cell? ⟨g, o + 5, none⟩ = some (.slice A' y.l.length c')) ((refine KS.out _ ?_; with_reducible assumption)) (first | (go_at_call 86; (with_reducible refine HC.mono ?_); rintro e w1 ⟨rfl, hC1⟩; have hK1 := hD.trans hC1) | (go_at_call 87; (with_reducible refine (htime _ _ _ w1).mono ?_); rintro e w2 ⟨rfl, hC2⟩; have hK2 := hK1.trans hC2))
  go_wp2
  go_ret
  exact ⟨by rw [HF.out]; rfl, hc0.trans hK2⟩
end Go.Proofs.YticipgjbgcdccaaDoor
namespace Go.Proofs.YticipgjbgcdccaaDoor
open Go.RowKit

set_option maxHeartbeats 4000000 in
set_option maxRecDepth 100000 in
theorem rprint_any : ∀ (N : Nat) (x : Ex), SizeOf.sizeOf x < N → rightP x = true → nodesP x ≤ 4096 → PrRC x := by
  intro N
  induction N with
  | zero => intro _ h; omega
  | succ N ih =>
    intro x hN hR hn
    obtain ⟨k, f, t, a, b, l⟩ := x
    obtain ⟨hh, hr⟩ := rightP_head hR
    have IH : ∀ y ∈ l, PrRC y := fun y hy => ih y (by have := Ex.lt_of_mem hy k f t a b; omega) (hr y hy) (by have h1 : nodesS l ≤ 4095 := (by unfold nodesP at hn; omega); have := nodesS_mem l y hy; omega)
    by_cases k1 : k = 1
    · subst k1
      exact rprint_one f t a b l (range_of_right hR rfl)
    by_cases k4 : k = 4
    · subst k4
      exact rprint_rep f t a b l hR hn IH
    intro A n c S w hl
    obtain ⟨rfl, hc1, hc2⟩ : n = l.length ∧ l.length ≤ c ∧ c ≤ 9223372036854775807 := ⟨hl.1, by have := hl.2.1; have := hl.1; simp only [Ex.l] at *; omega, hl.2.2.1⟩
    have hl : Sl w S A l.length c l := hl
    show Calls Tryd.prog 51 #[.agg #[.int .i64 k, .int .i64 f, .int .i64 t, .int .i64 a, .int .i64 b, .slice A l.length c]] w fun e w' => e = .returned (.string (printedP (.mk k f t a b l))) ∧ Chg No w w'
    have hns : nodesS l ≤ 4095 := by unfold nodesP at hn; omega
    have hlen := nodesS_len l
    have hb := Blk.new w 25 #[.int .i64 k, .int .i64 f, .int .i64 t, .int .i64 a, .int .i64 b, .slice A l.length c]
    have hc0 : Chg No w (w.alloc (.cells #[.int .i64 k, .int .i64 f, .int .i64 t, .int .i64 a, .int .i64 b, .slice A l.length c] 25)) := (Chg.refl _ _).alloc _
    obtain ⟨y0, y1, y2, y3, y4, y5⟩ := ex_cells hb
    have e1 : (k == 1) = false := by simpa using k1
    have e4 : (k == 4) = false := by simpa using k4
    have hF : printedP (.mk k f t a b l) = if (decide (k = 3) && classesP l) = true then membersP l else joinP k 0 ⟨#[]⟩ (undersP k l) := by
      conv => lhs; unfold printedP
      rw [if_neg k1, if_neg k4]
    have hra : ∀ w', Chg No w w' → Calls Tryd.prog 88 #[.agg #[.int .i64 k, .int .i64 f, .int .i64 t, .int .i64 a, .int .i64 b, .slice A l.length c]] w' fun e w'' => e = .returned (.bool (decide (k = 3) && classesP l)) ∧ Chg No w' w'' := fun w' h => ranges_any (.mk k f t a b l) A _ c S w' (hl.chgNo h)
    obtain ⟨q, hq⟩ : ∃ q, (decide (k = 3) && classesP l) = q := ⟨_, rfl⟩
    rw [hq] at hF
    simp only [hq] at hra
    cases q with
    | true =>
      rw [if_pos rfl] at hF
      have hcl : ∀ x ∈ l, x.k = 1 := by
        have : classesP l = true := by simp at hq; exact hq.2
        exact (classesP_iff l).1 this
      have hrg : ∀ x ∈ l, rangeOk x := fun x hx => range_of_right (hr x hx) (hcl x hx)
      have HRG := Lib.hid hrg
      have HF : Hid (printedP (.mk k f t a b l) = ⟨#[91]⟩ ++ l.foldl rangeP ⟨#[]⟩ ++ ⟨#[93]⟩) := Lib.hid hF
      have s1 : (⟨#[91]⟩ : ByteArray).size = 1 := rfl
      have s2 : (⟨#[93]⟩ : ByteArray).size = 1 := rfl
      clear ih IH hF hcl hrg hr hh hR hn k1 k4 hq
      go_enter Tryd.func51, Tryd.ntmps51
      go_wp2_with fail
      refine (hra _ hc0).mono ?_
      rintro e w1 ⟨rfl, hC1⟩
      replace hb := hb.chg hC1 id
      replace hc0 := hc0.trans hC1
      clear y0 y1 y2 y3 y4 y5 hra hC1
      go_wp2_with fail
      go_loopw [3, 4] (fun v3 v4 wr => ∃ i : Nat, i ≤ l.length ∧ v4 = .int .i64 (i : Int) ∧ v3 = .string ((l.take i).foldl rangeP ⟨#[]⟩) ∧ Chg No w1 wr) (fun _ v _ => l.length - (intOf v).toNat)
      case atStart => exact ⟨0, Nat.zero_le _, rfl, rfl, Chg.refl _ _⟩
      case round =>
        obtain ⟨i, hi, rfl, rfl, hc⟩ := hrel
        obtain ⟨z0, z1, z2, z3, z4, z5⟩ := ex_cells (hb.chg hc id)
        by_cases hlt : i < l.length
        · obtain ⟨g, o, A', c', rfl, hSg, x0, x1, x2, x3, x4, x5, hx⟩ := (hl.chgNo (hc0.trans hc)).at_ i hlt
          have hme := rmember_any l[i] (HRG.out _ (List.getElem_mem hlt)) A' l[i].l.length c' wr
          have hst : (l.take (i + 1)).foldl rangeP ⟨#[]⟩ = (l.take i).foldl rangeP ⟨#[]⟩ ++ memP l[i] := by
            rw [List.take_succ_eq_append_getElem hlt, List.foldl_append]
            exact range_mem (HRG.out _ (List.getElem_mem hlt)) _
          have hz := foldl_range_size (l.take i) ⟨#[]⟩
          have hz2 := memP_size l[i]
          rw [show (⟨#[]⟩ : ByteArray).size = 0 from rfl, List.length_take] at hz
          obtain ⟨T, hT⟩ : ∃ T, (l.take i).foldl rangeP ⟨#[]⟩ = T := ⟨_, rfl⟩
          obtain ⟨M, hM⟩ : ∃ M, memP l[i] = M := ⟨_, rfl⟩
          simp only [hT, hM] at hst hz hz2 hme ⊢
          have HST := Lib.hid hst
          have hbig : ¬ 9223372036854775807 < T.size + M.size := by omega
          clear hst hT hM hz hz2
          go_wp2_with fail
          refine hme.mono ?_
          rintro e w2 ⟨rfl, hC2⟩
          go_wp2
          exact ⟨⟨i + 1, by omega, by go_num, by rw [HST.out], hc.trans hC2⟩, by simp [intOf]; omega⟩
        · obtain rfl : i = l.length := by omega
          have hz := foldl_range_size l ⟨#[]⟩
          rw [show (⟨#[]⟩ : ByteArray).size = 0 from rfl] at hz
          simp only [List.take_of_length_le (Nat.le_refl _)]
          obtain ⟨T, hT⟩ : ∃ T, l.foldl rangeP ⟨#[]⟩ = T := ⟨_, rfl⟩
          simp only [hT] at hz ⊢
          have HT := Lib.hid hT
          clear hT
          go_wp2
          go_ret
          exact ⟨by rw [HF.out, HT.out]; rfl, hc0.trans hc⟩
    | false =>
      rw [if_neg (by simp)] at hF
      have HF := Lib.hid hF
      have hun := undersP_eq k l
      have hroom := undersP_size l k hr
      have HU := Lib.hid hun
      have HI := Lib.hid IH
      have HR := Lib.hid hr
      obtain ⟨q3, h3⟩ : ∃ q : Bool, (k == 3) = q := ⟨_, rfl⟩
      clear ih IH hF hr hh hR hn k1 k4 hq hun
      go_enter Tryd.func51, Tryd.ntmps51
      go_wp2_with fail
      refine (hra _ hc0).mono ?_
      rintro e w1 ⟨rfl, hC1⟩
      replace hb := hb.chg hC1 id
      replace hc0 := hc0.trans hC1
      clear y0 y1 y2 y3 y4 y5 hra hC1
      go_wp2_with fail
      go_loopw [3, 5] (fun v3 v5 wr => ∃ i : Nat, i ≤ l.length ∧ v5 = .int .i64 (i : Int) ∧ v3 = .string (joinP k 0 ⟨#[]⟩ ((undersP k l).take i)) ∧ Chg No w1 wr) (fun _ v _ => l.length - (intOf v).toNat)
      case atStart => exact ⟨0, Nat.zero_le _, rfl, rfl, Chg.refl _ _⟩
      case round =>
        obtain ⟨i, hi, rfl, rfl, hc⟩ := hrel
        obtain ⟨z0, z1, z2, z3, z4, z5⟩ := ex_cells (hb.chg hc id)
        have hsz := joinP_size k ((undersP k l).take i) 0 ⟨#[]⟩
        have htk := roomS_take (undersP k l) i
        rw [show (⟨#[]⟩ : ByteArray).size = 0 from rfl] at hsz
        have hul : (undersP k l).length = l.length := by rw [HU.out, List.length_map]
        by_cases hlt : i < l.length
        · obtain ⟨g, o, A', c', rfl, hSg, x0, x1, x2, x3, x4, x5, hx⟩ := (hl.chgNo (hc0.trans hc)).at_ i hlt
          have hpy := printedP_size l[i] (HR.out _ (List.getElem_mem hlt))
          have hny := nodesS_mem l _ (List.getElem_mem hlt)
          have hwy := wrapP_size k l[i] (printedP l[i])
          have hpa := fun (w' : World) (h : Chg No wr w') => rpart_any k l[i] (HI.out _ (List.getElem_mem hlt)) (by omega) A' _ c' S w' (hx.chgNo h)
          have hst : joinP k 0 ⟨#[]⟩ ((undersP k l).take (i + 1)) = (if 0 < i ∧ k = 3 then joinP k 0 ⟨#[]⟩ ((undersP k l).take i) ++ ⟨#[124]⟩ else joinP k 0 ⟨#[]⟩ ((undersP k l).take i)) ++ wrapP k l[i] (printedP l[i]) := by
            rw [List.take_succ_eq_append_getElem (by omega), joinP_snoc, List.length_take, Nat.min_eq_left (by omega), Nat.zero_add]
            congr 1
            simp only [HU.out, List.getElem_map]
          obtain ⟨T, hT⟩ : ∃ T, joinP k 0 ⟨#[]⟩ ((undersP k l).take i) = T := ⟨_, rfl⟩
          obtain ⟨U, hU⟩ : ∃ U, wrapP k l[i] (printedP l[i]) = U := ⟨_, rfl⟩
          simp only [hT, hU] at hst hsz hwy hpa ⊢
          have HPA := Lib.hid hpa
          have s1 : (⟨#[124]⟩ : ByteArray).size = 1 := rfl
          have g1 : ¬ 9223372036854775807 < T.size + 1 := by omega
          have g2 : ¬ 9223372036854775807 < T.size + U.size := by omega
          have g3 : ¬ 9223372036854775807 < T.size + 1 + U.size := by omega
          have hbw := hb.chg hc id
          have KS : Hid (∀ w', Chg No wr w' → Chg No wr w' ∧ (w'.cell? ⟨w.heap.size, 0, none⟩ = some (.int .i64 k) ∧ w'.cell? ⟨w.heap.size, 5, none⟩ = some (.slice (some ⟨g, o, none⟩) l.length c)) ∧
              w'.cell? ⟨g, o + i * 6, none⟩ = some (.int .i64 l[i].k) ∧ w'.cell? ⟨g, o + i * 6 + 1, none⟩ = some (.int .i64 l[i].f) ∧ w'.cell? ⟨g, o + i * 6 + 2, none⟩ = some (.int .i64 l[i].t) ∧ w'.cell? ⟨g, o + i * 6 + 3, none⟩ = some (.int .i64 l[i].a) ∧ w'.cell? ⟨g, o + i * 6 + 4, none⟩ = some (.int .i64 l[i].b) ∧ w'.cell? ⟨g, o + i * 6 + 5, none⟩ = some (.slice A' l[i].l.length c')) := Lib.hid fun w' h => by
            have k : ∀ (p : Addr) (v : Value), wr.cell? p = some v → w'.cell? p = some v := fun p v hp => (h.below.cell (World.block_lt_of_cell? _ p hp)).trans hp
            exact ⟨h, ⟨(ex_cells (hbw.chg h id)).1, (ex_cells (hbw.chg h id)).2.2.2.2.2⟩, k _ _ x0, k _ _ x1, k _ _ x2, k _ _ x3, k _ _ x4, k _ _ x5⟩
          have hD : Chg No wr wr.drew := (Chg.refl No wr).drew
          clear hT hU hpa hpy hwy hul
          by_cases hbar : 0 < i ∧ k = 3
          · have hq3 : q3 = true := by rw [← h3]; simpa using hbar.2
            subst hq3
            have hi0 : (0 : Int) < (i : Int) := by omega
            rw [if_pos hbar] at hst
            have HST := Lib.hid hst
            clear hst hbar
            go_wp2_with fail
            clear x0 x1 x2 x3 x4 x5 z0 z1 z2 z3 z4 z5
            go_region_held3 (fun w' => Chg No wr w' ∧ (w'.cell? ⟨w.heap.size, 0, none⟩ = some (.int .i64 k) ∧ w'.cell? ⟨w.heap.size, 5, none⟩ = some (.slice (some ⟨g, o, none⟩) l.length c)) ∧
              w'.cell? ⟨g, o + i * 6, none⟩ = some (.int .i64 l[i].k) ∧ w'.cell? ⟨g, o + i * 6 + 1, none⟩ = some (.int .i64 l[i].f) ∧ w'.cell? ⟨g, o + i * 6 + 2, none⟩ = some (.int .i64 l[i].t) ∧ w'.cell? ⟨g, o + i * 6 + 3, none⟩ = some (.int .i64 l[i].a) ∧ w'.cell? ⟨g, o + i * 6 + 4, none⟩ = some (.int .i64 l[i].b) ∧ w'.cell? ⟨g, o + i * 6 + 5, none⟩ = some (.slice A' l[i].l.length c')) ((refine KS.out _ ?_; with_reducible assumption)) (first | (go_at_call 86; (with_reducible refine (HPA.out wr.drew hD).mono ?_); rintro e w2 ⟨rfl, hC2⟩; have hK2 := hD.trans hC2))
            go_wp2
            exact ⟨⟨i + 1, by omega, by go_num, by rw [HST.out], hc.trans hK2⟩, by simp [intOf]; omega⟩
          · rw [if_neg hbar] at hst
            have HST := Lib.hid hst
            obtain ⟨d, hd⟩ : ∃ d : Bool, decide (0 < i) = d := ⟨_, rfl⟩
            have hn : (d && q3) = false := by
              rw [← hd, ← h3]
              cases h : (decide (0 < i) && (k == 3)) with
              | false => rfl
              | true => simp at h; exact absurd h hbar
            clear hst hbar
            cases d <;> cases q3
            all_goals first | (cases hn; done) | skip
            all_goals
              go_wp2_with fail
              clear x0 x1 x2 x3 x4 x5 z0 z1 z2 z3 z4 z5
              go_region_held3 (fun w' => Chg No wr w' ∧ (w'.cell? ⟨w.heap.size, 0, none⟩ = some (.int .i64 k) ∧ w'.cell? ⟨w.heap.size, 5, none⟩ = some (.slice (some ⟨g, o, none⟩) l.length c)) ∧
              w'.cell? ⟨g, o + i * 6, none⟩ = some (.int .i64 l[i].k) ∧ w'.cell? ⟨g, o + i * 6 + 1, none⟩ = some (.int .i64 l[i].f) ∧ w'.cell? ⟨g, o + i * 6 + 2, none⟩ = some (.int .i64 l[i].t) ∧ w'.cell? ⟨g, o + i * 6 + 3, none⟩ = some (.int .i64 l[i].a) ∧ w'.cell? ⟨g, o + i * 6 + 4, none⟩ = some (.int .i64 l[i].b) ∧ w'.cell? ⟨g, o + i * 6 + 5, none⟩ = some (.slice A' l[i].l.length c')) ((refine KS.out _ ?_; with_reducible assumption)) (first | (go_at_call 86; (with_reducible refine (HPA.out wr.drew hD).mono ?_); rintro e w2 ⟨rfl, hC2⟩; have hK2 := hD.trans hC2))
              go_wp2
              exact ⟨⟨i + 1, by omega, by go_num, by rw [HST.out], hc.trans hK2⟩, by simp [intOf]; omega⟩
        · obtain rfl : i = l.length := by omega
          simp only [List.take_of_length_le (show (undersP k l).length ≤ l.length by omega)]
          obtain ⟨T, hT⟩ : ∃ T, joinP k 0 ⟨#[]⟩ (undersP k l) = T := ⟨_, rfl⟩
          simp only [hT]
          have HT := Lib.hid hT
          clear hT
          go_wp2
          go_ret
          exact ⟨by rw [HF.out, HT.out]; rfl, hc0.trans hc⟩

set_option maxHeartbeats 1000000 in
set_option maxRecDepth 100000 in
theorem rPrint_any (x : Ex) (A : Option Addr) (n c : Nat) (S : Nat → Prop) (w : World) (hl : Sl w S A n c x.l) (hsm : lenOk x) :
    Calls Tryd.prog 18 #[.agg #[.int .i64 x.k, .int .i64 x.f, .int .i64 x.t, .int .i64 x.a, .int .i64 x.b, .slice A n c]] w
      fun e w' => e = .returned (.tuple #[.string (printP x).1, .int .i64 (printP x).2]) ∧ Chg No w w' := by
  have hb := Blk.new w 25 #[.int .i64 x.k, .int .i64 x.f, .int .i64 x.t, .int .i64 x.a, .int .i64 x.b, .slice A n c]
  have hc0 : Chg No w (w.alloc (.cells #[.int .i64 x.k, .int .i64 x.f, .int .i64 x.t, .int .i64 x.a, .int .i64 x.b, .slice A n c] 25)) := (Chg.refl _ _).alloc _
  have hch := rCheck_any x A n c S _ (hl.chgNo hc0) hsm
  have HG : Hid (checkP x = 0 → PrRC x ∧ (printedP x).size ≤ 100000) := Lib.hid fun h => by
    obtain ⟨hR, hn, hp⟩ := checkP_nodes x h
    have := printedP_size x hR
    exact ⟨rprint_any _ x (Nat.lt_succ_self _) hR hn, by omega⟩
  have HPR := Lib.hid (show printP x = if checkP x ≠ 0 then (⟨#[]⟩, checkP x) else if 4096 < (printedP x).size then (⟨#[]⟩, 2) else (printedP x, 0) from rfl)
  obtain ⟨E, hE⟩ : ∃ E, checkP x = E := ⟨_, rfl⟩
  rw [hE] at hch HPR HG
  clear hE
  obtain ⟨y0, y1, y2, y3, y4, y5⟩ := ex_cells hb
  go_enter Tryd.func18, Tryd.ntmps18
  go_wp2_with fail
  refine hch.mono ?_
  rintro e w1 ⟨rfl, hC1⟩
  by_cases q : E = 0
  · obtain ⟨hpr, hz⟩ := HG.out q
    have hHP : printP x = if 4096 < (printedP x).size then (⟨#[]⟩, 2) else (printedP x, 0) := by rw [HPR.out, if_neg (by simpa using q)]
    obtain ⟨P, hP⟩ : ∃ P, printedP x = P := ⟨_, rfl⟩
    rw [hP] at hHP hz
    have HPP := Lib.hid hP
    subst q
    clear y0 y1 y2 y3 y4 y5 HPR hP
    obtain ⟨y0, y1, y2, y3, y4, y5⟩ := ex_cells (hb.chg hC1 id)
    have HC := hpr A n c S w1 (hl.chgNo (hc0.trans hC1))
    rw [HPP.out] at HC
    by_cases hbig : 4096 < P.size
    · rw [if_pos hbig] at hHP
      have HX := Lib.hid hHP
      clear hHP
      go_wp2_with fail
      refine HC.mono ?_
      rintro e w2 ⟨rfl, hC2⟩
      go_wp2
      go_ret2
      exact ⟨by rw [HX.out]; rfl, (hc0.trans hC1).trans hC2⟩
    · rw [if_neg hbig] at hHP
      have HX := Lib.hid hHP
      clear hHP
      go_wp2_with fail
      refine HC.mono ?_
      rintro e w2 ⟨rfl, hC2⟩
      go_wp2
      go_ret2
      exact ⟨by rw [HX.out]; rfl, (hc0.trans hC1).trans hC2⟩
  · have e1 : (E != 0) = true := by simpa using q
    have HX : Hid (printP x = (⟨#[]⟩, E)) := Lib.hid (by rw [HPR.out, if_pos q])
    clear q HPR
    go_wp2
    go_ret2
    exact ⟨by rw [HX.out]; rfl, hc0.trans hC1⟩
end Go.Proofs.YticipgjbgcdccaaDoor
namespace Go.Proofs.YticipgjbgcdccaaDoor
open Go.RowKit

/-- a pattern that is at hand: its variable in block g, element i of the argument; and nothing that was there has changed -/
def TwoAt (w0 : World) (g : Nat) (x : Ex) (A : Option Addr) (c : Nat) (ga oa i : Nat) (A' : Option Addr) (c' : Nat) (w : World) : Prop :=
  Chg No w0 w ∧ (w.cell? ⟨g, 0, none⟩ = some (.int .i64 x.k) ∧ w.cell? ⟨g, 1, none⟩ = some (.int .i64 x.f) ∧ w.cell? ⟨g, 2, none⟩ = some (.int .i64 x.t) ∧ w.cell? ⟨g, 3, none⟩ = some (.int .i64 x.a) ∧ w.cell? ⟨g, 4, none⟩ = some (.int .i64 x.b) ∧ w.cell? ⟨g, 5, none⟩ = some (.slice A x.l.length c)) ∧
  (w.cell? ⟨ga, oa + i * 6, none⟩ = some (.int .i64 x.k) ∧ w.cell? ⟨ga, oa + i * 6 + 1, none⟩ = some (.int .i64 x.f) ∧ w.cell? ⟨ga, oa + i * 6 + 2, none⟩ = some (.int .i64 x.t) ∧ w.cell? ⟨ga, oa + i * 6 + 3, none⟩ = some (.int .i64 x.a) ∧ w.cell? ⟨ga, oa + i * 6 + 4, none⟩ = some (.int .i64 x.b) ∧ w.cell? ⟨ga, oa + i * 6 + 5, none⟩ = some (.slice A' x.l.length c'))
theorem TwoAt.chg {w0 w w' : World} {g : Nat} {x : Ex} {A : Option Addr} {c ga oa i : Nat} {A' : Option Addr} {c' : Nat} (h : TwoAt w0 g x A c ga oa i A' c' w) (hc : Chg No w w') : TwoAt w0 g x A c ga oa i A' c' w' := by
  have car : ∀ {p : Addr} {v : Value}, w.cell? p = some v → w'.cell? p = some v := fun h => (hc.below.cell (World.block_lt_of_cell? _ _ h)).trans h
  obtain ⟨h0, ⟨a0, a1, a2, a3, a4, a5⟩, b0, b1, b2, b3, b4, b5⟩ := h
  exact ⟨h0.trans hc, ⟨car a0, car a1, car a2, car a3, car a4, car a5⟩, car b0, car b1, car b2, car b3, car b4, car b5⟩
theorem TwoAt.new {w w1 : World} {x : Ex} {A : Option Addr} {c ga oa i : Nat} {A' : Option Addr} {c' : Nat} (h1 : Chg No w w1)
    (x0 : w.cell? ⟨ga, oa + i * 6, none⟩ = some (.int .i64 x.k)) (x1 : w.cell? ⟨ga, oa + i * 6 + 1, none⟩ = some (.int .i64 x.f)) (x2 : w.cell? ⟨ga, oa + i * 6 + 2, none⟩ = some (.int .i64 x.t)) (x3 : w.cell? ⟨ga, oa + i * 6 + 3, none⟩ = some (.int .i64 x.a)) (x4 : w.cell? ⟨ga, oa + i * 6 + 4, none⟩ = some (.int .i64 x.b)) (x5 : w.cell? ⟨ga, oa + i * 6 + 5, none⟩ = some (.slice A' x.l.length c')) :
    TwoAt w w1.heap.size x A c ga oa i A' c' (w1.alloc (.cells #[.int .i64 x.k, .int .i64 x.f, .int .i64 x.t, .int .i64 x.a, .int .i64 x.b, .slice A x.l.length c] 25)) := by
  have hc := h1.alloc (.cells #[.int .i64 x.k, .int .i64 x.f, .int .i64 x.t, .int .i64 x.a, .int .i64 x.b, .slice A x.l.length c] 25)
  have car : ∀ {p : Addr} {v : Value}, w.cell? p = some v → (w1.alloc (.cells #[.int .i64 x.k, .int .i64 x.f, .int .i64 x.t, .int .i64 x.a, .int .i64 x.b, .slice A x.l.length c] 25)).cell? p = some v := fun h => (hc.below.cell (World.block_lt_of_cell? _ _ h)).trans h
  exact ⟨hc, ex_cells (Blk.new w1 25 #[.int .i64 x.k, .int .i64 x.f, .int .i64 x.t, .int .i64 x.a, .int .i64 x.b, .slice A x.l.length c]), car x0, car x1, car x2, car x3, car x4, car x5⟩

def HeldC (w0 : World) (g : Nat) (x : Ex) (A : Option Addr) (c : Nat) (ga oa i : Nat) (A' : Option Addr) (c' : Nat) (w5 w : World) : Prop := TwoAt w0 g x A c ga oa i A' c' w ∧ Chg No w5 w
theorem posP_snd (x : Ex) : (posP x).2 = checkP x := by
  unfold posP
  split
  · rfl
  · rename_i h; simp at h; simp [h]

set_option maxHeartbeats 4000000 in
set_option maxRecDepth 100000 in
theorem ExprChecks_any (l : List Ex) (A : Option Addr) (n c : Nat) (S : Nat → Prop) (w : World) (hl : Sl w S A n c l) (hok : ∀ x ∈ l, lenOk x) (hd : Deb w) (hg : 0 < w.heap.size) (ht : Tab w) :
    Calls Tryd.prog 8 #[.slice A n c] w fun e w' => e = .returned (.bool true) ∧ Chg No w w' := by
  have hn := hl.1
  subst hn
  have hcap : l.length ≤ c ∧ c ≤ 9223372036854775807 := ⟨hl.2.1, hl.2.2.1⟩
  have HO := Lib.hid hok
  have HG := Lib.hid (show Deb w ∧ 0 < w.heap.size ∧ Tab w from ⟨hd, hg, ht⟩)
  clear hok hd hg ht
  go_enter Tryd.func8, Tryd.ntmps8
  go_wp2_with fail
  go_loopw [3] (fun v3 wr => ∃ i : Nat, i ≤ l.length ∧ v3 = .int .i64 (i : Int) ∧ Chg No w wr) (fun v _ => l.length - (intOf v).toNat)
  case atStart => exact ⟨0, Nat.zero_le _, rfl, Chg.refl No _⟩
  case round =>
    obtain ⟨i, hi, rfl, hc⟩ := hrel
    by_cases hlt : i < l.length
    · have hlenOk := HO.out _ (List.getElem_mem hlt)
      obtain ⟨ga, oa, A', c', rfl, hS, x0, x1, x2, x3, x4, x5, hx⟩ := (hl.chgNo hc).at_ i hlt
      generalize l[i] = x at hlenOk x0 x1 x2 x3 x4 x5 hx
      go_wp2_with fail
      refine (TwinExpr_any x A' _ c' S wr hx hlenOk).mono ?_
      rintro e w1 ⟨A2, c2, rfl, hM, hc1⟩
      have hT := TwoAt.new (A := A2) (c := c2) hc1 x0 x1 x2 x3 x4 x5
      have hM2 : MineAt (w1.alloc (.cells #[.int .i64 x.k, .int .i64 x.f, .int .i64 x.t, .int .i64 x.a, .int .i64 x.b, .slice A2 x.l.length c2] 25)) wr.heap.size x A2 c2 := hM.chgNo ((Chg.refl No w1).alloc _)
      have hch := check_any (w1.alloc (.cells #[.int .i64 x.k, .int .i64 x.f, .int .i64 x.t, .int .i64 x.a, .int .i64 x.b, .slice A2 x.l.length c2] 25)) x.k x.f x.t x.a x.b A2 x.l.length c2 x.l _ hM2.2
      rw [Ex.eta] at hch
      have hpoF := fun w' (h : Sl w' (fun _ => True) A2 x.l.length c2 x.l) => Positions_any x A2 x.l.length c2 _ w' h
      have hrpF := fun w' (h : Sl w' S A' x.l.length c' x.l) => rPositions_any x A' x.l.length c' S w' h hlenOk
      rw [posP_snd] at hpoF hrpF
      obtain ⟨E, hE⟩ : ∃ E, checkP x = E := ⟨_, rfl⟩
      obtain ⟨P, hP⟩ : ∃ P, (posP x).1 = P := ⟨_, rfl⟩
      rw [hE] at hch hpoF hrpF
      rw [hP] at hpoF hrpF
      clear hE hP
      clear x0 x1 x2 x3 x4 x5
      go_wp2_with fail
      refine hch.mono ?_
      rintro e w3 ⟨rfl, hc3⟩
      replace hT := hT.chg hc3
      replace hM2 := hM2.chgNo hc3
      obtain ⟨_, ⟨a0, a1, a2, a3, a4, a5⟩, _⟩ := id hT
      have hpo := hpoF w3 hM2.2
      go_wp2_with fail
      refine hpo.mono ?_
      rintro e w4 ⟨rfl, hc4⟩
      replace hT := hT.chg hc4
      replace hM2 := hM2.chgNo hc4
      clear a0 a1 a2 a3 a4 a5
      obtain ⟨hk4, ⟨a0, a1, a2, a3, a4, a5⟩, b0, b1, b2, b3, b4, b5⟩ := id hT
      have hrp := hrpF w4 (hx.chgNo hk4)
      go_wp2_with fail
      refine hrp.mono ?_
      rintro e w5 ⟨rfl, hc5⟩
      replace hT := hT.chg hc5
      replace hM2 := hM2.chgNo hc5
      clear a0 a1 a2 a3 a4 a5 b0 b1 b2 b3 b4 b5 hpoF hrpF hpo hrp hch
      have hm1 := fun w' (h : HeldC wr w1.heap.size x A2 c2 ga oa i A' c' w5 w') => (Empty_any x A2 x.l.length c2 _ w' (hM2.2.chgNo h.2)).mono fun e w'' ⟨he, hc⟩ => (⟨he, h.1.chg hc, h.2.trans hc⟩ : e = _ ∧ HeldC wr w1.heap.size x A2 c2 ga oa i A' c' w5 w'')
      have hm2 := fun w' (h : HeldC wr w1.heap.size x A2 c2 ga oa i A' c' w5 w') => (rEmpty_any x A' x.l.length c' S w' (hx.chgNo h.1.1) hlenOk).mono fun e w'' ⟨he, hc⟩ => (⟨he, h.1.chg hc, h.2.trans hc⟩ : e = _ ∧ HeldC wr w1.heap.size x A2 c2 ga oa i A' c' w5 w'')
      have hm3 := fun w' (h : HeldC wr w1.heap.size x A2 c2 ga oa i A' c' w5 w') => (KeptExpr_any x _ A2 c2 A' x.l.length c' S w' (hM2.chgNo h.2) (hx.chgNo h.1.1) hlenOk).mono fun e w'' ⟨he, hc⟩ => (⟨he, h.1.chg hc, h.2.trans hc⟩ : e = _ ∧ HeldC wr w1.heap.size x A2 c2 ga oa i A' c' w5 w'')
      have hH0 : HeldC wr w1.heap.size x A2 c2 ga oa i A' c' w5 w5.drew := ⟨hT.chg (Chg.refl No w5).drew, (Chg.refl No w5).drew⟩
      have mkS : ∀ w', HeldC wr w1.heap.size x A2 c2 ga oa i A' c' w5 w' → HeldC wr w1.heap.size x A2 c2 ga oa i A' c' w5 w' ∧ w'.cell? ⟨w1.heap.size, 0, none⟩ = some (.int .i64 x.k) ∧ w'.cell? ⟨w1.heap.size, 1, none⟩ = some (.int .i64 x.f) ∧ w'.cell? ⟨w1.heap.size, 2, none⟩ = some (.int .i64 x.t) ∧ w'.cell? ⟨w1.heap.size, 3, none⟩ = some (.int .i64 x.a) ∧ w'.cell? ⟨w1.heap.size, 4, none⟩ = some (.int .i64 x.b) ∧ w'.cell? ⟨w1.heap.size, 5, none⟩ = some (.slice A2 x.l.length c2) ∧
          w'.cell? ⟨ga, oa + i * 6, none⟩ = some (.int .i64 x.k) ∧ w'.cell? ⟨ga, oa + i * 6 + 1, none⟩ = some (.int .i64 x.f) ∧ w'.cell? ⟨ga, oa + i * 6 + 2, none⟩ = some (.int .i64 x.t) ∧ w'.cell? ⟨ga, oa + i * 6 + 3, none⟩ = some (.int .i64 x.a) ∧ w'.cell? ⟨ga, oa + i * 6 + 4, none⟩ = some (.int .i64 x.b) ∧ w'.cell? ⟨ga, oa + i * 6 + 5, none⟩ = some (.slice A' x.l.length c') := fun w' h => by
        obtain ⟨h0, ⟨a0, a1, a2, a3, a4, a5⟩, b0, b1, b2, b3, b4, b5⟩ := h.1
        exact ⟨h, a0, a1, a2, a3, a4, a5, b0, b1, b2, b3, b4, b5⟩
      have MKS := Lib.hid mkS
      clear mkS
      obtain ⟨B, hB⟩ : ∃ B, EmptyP x = B := ⟨_, rfl⟩
      rw [hB] at hm1 hm2
      clear hB
      go_wp2_with fail
      go_region_held3 (fun w' => HeldC wr w1.heap.size x A2 c2 ga oa i A' c' w5 w' ∧ w'.cell? ⟨w1.heap.size, 0, none⟩ = some (.int .i64 x.k) ∧ w'.cell? ⟨w1.heap.size, 1, none⟩ = some (.int .i64 x.f) ∧ w'.cell? ⟨w1.heap.size, 2, none⟩ = some (.int .i64 x.t) ∧ w'.cell? ⟨w1.heap.size, 3, none⟩ = some (.int .i64 x.a) ∧ w'.cell? ⟨w1.heap.size, 4, none⟩ = some (.int .i64 x.b) ∧ w'.cell? ⟨w1.heap.size, 5, none⟩ = some (.slice A2 x.l.length c2) ∧
          w'.cell? ⟨ga, oa + i * 6, none⟩ = some (.int .i64 x.k) ∧ w'.cell? ⟨ga, oa + i * 6 + 1, none⟩ = some (.int .i64 x.f) ∧ w'.cell? ⟨ga, oa + i * 6 + 2, none⟩ = some (.int .i64 x.t) ∧ w'.cell? ⟨ga, oa + i * 6 + 3, none⟩ = some (.int .i64 x.a) ∧ w'.cell? ⟨ga, oa + i * 6 + 4, none⟩ = some (.int .i64 x.b) ∧ w'.cell? ⟨ga, oa + i * 6 + 5, none⟩ = some (.slice A' x.l.length c')) (exact MKS.out _ (by assumption)) (first | (go_at_call 33; refine (hm1 _ (by assumption)).mono ?_; rintro e w2 ⟨rfl, hH⟩) | (go_at_call 34; refine (hm2 _ (by assumption)).mono ?_; rintro e w2 ⟨rfl, hH⟩) | (go_at_call 19; refine (hm3 _ (by assumption)).mono ?_; rintro e w2 ⟨rfl, hH⟩))
      have hW := hc.trans hH.1.1
      go_wp2
      exact ⟨⟨i + 1, by omega, by go_num, hW⟩, by simp [intOf]; omega⟩
    · obtain rfl : i = l.length := by omega
      obtain ⟨h1, h2, h3⟩ := HG.out
      have hkn := known_any wr (h1.chgNo hc) (by have := hc.size; omega) (h3.chgNo hc)
      go_wp2_with fail
      refine hkn.mono ?_
      rintro e w5 ⟨rfl, hc5⟩
      go_wp2
      go_ret
      exact ⟨rfl, hc.trans hc5⟩
end Go.Proofs.YticipgjbgcdccaaDoor
namespace Go.Proofs.YticipgjbgcdccaaDoor
open Go.RowKit

set_option maxHeartbeats 4000000 in
set_option maxRecDepth 100000 in
theorem ExprPrints_any (l : List Ex) (A : Option Addr) (n c : Nat) (S : Nat → Prop) (w : World) (hl : Sl w S A n c l) (hok : ∀ x ∈ l, lenOk x) (hd : Deb w) (hg : 0 < w.heap.size) (ht : Tab w) :
    Calls Tryd.prog 4 #[.slice A n c] w fun e w' => e = .returned (.bool true) ∧ Chg No w w' := by
  have hn := hl.1
  subst hn
  have hcap : l.length ≤ c ∧ c ≤ 9223372036854775807 := ⟨hl.2.1, hl.2.2.1⟩
  have HO := Lib.hid hok
  have HG := Lib.hid (show Deb w ∧ 0 < w.heap.size ∧ Tab w from ⟨hd, hg, ht⟩)
  clear hok hd hg ht
  go_enter Tryd.func4, Tryd.ntmps4
  go_wp2_with fail
  go_loopw [3] (fun v3 wr => ∃ i : Nat, i ≤ l.length ∧ v3 = .int .i64 (i : Int) ∧ Chg No w wr) (fun v _ => l.length - (intOf v).toNat)
  case atStart => exact ⟨0, Nat.zero_le _, rfl, Chg.refl No _⟩
  case round =>
    obtain ⟨i, hi, rfl, hc⟩ := hrel
    by_cases hlt : i < l.length
    · have hlenOk := HO.out _ (List.getElem_mem hlt)
      obtain ⟨ga, oa, A', c', rfl, hS, x0, x1, x2, x3, x4, x5, hx⟩ := (hl.chgNo hc).at_ i hlt
      generalize l[i] = x at hlenOk x0 x1 x2 x3 x4 x5 hx
      go_wp2_with fail
      refine (TwinExpr_any x A' _ c' S wr hx hlenOk).mono ?_
      rintro e w1 ⟨A2, c2, rfl, hM, hc1⟩
      have hT := TwoAt.new (A := A2) (c := c2) hc1 x0 x1 x2 x3 x4 x5
      have hM2 : MineAt (w1.alloc (.cells #[.int .i64 x.k, .int .i64 x.f, .int .i64 x.t, .int .i64 x.a, .int .i64 x.b, .slice A2 x.l.length c2] 25)) wr.heap.size x A2 c2 := hM.chgNo ((Chg.refl No w1).alloc _)
      have htw : Tab (w1.alloc (.cells #[.int .i64 x.k, .int .i64 x.f, .int .i64 x.t, .int .i64 x.a, .int .i64 x.b, .slice A2 x.l.length c2] 25)) := (HG.out.2.2.chgNo hc).chgNo (hc1.alloc _)
      have hsh := print_any x A2 x.l.length c2 _ (w1.alloc (.cells #[.int .i64 x.k, .int .i64 x.f, .int .i64 x.t, .int .i64 x.a, .int .i64 x.b, .slice A2 x.l.length c2] 25)) hM2.2 htw
      have hrsF := fun w' (h : Sl w' S A' x.l.length c' x.l) => rPrint_any x A' x.l.length c' S w' h hlenOk
      obtain ⟨⟨T, E⟩, hE⟩ : ∃ q, printP x = q := ⟨_, rfl⟩
      rw [hE] at hsh
      simp only [hE] at hrsF hsh
      clear hE htw
      clear x0 x1 x2 x3 x4 x5
      go_wp2_with fail
      refine hsh.mono ?_
      rintro e w5 ⟨rfl, hc5⟩
      replace hT := hT.chg hc5
      replace hM2 := hM2.chgNo hc5
      clear hsh
      obtain ⟨_, _, b0, b1, b2, b3, b4, b5⟩ := id hT
      have hrs := hrsF w5 (hx.chgNo hT.1)
      go_wp2_with fail
      refine hrs.mono ?_
      rintro e w6 ⟨rfl, hc6⟩
      replace hT := hT.chg hc6
      replace hM2 := hM2.chgNo hc6
      clear b0 b1 b2 b3 b4 b5 hrs
      have hm3 := fun w' (h : HeldC wr w1.heap.size x A2 c2 ga oa i A' c' w6 w') => (KeptExpr_any x _ A2 c2 A' x.l.length c' S w' (hM2.chgNo h.2) (hx.chgNo h.1.1) hlenOk).mono fun e w'' ⟨he, hc⟩ => (⟨he, h.1.chg hc, h.2.trans hc⟩ : e = _ ∧ HeldC wr w1.heap.size x A2 c2 ga oa i A' c' w6 w'')
      have hH0 : HeldC wr w1.heap.size x A2 c2 ga oa i A' c' w6 w6.drew := ⟨hT.chg (Chg.refl No w6).drew, (Chg.refl No w6).drew⟩
      have mkS : ∀ w', HeldC wr w1.heap.size x A2 c2 ga oa i A' c' w6 w' → HeldC wr w1.heap.size x A2 c2 ga oa i A' c' w6 w' ∧ w'.cell? ⟨w1.heap.size, 0, none⟩ = some (.int .i64 x.k) ∧ w'.cell? ⟨w1.heap.size, 1, none⟩ = some (.int .i64 x.f) ∧ w'.cell? ⟨w1.heap.size, 2, none⟩ = some (.int .i64 x.t) ∧ w'.cell? ⟨w1.heap.size, 3, none⟩ = some (.int .i64 x.a) ∧ w'.cell? ⟨w1.heap.size, 4, none⟩ = some (.int .i64 x.b) ∧ w'.cell? ⟨w1.heap.size, 5, none⟩ = some (.slice A2 x.l.length c2) ∧
          w'.cell? ⟨ga, oa + i * 6, none⟩ = some (.int .i64 x.k) ∧ w'.cell? ⟨ga, oa + i * 6 + 1, none⟩ = some (.int .i64 x.f) ∧ w'.cell? ⟨ga, oa + i * 6 + 2, none⟩ = some (.int .i64 x.t) ∧ w'.cell? ⟨ga, oa + i * 6 + 3, none⟩ = some (.int .i64 x.a) ∧ w'.cell? ⟨ga, oa + i * 6 + 4, none⟩ = some (.int .i64 x.b) ∧ w'.cell? ⟨ga, oa + i * 6 + 5, none⟩ = some (.slice A' x.l.length c') := fun w' h => by
        obtain ⟨h0, ⟨a0, a1, a2, a3, a4, a5⟩, b0, b1, b2, b3, b4, b5⟩ := h.1
        exact ⟨h, a0, a1, a2, a3, a4, a5, b0, b1, b2, b3, b4, b5⟩
      have MKS := Lib.hid mkS
      clear mkS hrsF
      go_wp2_with fail
      go_region_held3 (fun w' => HeldC wr w1.heap.size x A2 c2 ga oa i A' c' w6 w' ∧ w'.cell? ⟨w1.heap.size, 0, none⟩ = some (.int .i64 x.k) ∧ w'.cell? ⟨w1.heap.size, 1, none⟩ = some (.int .i64 x.f) ∧ w'.cell? ⟨w1.heap.size, 2, none⟩ = some (.int .i64 x.t) ∧ w'.cell? ⟨w1.heap.size, 3, none⟩ = some (.int .i64 x.a) ∧ w'.cell? ⟨w1.heap.size, 4, none⟩ = some (.int .i64 x.b) ∧ w'.cell? ⟨w1.heap.size, 5, none⟩ = some (.slice A2 x.l.length c2) ∧
          w'.cell? ⟨ga, oa + i * 6, none⟩ = some (.int .i64 x.k) ∧ w'.cell? ⟨ga, oa + i * 6 + 1, none⟩ = some (.int .i64 x.f) ∧ w'.cell? ⟨ga, oa + i * 6 + 2, none⟩ = some (.int .i64 x.t) ∧ w'.cell? ⟨ga, oa + i * 6 + 3, none⟩ = some (.int .i64 x.a) ∧ w'.cell? ⟨ga, oa + i * 6 + 4, none⟩ = some (.int .i64 x.b) ∧ w'.cell? ⟨ga, oa + i * 6 + 5, none⟩ = some (.slice A' x.l.length c')) (exact MKS.out _ (by assumption)) (first | (go_at_call 19; refine (hm3 _ (by assumption)).mono ?_; rintro e w2 ⟨rfl, hH⟩))
      have hW := hc.trans hH.1.1
      go_wp2
      exact ⟨⟨i + 1, by omega, by go_num, hW⟩, by simp [intOf]; omega⟩
    · obtain rfl : i = l.length := by omega
      obtain ⟨h1, h2, h3⟩ := HG.out
      have hkn := known_any wr (h1.chgNo hc) (by have := hc.size; omega) (h3.chgNo hc)
      go_wp2_with fail
      refine hkn.mono ?_
      rintro e w5 ⟨rfl, hc5⟩
      go_wp2
      go_ret
      exact ⟨rfl, hc.trans hc5⟩
end Go.Proofs.YticipgjbgcdccaaDoor
namespace Go.Proofs.YticipgjbgcdccaaDoor
open Go.RowKit Go.ChangeShapes Go.WideShapes Go.ChangeAt

theorem laidOut : laidOutB Tryd.prog = true := by kernel_rfl
theorem prints_witness (os : Os) {H : Type} (enc : TypeId × Value → H) :
    (OpenSpec.ofChange Rows.exprPrintsSpec).preRow enc Tryd.prog Tryd.f4 Rows.exprPrintsRow.domain false Rows.exprPrintsRow.laid ((laidWorld os).forCall (fun _ _ => 0) ⟨#[], #[.slice none 0 0], []⟩).memory #[.slice none 0 0] := by
  have hw : (DataW.whole enc Tryd.prog ((laidWorld os).forCall (fun _ _ => 0) ⟨#[], #[.slice none 0 0], []⟩).memory Tryd.f4.params.toList (OpenSpec.ofChange Rows.exprPrintsSpec).vars false #[Value.slice none 0 0].toList 8).map (fun x => (x.1, x.2.1)) =
      some ([.nil], []) := by kernel_rfl
  obtain ⟨⟨x1, x2, x3⟩, hx, hx1⟩ := Option.map_eq_some_iff.1 hw
  simp only [Prod.mk.injEq] at hx1
  obtain ⟨rfl, rfl⟩ := hx1
  exact OpenSpec.preRow_of_cond 8 hx (by kernel_rfl) (fun k hk => by cases hk) (by kernel_rfl) (laid_met os _)

set_option maxRecDepth 100000 in
set_option maxHeartbeats 2000000 in
theorem prints_lifted (os : Os) (started : os.Started) (H : Type) (enc : TypeId × Value → H) (F : Stop.Interp) :
    ReturnsInHanded {} Tryd.checked os 4 .any ((OpenSpec.ofChange Rows.exprPrintsSpec).preRow enc Tryd.prog Tryd.f4 Rows.exprPrintsRow.domain false Rows.exprPrintsRow.laid)
      (((OpenSpec.ofChange Rows.exprPrintsSpec).at F).post enc Tryd.prog Tryd.f4 false true false false) := by
  refine returnsInHanded_of_row (C := Tryd.checked) (s := OpenSpec.ofChange Rows.exprPrintsSpec) own started (by kernel_rfl) Tryd.func4
    (witness_row_atRef (enc := enc) (C := Tryd.checked) false (laidWorld os) #[.slice none 0 0] rfl (by kernel_rfl) (by kernel_rfl) (by kernel_rfl) (prints_witness os enc)) ?_
  intro W base args ds gs before hval0 hW _ _ hsz0 hL _ _
  have hsz : (DataW.weightsEach Tryd.prog (Tryd.f4.params.toList ++ (OpenSpec.ofChange Rows.exprPrintsSpec).bare.plain.varTypes Tryd.prog) (ds ++ gs)).all (· ≤ reachBytes) = true := hsz0
  clear hsz0
  have hval : ∀ (j : Nat) t v, Tryd.f4.params[j]? = some t → args[j]? = some v → Value.okWide Tryd.prog W .any base t v := hval0
  have hW' := hW
  obtain ⟨p, q, hA0, hV0, rfl, _, _⟩ := hW
  have hA : DataW.TrodAll enc Tryd.prog W 0 (fun _ => true) true Tryd.f4.params.toList args.toList ds p := hA0
  rw [Tryd.params4] at hA hval hsz
  obtain ⟨v0, d0, rfl, rfl, h0⟩ := trodAll_one hA
  obtain ⟨rfl, rfl⟩ := trodVars_none hV0
  obtain ⟨a0, lt, ct, rfl⟩ := okWide_slice Tryd.underlying23 (hval 0 23 v0 rfl rfl)
  have h0k := h0
  obtain ⟨fuel0, hf0⟩ := h0
  clear hA0 hV0 hval0
  simp only [List.append_nil] at hW' hsz
  have hlt : ∀ x ∈ p, x.block < W.heap.size := fun x hx => by simpa using hW'.lt x hx
  obtain ⟨A, n, c, l, e, hs, hw⟩ := (open_both fuel0).1 _ _ hf0
  injection e with e _
  injection e with e1 e2 e3
  subst e1 e2 e3
  have hsz1 : (DataW.weightsEach Tryd.prog [23] [d0]).all (fun x => decide (x ≤ reachBytes)) = true := hsz
  have hok := hw fun q hq => by
    simp only [DataW.weightsEach, List.append_nil, List.all_eq_true, decide_eq_true_eq] at hsz1
    exact hsz1 q hq
  obtain ⟨t1, t2, t3⟩ := tabs_of_laid hL
  refine (ExprPrints_any l a0 lt ct _ W hs hok.2 t1 t2 t3).mono ?_
  rintro e W' ⟨rfl, hc⟩
  have bel := hc.below
  have e1 : ((OpenSpec.ofChange Rows.exprPrintsSpec).at F).fn H ([d0] ++ []) = { results := [.lit (.bool true)], args := [d0] } := rfl
  refine ⟨_, rfl, _, _, _, [], p, [], hW', ?_, ?_, ?_, bel.frame _, fun h => by cases h⟩
  · rw [e1]; exact trodAll_mk1 (shut_bool Tryd.underlying4 true)
  · rw [e1]; exact trodAll_mk1 (Below.trod laidOut (by kernel_rfl) (of_decide_eq_true (by kernel_rfl)) h0k bel (fun x hx => hlt x hx))
  · rw [e1]; rfl

theorem prints_said : Rows.ExprPrintsSaid :=
  OpenClaim.holds_of_cond 4 Tryd.f4 rfl rfl rfl rfl rfl rfl rfl ⟨rfl, rfl, rfl, rfl, rfl⟩ rfl rfl rfl rfl rfl (by kernel_rfl) Tryd.func4 (by kernel_rfl)
    (of_decide_eq_true (by kernel_rfl)) (by unfold Func.isWrapper; rw [if_neg (of_decide_eq_false (by kernel_rfl))]; exact ⟨rfl, rfl⟩)
    (fun os started H enc _ F0 => by rw [OpenClaim.pre_eq_preRow]; exact prints_lifted os started H enc F0)

theorem exprPrints_holds : Rows.ExprPrintsCardSaid :=
  Claim7.holds_tied_plain_at .later [] [.data, .data, .data] true (true, "ff01ccba15d25dd0e238923213c7e16af5c8880d8084b1916b336e3c37e050fc") true
    prints_said (fun _ h => by cases h) (by kernel_rfl) (fun _ h => by cases h) exprPrints_row_tie rfl ⟨rfl, rfl⟩ (by kernel_rfl) rfl
    (fun f fn hf hfn => by
      obtain rfl : f = 4 := Option.some.inj ((show Tryd.prog.funcNamed "graft/graftlaw2.ExprPrints" = some 4 by kernel_rfl).symm.trans hf) |>.symm
      obtain rfl : fn = Tryd.f4 := (Option.some.inj (Tryd.func4.symm.trans hfn)).symm
      exact ⟨by kernel_rfl, fun j t ht => by
        rw [Tryd.params4] at ht
        have h3 : t = 23 := by
          rcases j with _ | j
          · simpa using ht.symm
          · simp at ht
        subst h3
        exact (show Tryd.prog.wantsStandIn 23 = false by kernel_rfl)⟩)
    (by kernel_rfl)
#print axioms exprPrints_holds
end Go.Proofs.YticipgjbgcdccaaDoor
