/- Package expr: printing: escaped, member, class, ranged, members, often.
   Package expr: printing: member, members, ranged.
   strconv.Itoa at this program, laid by the kit's own tool in plain words.
   Package expr: often: how often a repeat is, as text.
   Package expr: under, printed, Print: what they compute in plain Lean.
   A text of bytes that a call itself makes. No condition: lemmas.
   Package expr: under, printed: contracts.
   Package expr: printed, Print: contracts.
   Package expr: printed: contract.
   Package expr: Print, Positions, Empty, asked: contracts. -/
import Derived.Test.YticipgjbgcdccaaDoorZ3
import Derived.Test.YticipgjbgcdccaaDoorZ1
import Derived.Laws.IdiomStrings
import Derived.Shelf.LaysM
import Derived.Shelf.Strconv.Itoa3
import Derived.Test.YticipgjbgcdccaaDoorProg
import Derived.Lib.AppendStr
import Derived.Deep.RegionLaw
set_option linter.unusedSimpArgs false
set_option linter.unusedVariables false
namespace Go.Proofs.YticipgjbgcdccaaDoor
open Go.RowKit

/-- one byte as text -/
def b1 (c : Nat) : ByteArray := ⟨#[UInt8.ofNat c]⟩
def b2 (c d : Nat) : ByteArray := ⟨#[UInt8.ofNat c, UInt8.ofNat d]⟩
/-- a hex digit as a byte -/
def hexd (n : Nat) : Nat := if n < 10 then 48 + n else 87 + n
def escapedP (c : Nat) : ByteArray :=
  if c = 10 then ⟨#[92, 110]⟩ else if c = 13 then ⟨#[92, 114]⟩ else if c = 9 then ⟨#[92, 116]⟩
  else if 32 < c ∧ c ≤ 126 then ⟨#[92]⟩ ++ b1 c
  else ⟨#[92, 120]⟩ ++ b2 (hexd (c / 16)) (hexd (c % 16))

set_option maxRecDepth 100000 in
theorem conv_b1 (c : Nat) (w : World) (hc : c < 256) :
    (convert 41 9 (.slice (some ⟨w.heap.size, 0, none⟩) 1 1)).run Tryd.prog (w.alloc (.cells #[.int .u8 (c : Int)] 5)) = .ok (.string (b1 c)) (w.alloc (.cells #[.int .u8 (c : Int)] 5)) := by
  refine run_convert_bytes_back (P := Tryd.prog) _ 41 9 5 ⟨w.heap.size, 0, none⟩ 1 [UInt8.ofNat c] rfl rfl rfl ?_
  intro j hj
  simp at hj
  subst hj
  simp [Addr.add]
  omega

set_option maxRecDepth 100000 in
theorem conv_b2 (c d : Nat) (w : World) (hc : c < 256) (hd : d < 256) :
    (convert 41 9 (.slice (some ⟨w.heap.size, 0, none⟩) 2 2)).run Tryd.prog (w.alloc (.cells #[.int .u8 (c : Int), .int .u8 (d : Int)] 5)).drew = .ok (.string (b2 c d)) (w.alloc (.cells #[.int .u8 (c : Int), .int .u8 (d : Int)] 5)).drew := by
  refine run_convert_bytes_back (P := Tryd.prog) _ 41 9 5 ⟨w.heap.size, 0, none⟩ 2 [UInt8.ofNat c, UInt8.ofNat d] rfl rfl rfl ?_
  intro j hj
  simp at hj
  obtain rfl | rfl : j = 0 ∨ j = 1 := by omega
  · simp [Addr.add]
    omega
  · simp [Addr.add]
    omega

def hexS : ByteArray := ⟨#[48, 49, 50, 51, 52, 53, 54, 55, 56, 57, 97, 98, 99, 100, 101, 102]⟩
theorem hexd_at : ∀ (m : Nat) (h : m < 16), (hexS.data[m]'h).toNat = hexd m := by decide
set_option maxRecDepth 100000 in
theorem hex_index (m : Nat) (hm : m < 16) (w : World) : (Instr.index 9 (.string hexS) (.int .u8 (m : Int))).run Tryd.prog w = .ok (.int .u8 (hexd m : Int)) w := by
  rw [run_index_string (h := rfl), dif_pos (by have : hexS.size = 16 := rfl; omega)]
  refine congrArg (fun z : Nat => Result.ok (Value.int .u8 (z : Int)) w) ?_
  rw [← hexd_at m hm]
  rfl
theorem hexd_lt (m : Nat) (hm : m < 16) : hexd m < 256 := by unfold hexd; split <;> omega

set_option maxHeartbeats 2000000 in
set_option maxRecDepth 100000 in
theorem escaped_any (c : Nat) (w : World) (hc : c < 256) :
    Calls Tryd.prog 112 #[.int .u8 (c : Int)] w fun e w' => e = .returned (.string (escapedP c)) ∧ Chg No w w' := by
  obtain ⟨k0, h0⟩ : ∃ b : Bool, ((c : Int) == 10) = b := ⟨_, rfl⟩
  obtain ⟨k1, h1⟩ : ∃ b : Bool, ((c : Int) == 13) = b := ⟨_, rfl⟩
  obtain ⟨k2, h2⟩ : ∃ b : Bool, ((c : Int) == 9) = b := ⟨_, rfl⟩
  go_enter Tryd.func112, Tryd.ntmps112
  cases k0 with
  | true =>
    go_wp2
    go_ret
    refine ⟨?_, Chg.refl _ _⟩
    unfold escapedP
    rw [if_pos (by simp at h0; omega)]; rfl
  | false =>
  cases k1 with
  | true =>
    go_wp2
    go_ret
    refine ⟨?_, Chg.refl _ _⟩
    unfold escapedP
    rw [if_neg (by simp at h0; omega), if_pos (by simp at h1; omega)]; rfl
  | false =>
  cases k2 with
  | true =>
    go_wp2
    go_ret
    refine ⟨?_, Chg.refl _ _⟩
    unfold escapedP
    rw [if_neg (by simp at h0; omega), if_neg (by simp at h1; omega), if_pos (by simp at h2; omega)]; rfl
  | false =>
  by_cases q : 32 < c ∧ c ≤ 126
  · obtain ⟨q1, q2⟩ := q
    have kc := conv_b1 c w hc
    go_wp2
    go_ret
    refine ⟨?_, (Chg.refl _ _).alloc _⟩
    unfold escapedP
    rw [if_neg (by simp at h0; omega), if_neg (by simp at h1; omega), if_neg (by simp at h2; omega), if_pos ⟨q1, q2⟩]; rfl
  · have q3 : c ≤ 32 ∨ 126 < c := by omega
    have hfin : escapedP c = ⟨#[92, 120]⟩ ++ b2 (hexd (c / 16)) (hexd (c % 16)) := by
      unfold escapedP
      rw [if_neg (by simp at h0; omega), if_neg (by simp at h1; omega), if_neg (by simp at h2; omega), if_neg q]
    have HF := Lib.hid hfin
    clear hfin q
    rcases q3 with q3 | q3
    all_goals
      have i0 := fun w : World => hex_index (c / 16) (by omega) w
      have i1 := fun w : World => hex_index (c % 16) (by omega) w
      rw [show ((c / 16 : Nat) : Int) = (c : Int) / 16 by omega] at i0
      rw [show ((c % 16 : Nat) : Int) = (c : Int) % 16 by omega] at i1
      simp only [hexS] at i0 i1
      have j0 := hexd_lt (c / 16) (by omega)
      have j1 := hexd_lt (c % 16) (by omega)
      have kc := conv_b2 (hexd (c / 16)) (hexd (c % 16)) w j0 j1
      obtain ⟨d0, e0⟩ : ∃ d, hexd (c / 16) = d := ⟨_, rfl⟩
      obtain ⟨d1, e1⟩ : ∃ d, hexd (c % 16) = d := ⟨_, rfl⟩
      rw [e0] at i0 kc
      rw [e1] at i1 kc
      rw [e0, e1] at HF
      clear e0 e1 j0 j1
      have ks : (b2 d0 d1).size = 2 := rfl
      go_wp2
      go_region
      all_goals
        go_wp2
        go_ret
        exact ⟨by rw [HF.out]; rfl, ((Chg.refl _ _).alloc _).drew⟩

/-- are all of them single ranges -/
def classesP (l : List Ex) : Bool := l.all fun x => decide (x.k = 1)

set_option maxHeartbeats 2000000 in
set_option maxRecDepth 100000 in
theorem classes_any (k f t a b : Int) (A : Option Addr) (n c : Nat) (l : List Ex) (S : Nat → Prop) (w : World) (hl : Sl w S A n c l) :
    Calls Tryd.prog 81 #[.agg #[.int .i64 k, .int .i64 f, .int .i64 t, .int .i64 a, .int .i64 b, .slice A n c]] w
      fun e w' => e = .returned (.bool (classesP l)) ∧ Chg No w w' := by
  obtain ⟨rfl, hc1, hc2⟩ : n = l.length ∧ l.length ≤ c ∧ c ≤ 9223372036854775807 := ⟨hl.1, by have := hl.2.1; have := hl.1; omega, hl.2.2.1⟩
  have HL := Lib.hid hl; clear hl
  go_enter Tryd.func81, Tryd.ntmps81
  go_wp2_with fail
  go_loopw [8] (fun v8 wr => ∃ i : Nat, i ≤ l.length ∧ v8 = .int .i64 (i : Int) ∧ (l.take i).all (fun x => decide (x.k = 1)) = true ∧ Chg No w wr) (fun v _ => l.length - (intOf v).toNat)
  case atStart => exact ⟨0, Nat.zero_le _, rfl, by simp, (Chg.refl No w).alloc _⟩
  case round =>
    obtain ⟨i, hi, rfl, hall, hc⟩ := hrel
    have HA := Lib.hid hall; clear hall
    by_cases hlt : i < l.length
    · obtain ⟨g, o, A', c', rfl, hS, x0, x1, x2, x3, x4, x5, hx⟩ := (HL.out.chgNo hc).at_ i hlt
      by_cases hk : l[i].k = 1
      · have hR : (l.take (i + 1)).all (fun x => decide (x.k = 1)) = true := by rw [take_all _ _ _ hlt, HA.out, hk]; rfl
        have HR := Lib.hid hR; clear hR
        rw [hk] at x0
        clear hk
        go_wp2
        exact ⟨⟨i + 1, by omega, by go_num, HR.out, hc.alloc _⟩, by simp [intOf]; omega⟩
      · have hF : classesP l = false := by
          unfold classesP
          rw [List.all_eq_false]
          exact ⟨l[i], List.getElem_mem hlt, by simpa using hk⟩
        have e1 : (l[i].k != 1) = true := by simpa using hk
        have HF := Lib.hid hF; clear hF hk
        go_wp2
        go_ret
        exact ⟨by rw [HF.out]; rfl, hc.alloc _⟩
    · obtain rfl : i = l.length := by omega
      have hF : classesP l = true := by have := HA.out; rw [List.take_length] at this; exact this
      have HF := Lib.hid hF; clear hF
      go_wp2
      go_ret
      exact ⟨by rw [HF.out]; rfl, hc⟩

end Go.Proofs.YticipgjbgcdccaaDoor
namespace Go.Proofs.YticipgjbgcdccaaDoor
open Go.RowKit

/-- one member of a class, as text -/
def memberP (c : Nat) : ByteArray := if (printableP c && (c != 94) && !hasP classSignsP c) = true then b1 c else escapedP c
theorem escapedP_size (c : Nat) : (escapedP c).size ≤ 4 ∧ 1 ≤ (escapedP c).size := by
  unfold escapedP
  (repeat' split) <;> simp [ByteArray.size_append, b1, b2, ByteArray.size]
theorem memberP_size (c : Nat) : (memberP c).size ≤ 4 ∧ 1 ≤ (memberP c).size := by
  unfold memberP
  split
  · simp [b1, ByteArray.size]
  · exact escapedP_size c

set_option maxHeartbeats 400000 in
set_option maxRecDepth 100000 in
theorem member_any (c : Nat) (w : World) (hc : c < 256) :
    Calls Tryd.prog 114 #[.int .u8 (c : Int)] w fun e w' => e = .returned (.string (memberP c)) ∧ Chg No w w' := by
  have hfin : memberP c = if (printableP c && (c != 94) && !hasP classSignsP c) = true then b1 c else escapedP c := rfl
  obtain ⟨k1, h1⟩ : ∃ b : Bool, ((c : Int) != 94) = b := ⟨_, rfl⟩
  have h1' : (c != 94) = k1 := by rw [← h1, Bool.eq_iff_iff]; simp; omega
  have hp := printable_any c w
  have hs := has_classSigns c w
  have he := escaped_any c w hc
  have kc := conv_b1 c w hc
  rw [h1'] at hfin
  obtain ⟨k0, h0⟩ : ∃ b : Bool, printableP c = b := ⟨_, rfl⟩
  obtain ⟨k2, h2⟩ : ∃ b : Bool, hasP classSignsP c = b := ⟨_, rfl⟩
  rw [h0] at hp hfin
  rw [h2] at hs hfin
  obtain ⟨E, hE⟩ : ∃ E, escapedP c = E := ⟨_, rfl⟩
  rw [hE] at he hfin
  have HF := Lib.hid hfin
  clear hfin h0 h2 hE h1'
  go_enter Tryd.func114, Tryd.ntmps114
  cases k0 <;> cases k1 <;> cases k2
  all_goals
    go_wp2_with (first | (go_at_call 136; refine hp.mono ?_; rintro e w1 ⟨rfl, rfl⟩) | (go_at_call 137; refine hs.mono ?_; rintro e w1 ⟨rfl, rfl⟩) | (go_at_call 112; refine he.mono ?_; rintro e w1 ⟨rfl, hc1⟩))
    go_ret
    refine ⟨by rw [HF.out]; rfl, ?_⟩
    first | exact (Chg.refl _ _).alloc _ | exact hc1

/-- one range behind the text r -/
def rangeP (r : ByteArray) (x : Ex) : ByteArray := if x.f < x.t then (r ++ memberP x.f.toNat) ++ (⟨#[45]⟩ ++ memberP x.t.toNat) else r ++ memberP x.f.toNat
def membersP (l : List Ex) : ByteArray := ⟨#[91]⟩ ++ l.foldl rangeP ⟨#[]⟩ ++ ⟨#[93]⟩
def rangeOk (x : Ex) : Prop := 0 ≤ x.f ∧ x.f ≤ x.t ∧ x.t ≤ 255
theorem rangeP_size (r : ByteArray) (x : Ex) : (rangeP r x).size ≤ r.size + 9 := by
  have h1 := memberP_size x.f.toNat
  have h2 := memberP_size x.t.toNat
  unfold rangeP
  split
  · simp only [ByteArray.size_append, show (⟨#[45]⟩ : ByteArray).size = 1 from rfl]; omega
  · simp only [ByteArray.size_append]; omega
theorem foldl_range_size (l : List Ex) (r : ByteArray) : (l.foldl rangeP r).size ≤ r.size + 9 * l.length := by
  induction l generalizing r with
  | nil => simp
  | cons x l ih =>
    have := ih (rangeP r x)
    have := rangeP_size r x
    simp only [List.foldl_cons, List.length_cons]; omega

set_option maxHeartbeats 400000 in
set_option maxRecDepth 100000 in
theorem members_any (A : Option Addr) (n c : Nat) (l : List Ex) (S : Nat → Prop) (w : World) (hl : Sl w S A n c l) (hx : ∀ x ∈ l, rangeOk x) (hn : l.length ≤ 4096) :
    Calls Tryd.prog 82 #[.slice A n c] w fun e w' => e = .returned (.string (membersP l)) ∧ Chg No w w' := by
  obtain ⟨rfl, hc1, hc2⟩ : n = l.length ∧ l.length ≤ c ∧ c ≤ 9223372036854775807 := ⟨hl.1, by have := hl.2.1; have := hl.1; omega, hl.2.2.1⟩
  have HL := Lib.hid hl; clear hl
  have HX := Lib.hid hx; clear hx
  go_enter Tryd.func82, Tryd.ntmps82
  go_wp2_with fail
  go_loopw [3, 8] (fun v3 v8 wr => ∃ i : Nat, i ≤ l.length ∧ v8 = .int .i64 (i : Int) ∧ IsV v3 (.string ((l.take i).foldl rangeP ⟨#[]⟩)) ∧ Chg No w wr) (fun _ v _ => l.length - (intOf v).toNat)
  case atStart => exact ⟨0, Nat.zero_le _, rfl, by simp [IsV], Chg.refl No w⟩
  case round =>
    obtain ⟨i, hi, rfl, h3, hc⟩ := hrel
    have hsz := foldl_range_size (l.take i) ⟨#[]⟩
    have htl : (l.take i).length ≤ 4096 := by simp; omega
    rw [show (⟨#[]⟩ : ByteArray).size = 0 from rfl] at hsz
    by_cases hlt : i < l.length
    · obtain ⟨g, o, A', c', rfl, hS, x0, x1, x2, x3, x4, x5, hx⟩ := (HL.out.chgNo hc).at_ i hlt
      obtain ⟨o1, o2, o3⟩ := HX.out _ (List.getElem_mem hlt)
      have hst : (l.take (i + 1)).foldl rangeP ⟨#[]⟩ = rangeP ((l.take i).foldl rangeP ⟨#[]⟩) l[i] := by
        rw [← List.take_append_getElem hlt, List.foldl_append]; rfl
      obtain ⟨T, hT⟩ : ∃ T, (l.take i).foldl rangeP ⟨#[]⟩ = T := ⟨_, rfl⟩
      rw [hT] at h3 hst hsz
      unfold IsV at h3; subst h3
      obtain ⟨f, hf⟩ : ∃ f : Nat, l[i].f = (f : Int) := ⟨l[i].f.toNat, by omega⟩
      obtain ⟨t, ht⟩ : ∃ t : Nat, l[i].t = (t : Int) := ⟨l[i].t.toNat, by omega⟩
      rw [show rangeP T l[i] = if l[i].f < l[i].t then (T ++ memberP l[i].f.toNat) ++ (⟨#[45]⟩ ++ memberP l[i].t.toNat) else T ++ memberP l[i].f.toNat from rfl] at hst
      rw [hf, ht] at hst
      simp only [Int.toNat_natCast] at hst
      rw [hf] at x1 o1 o2
      rw [ht] at x2 o2 o3
      have m1 := memberP_size f
      have m2 := memberP_size t
      have a1 := fun w1 => member_any f w1 (by omega)
      have a2 := fun w1 => member_any t w1 (by omega)
      obtain ⟨F, hF⟩ : ∃ F, memberP f = F := ⟨_, rfl⟩
      obtain ⟨G, hG⟩ : ∃ G, memberP t = G := ⟨_, rfl⟩
      rw [hF] at m1 a1 hst
      rw [hG] at m2 a2 hst
      have HST := Lib.hid hst
      clear hst hF hG hT
      have hb := Blk.new wr 25 #[.int .i64 l[i].k, .int .i64 (f : Int), .int .i64 (t : Int), .int .i64 l[i].a, .int .i64 l[i].b, .slice A' l[i].l.length c']
      have hmf : (f : Int) % 256 = f := by omega
      have hmt : (t : Int) % 256 = t := by omega
      have s45 : (⟨#[45]⟩ : ByteArray).size = 1 := rfl
      by_cases q : f < t
      · have q2 : (f : Int) < (t : Int) := by omega
        have HS : Hid ((l.take (i + 1)).foldl rangeP ⟨#[]⟩ = (T ++ F) ++ (⟨#[45]⟩ ++ G)) := Lib.hid (by rw [HST.out, if_pos q2])
        clear HST
        go_wp2_with fail
        refine (a1 _).mono ?_
        rintro e w1 ⟨rfl, hc1⟩
        have hb1 := hb.chg hc1 id
        have y1 := hb1.cell 1
        have y2 := hb1.cell 2
        simp only [List.getElem?_toArray, List.getElem?_cons_zero, List.getElem?_cons_succ] at y1 y2
        clear hx x0 x1 x2 x3 x4 x5 hb hb1 hS o1 o2 o3
        go_wp2_with fail
        refine (a2 _).mono ?_
        rintro e w2 ⟨rfl, hc2x⟩
        have hC := ((hc.alloc (.cells #[.int .i64 l[i].k, .int .i64 (f : Int), .int .i64 (t : Int), .int .i64 l[i].a, .int .i64 l[i].b, .slice A' l[i].l.length c'] 25)).trans hc1).trans hc2x
        clear a1 a2 hc1 hc2x
        go_wp2
        refine ⟨⟨i + 1, by omega, by go_num, ?_, hC⟩, by simp [intOf]; omega⟩
        rw [HS.out]
        unfold IsV
        with_reducible rfl
      · have q2 : ¬ (f : Int) < (t : Int) := by omega
        have HS : Hid ((l.take (i + 1)).foldl rangeP ⟨#[]⟩ = T ++ F) := Lib.hid (by rw [HST.out, if_neg q2])
        clear HST
        go_wp2_with fail
        refine (a1 _).mono ?_
        rintro e w1 ⟨rfl, hc1⟩
        have hb1 := hb.chg hc1 id
        have y1 := hb1.cell 1
        have y2 := hb1.cell 2
        simp only [List.getElem?_toArray, List.getElem?_cons_zero, List.getElem?_cons_succ] at y1 y2
        clear hx x0 x1 x2 x3 x4 x5 hb hb1 hS o1 o2 o3
        go_wp2
        refine ⟨⟨i + 1, by omega, by go_num, ?_, (hc.alloc _).trans hc1⟩, by simp [intOf]; omega⟩
        rw [HS.out]
        unfold IsV
        with_reducible rfl
    · obtain rfl : i = l.length := by omega
      rw [List.take_length] at h3 hsz
      have hF : membersP l = ⟨#[91]⟩ ++ l.foldl rangeP ⟨#[]⟩ ++ ⟨#[93]⟩ := rfl
      obtain ⟨T, hT⟩ : ∃ T, l.foldl rangeP ⟨#[]⟩ = T := ⟨_, rfl⟩
      rw [hT] at h3 hF hsz
      unfold IsV at h3; subst h3
      have HF := Lib.hid hF
      clear hF hT
      have s91 : (⟨#[91]⟩ : ByteArray).size = 1 := rfl
      have s93 : (⟨#[93]⟩ : ByteArray).size = 1 := rfl
      go_wp2
      go_ret
      refine ⟨?_, hc⟩
      rw [HF.out]
      rfl

/-- a single range, as text -/
def rangedP (x : Ex) : ByteArray :=
  if (decide (x.f = x.t) && plainP x.f.toNat) = true then b1 x.f.toNat
  else if x.f = x.t then escapedP x.f.toNat
  else if x.f = 0 ∧ x.t = 255 then ⟨#[46]⟩
  else membersP [x]

set_option maxHeartbeats 2000000 in
set_option maxRecDepth 100000 in
theorem ranged_any (k f t a b : Int) (A : Option Addr) (n c : Nat) (l : List Ex) (S : Nat → Prop) (w : World) (hl : Sl w S A n c l) (hx : rangeOk (.mk k f t a b l)) :
    Calls Tryd.prog 78 #[.agg #[.int .i64 k, .int .i64 f, .int .i64 t, .int .i64 a, .int .i64 b, .slice A n c]] w
      fun e w' => e = .returned (.string (rangedP (.mk k f t a b l))) ∧ Chg No w w' := by
  have hx0 := hx
  obtain ⟨o1, o2, o3⟩ := hx
  simp only [Ex.f, Ex.t] at o1 o2 o3
  obtain ⟨f, rfl⟩ : ∃ g : Nat, f = (g : Int) := ⟨f.toNat, by omega⟩
  obtain ⟨t, rfl⟩ : ∃ g : Nat, t = (g : Int) := ⟨t.toNat, by omega⟩
  have hfin : rangedP (.mk k f t a b l) = if (decide ((f : Int) = t) && plainP f) = true then b1 f else if (f : Int) = t then escapedP f else if (f : Int) = 0 ∧ (t : Int) = 255 then ⟨#[46]⟩ else membersP [.mk k f t a b l] := by
    unfold rangedP; simp only [Ex.f, Ex.t, Int.toNat_natCast]; rfl
  have hb := Blk.new w 25 #[.int .i64 k, .int .i64 (f : Int), .int .i64 (t : Int), .int .i64 a, .int .i64 b, .slice A n c]
  have hmf : (f : Int) % 256 = f := by omega
  have hmt : (t : Int) % 256 = t := by omega
  have hp := fun w1 => plain_any f w1
  have he := fun w1 => escaped_any f w1 (by omega)
  go_enter Tryd.func78, Tryd.ntmps78
  by_cases q : (f : Int) = t
  · have q' : f = t := by omega
    subst q'
    rw [decide_eq_true rfl, Bool.true_and, if_pos (rfl : (f : Int) = f)] at hfin
    cases hpl : plainP f with
    | true =>
      rw [hpl] at hp hfin
      rw [if_pos rfl] at hfin
      have kc := conv_b1 f (w.alloc (.cells #[.int .i64 k, .int .i64 (f : Int), .int .i64 (f : Int), .int .i64 a, .int .i64 b, .slice A n c] 25)) (by omega)
      have HF := Lib.hid hfin
      clear hfin hpl
      simp only [World.size_alloc] at kc
      go_wp2_with (go_at_call 111; refine (hp _).mono ?_; rintro e w1 ⟨rfl, rfl⟩)
      go_ret
      exact ⟨by rw [HF.out]; rfl, ((Chg.refl _ _).alloc _).alloc _⟩
    | false =>
      rw [hpl] at hp hfin
      rw [if_neg (by simp)] at hfin
      have HF := Lib.hid hfin
      clear hfin hpl
      go_wp2_with (first | (go_at_call 111; refine (hp _).mono ?_; rintro e w1 ⟨rfl, rfl⟩) | (go_at_call 112; refine (he _).mono ?_; rintro e w1 ⟨rfl, hc1⟩))
      go_ret
      exact ⟨by rw [HF.out]; rfl, ((Chg.refl _ _).alloc _).trans hc1⟩
  · rw [decide_eq_false q, Bool.false_and, if_neg (by simp), if_neg q] at hfin
    have e1 : ((f : Int) == t) = false := by simpa using q
    by_cases q2 : (f : Int) = 0 ∧ (t : Int) = 255
    · rw [if_pos q2] at hfin
      have HF := Lib.hid hfin
      obtain rfl : f = 0 := by omega
      obtain rfl : t = 255 := by omega
      clear hfin q e1 q2
      go_wp2
      go_ret
      exact ⟨by rw [HF.out]; rfl, (Chg.refl _ _).alloc _⟩
    · rw [if_neg q2] at hfin
      have HF := Lib.hid hfin
      have y0 := hb.cell 0
      have y1 := hb.cell 1
      have y2 := hb.cell 2
      have y3 := hb.cell 3
      have y4 := hb.cell 4
      have y5 := hb.cell 5
      simp only [List.getElem?_toArray, List.getElem?_cons_zero, List.getElem?_cons_succ] at y0 y1 y2 y3 y4 y5
      have hs := Sl.one (y := .mk k f t a b l) ((hl.alloc (.cells #[.int .i64 k, .int .i64 (f : Int), .int .i64 (t : Int), .int .i64 a, .int .i64 b, .slice A n c] 25)).mono (S' := fun _ => True) fun _ _ => trivial) trivial
      simp only [Ex.k, Ex.f, Ex.t, Ex.a, Ex.b, World.size_alloc] at hs
      have hm := members_any _ _ _ _ _ _ hs (by intro x hx; simp at hx; subst hx; exact hx0) (by simp)
      clear hfin q hs
      by_cases q3 : (f : Int) = 0
      · have e2 : ((t : Int) == 255) = false := by simp; omega
        have e3 : ((f : Int) == 0) = true := by simpa using q3
        clear q2 q3
        go_wp2_with fail
        refine hm.mono ?_
        rintro e w1 ⟨rfl, hc1⟩
        go_wp2
        go_ret
        exact ⟨by rw [HF.out]; rfl, (((Chg.refl _ _).alloc _).alloc _).trans hc1⟩
      · have e3 : ((f : Int) == 0) = false := by simpa using q3
        clear q2 q3
        go_wp2_with fail
        refine hm.mono ?_
        rintro e w1 ⟨rfl, hc1⟩
        go_wp2
        go_ret
        exact ⟨by rw [HF.out]; rfl, (((Chg.refl _ _).alloc _).alloc _).trans hc1⟩
end Go.Proofs.YticipgjbgcdccaaDoor
namespace Go.Proofs
open Go.Shelf
def Tryd.laysM171_ren : Go.Shelf.Ren := ⟨fun | 171 => 113 | 243 => 138 | 246 => 150 | 283 => 151 | 284 => 152 | 285 => 153 | 286 => 154 | 129 => 156 | 317 => 155 | 318 => 157 | 319 => 158 | 320 => 159 | 337 => 160 | 338 => 122 | n => n, fun | 3 => 3 | 9 => 9 | 2 => 2 | 4 => 4 | 171 => 157 | 0 => 0 | 53 => 133 | 37 => 41 | 5 => 5 | 173 => 159 | 212 => 162 | 51 => 147 | 20 => 20 | 213 => 163 | 46 => 137 | 232 => 166 | 233 => 146 | n => n, fun | 17 => 2 | 18 => 3 | 19 => 0 | n => n⟩
theorem Tryd.laysM171 : Go.Proofs.LaysM.n171 Tryd.prog Tryd.laysM171_ren := {
  mixed := by kernel_rfl
  f129 := Tryd.func156.trans (congrArg some (by kernel_rfl))
  f171 := Tryd.func113.trans (congrArg some (by kernel_rfl))
  f243 := Tryd.func138.trans (congrArg some (by kernel_rfl))
  f246 := Tryd.func150.trans (congrArg some (by kernel_rfl))
  f283 := Tryd.func151.trans (congrArg some (by kernel_rfl))
  f284 := Tryd.func152.trans (congrArg some (by kernel_rfl))
  f285 := Tryd.func153.trans (congrArg some (by kernel_rfl))
  f286 := Tryd.func154.trans (congrArg some (by kernel_rfl))
  f317 := Tryd.func155.trans (congrArg some (by kernel_rfl))
  f318 := Tryd.func157.trans (congrArg some (by kernel_rfl))
  f319 := Tryd.func158.trans (congrArg some (by kernel_rfl))
  f320 := Tryd.func159.trans (congrArg some (by kernel_rfl))
  f337 := Tryd.func160.trans (congrArg some (by kernel_rfl))
  f338 := Tryd.func122.trans (congrArg some (by kernel_rfl))
  t0 := Tryd.underlying0
  a0 := Tryd.isAgg0
  z0 := Tryd.sizeOf0
  v0 := Tryd.zeroValue0
  t2 := Tryd.underlying2
  a2 := Tryd.isAgg2
  z2 := Tryd.sizeOf2
  v2 := Tryd.zeroValue2
  t3 := Tryd.underlying3
  a3 := Tryd.isAgg3
  z3 := Tryd.sizeOf3
  v3 := Tryd.zeroValue3
  t4 := Tryd.underlying4
  a4 := Tryd.isAgg4
  z4 := Tryd.sizeOf4
  v4 := Tryd.zeroValue4
  t5 := Tryd.underlying5
  a5 := Tryd.isAgg5
  z5 := Tryd.sizeOf5
  v5 := Tryd.zeroValue5
  t9 := Tryd.underlying9
  a9 := Tryd.isAgg9
  z9 := Tryd.sizeOf9
  v9 := Tryd.zeroValue9
  t20 := Tryd.underlying20
  a20 := Tryd.isAgg20
  z20 := Tryd.sizeOf20
  v20 := Tryd.zeroValue20
  t37 := Tryd.underlying41
  a37 := Tryd.isAgg41
  z37 := Tryd.sizeOf41
  v37 := Tryd.zeroValue41
  t46 := Tryd.underlying137
  a46 := Tryd.isAgg137
  z46 := Tryd.sizeOf137
  v46 := Tryd.zeroValue137
  t51 := Tryd.underlying147
  a51 := Tryd.isAgg147
  z51 := Tryd.sizeOf147
  v51 := Tryd.zeroValue147
  t53 := Tryd.underlying133
  a53 := Tryd.isAgg133
  z53 := Tryd.sizeOf133
  v53 := Tryd.zeroValue133
  t171 := Tryd.underlying157
  a171 := Tryd.isAgg157
  z171 := Tryd.sizeOf157
  v171 := Tryd.zeroValue157
  t173 := Tryd.underlying159
  a173 := Tryd.isAgg159
  z173 := Tryd.sizeOf159
  v173 := Tryd.zeroValue159
  t212 := Tryd.underlying162
  a212 := Tryd.isAgg162
  z212 := Tryd.sizeOf162
  v212 := Tryd.zeroValue162
  t213 := Tryd.underlying163
  a213 := Tryd.isAgg163
  z213 := Tryd.sizeOf163
  t232 := Tryd.underlying166
  a232 := Tryd.isAgg166
  z232 := Tryd.sizeOf166
  v232 := Tryd.zeroValue166
  t233 := Tryd.underlying146
  a233 := Tryd.isAgg146
  z233 := Tryd.sizeOf146
  v233 := Tryd.zeroValue146
  g17 := by kernel_rfl
  g18 := by kernel_rfl
  g19 := by kernel_rfl
  i0 := by kernel_rfl
  i2 := by kernel_rfl
  i3 := by kernel_rfl
  i4 := by kernel_rfl
  i5 := by kernel_rfl
  i9 := by kernel_rfl
  i20 := by kernel_rfl
  i37 := by kernel_rfl
  i46 := by kernel_rfl
  i51 := by kernel_rfl
  i53 := by kernel_rfl
  i171 := by kernel_rfl
  i173 := by kernel_rfl
  i212 := by kernel_rfl
  i232 := by kernel_rfl
  i233 := by kernel_rfl
  m17 := by kernel_rfl
  m18 := by kernel_rfl
  m19 := by kernel_rfl }
open Go.RowKit Go.Sort Go.Lib in
/-- strconv.Itoa: "Itoa is equivalent to FormatInt(int64(i), 10).": i's DECIMAL NUMERAL ('Lib.itoa': a '-' where i is negative, then the digits), FOR EVERY int. The world behind the call: the world before it, new blocks behind the heap (the library's 'var a [24]byte'), draws. (LAID: no walk: one application.) -/
theorem Tryd.strconv_Itoa (n : Int) (h0 : -9223372036854775808 ≤ n) (h1 : n ≤ 9223372036854775807) (w : World) (htab : Lib.TabIs Tryd.prog w "internal/strconv.uint64pow10" .u64 Lib.pow10Tab) :
    Calls Tryd.prog 113 #[.int .i64 n] w fun e w' => e = .returned (.string ⟨(Lib.itoa n).toArray⟩) ∧ ∃ k os, w' = grow (w.drewN k) os := Any.strconv_Itoa Tryd.laysM171 n h0 h1 w htab
end Go.Proofs
namespace Go.Proofs.YticipgjbgcdccaaDoor
open Go.RowKit

/-- the library's table of powers -/
def Tab (w : World) : Prop := Lib.TabIs Tryd.prog w "internal/strconv.uint64pow10" .u64 Lib.pow10Tab
def itoaB (n : Int) : ByteArray := ⟨(Lib.itoa n).toArray⟩
theorem itoa_len : ∀ n : Fin 1001, (Lib.itoa (n.val : Int)).length ≤ 4 := by decide +kernel
theorem itoaB_size (n : Int) (h0 : 0 ≤ n) (h1 : n ≤ 1000) : (itoaB n).size ≤ 4 := by
  have := itoa_len ⟨n.toNat, by omega⟩
  rw [show (((⟨n.toNat, by omega⟩ : Fin 1001).val : Nat) : Int) = n by simp; omega] at this
  simpa [itoaB, ByteArray.size] using this
theorem itoa_any (n : Int) (w : World) (h0 : 0 ≤ n) (h1 : n ≤ 1000) (ht : Tab w) :
    Calls Tryd.prog 113 #[.int .i64 n] w fun e w' => e = .returned (.string (itoaB n)) ∧ Chg No w w' := by
  refine (Tryd.strconv_Itoa n (by omega) (by omega) w ht).mono ?_
  rintro e w' ⟨rfl, k, os, rfl⟩
  refine ⟨rfl, ?_⟩
  refine ⟨rfl, rfl, rfl, ?_, fun i hi _ => ?_⟩
  · simp [Sort.grow]
  · simp [Sort.grow, Array.getElem?_append, hi]

set_option maxRecDepth 100000 in
theorem tab_named : ∃ g, Tryd.prog.globalNamed "internal/strconv.uint64pow10" = some g := by
  have h : (Tryd.prog.globalNamed "internal/strconv.uint64pow10").isSome = true := by kernel_rfl
  exact Option.isSome_iff_exists.1 h
theorem Tab.chg {w w' : World} {S : Nat → Prop} (h : Tab w) (hc : Chg S w w') (hS : ∀ g, Tryd.prog.globalNamed "internal/strconv.uint64pow10" = some g → ¬ S g) : Tab w' := by
  obtain ⟨g, hg⟩ := tab_named
  have hSg := hS g hg
  unfold Tab Lib.TabIs World.var? at h ⊢
  rw [hg] at h ⊢
  simp only [Option.bind_some] at h ⊢
  have hlt : g < w.heap.size := by
    rcases Nat.lt_or_ge g w.heap.size with h' | h'
    · exact h'
    · rw [Array.getElem?_eq_none h'] at h; cases h
  rw [hc.block g hlt hSg]
  exact h
theorem Tab.chgNo {w w' : World} (h : Tab w) (hc : Chg No w w') : Tab w' := h.chg hc fun _ _ e => e

def oftenP (a b : Int) : ByteArray :=
  if a = 0 ∧ b < 0 then ⟨#[42]⟩ else if a = 1 ∧ b < 0 then ⟨#[43]⟩ else if a = 0 ∧ b = 1 then ⟨#[63]⟩
  else if a = b then ⟨#[123]⟩ ++ itoaB a ++ ⟨#[125]⟩
  else if b < 0 then ⟨#[123]⟩ ++ itoaB a ++ ⟨#[44, 125]⟩
  else ⟨#[123]⟩ ++ itoaB a ++ ⟨#[44]⟩ ++ itoaB b ++ ⟨#[125]⟩

set_option maxHeartbeats 1000000 in
set_option maxRecDepth 100000 in
theorem often_any (a b : Int) (w : World) (ha : 0 ≤ a ∧ a ≤ 1000) (hb : b ≤ 1000) (ht : Tab w) :
    Calls Tryd.prog 80 #[.int .i64 a, .int .i64 b] w fun e w' => e = .returned (.string (oftenP a b)) ∧ Chg No w w' := by
  have hia := fun (w1 : World) (h : Tab w1) => itoa_any a w1 ha.1 ha.2 h
  have hsa := itoaB_size a ha.1 ha.2
  have hib := fun (hb0 : 0 ≤ b) (w1 : World) (h : Tab w1) => itoa_any b w1 hb0 hb h
  have hsb := fun (hb0 : 0 ≤ b) => itoaB_size b hb0 hb
  have hfin : oftenP a b = if a = 0 ∧ b < 0 then ⟨#[42]⟩ else if a = 1 ∧ b < 0 then ⟨#[43]⟩ else if a = 0 ∧ b = 1 then ⟨#[63]⟩
    else if a = b then ⟨#[123]⟩ ++ itoaB a ++ ⟨#[125]⟩
    else if b < 0 then ⟨#[123]⟩ ++ itoaB a ++ ⟨#[44, 125]⟩
    else ⟨#[123]⟩ ++ itoaB a ++ ⟨#[44]⟩ ++ itoaB b ++ ⟨#[125]⟩ := rfl
  obtain ⟨IA, hIA⟩ : ∃ x, itoaB a = x := ⟨_, rfl⟩
  obtain ⟨IB, hIB⟩ : ∃ x, itoaB b = x := ⟨_, rfl⟩
  rw [hIA] at hia hsa hfin
  rw [hIB] at hib hsb hfin
  have s1 : (⟨#[123]⟩ : ByteArray).size = 1 := rfl
  have s2 : (⟨#[125]⟩ : ByteArray).size = 1 := rfl
  have s3 : (⟨#[44, 125]⟩ : ByteArray).size = 2 := rfl
  have s4 : (⟨#[44]⟩ : ByteArray).size = 1 := rfl
  clear hIA hIB
  go_enter Tryd.func80, Tryd.ntmps80
  obtain ⟨k0, h0⟩ : ∃ k : Bool, (a == 0) = k := ⟨_, rfl⟩
  obtain ⟨k1, h1⟩ : ∃ k : Bool, (a == 1) = k := ⟨_, rfl⟩
  obtain ⟨k2, h2⟩ : ∃ k : Bool, (b == 1) = k := ⟨_, rfl⟩
  obtain ⟨k3, h3⟩ : ∃ k : Bool, (a == b) = k := ⟨_, rfl⟩
  obtain ⟨k4, h4⟩ : ∃ k : Bool, decide (b < 0) = k := ⟨_, rfl⟩
  have hf2 : oftenP a b = if k0 && k4 then ⟨#[42]⟩ else if k1 && k4 then ⟨#[43]⟩ else if k0 && k2 then ⟨#[63]⟩ else if k3 then ⟨#[123]⟩ ++ IA ++ ⟨#[125]⟩ else if k4 then ⟨#[123]⟩ ++ IA ++ ⟨#[44, 125]⟩ else ⟨#[123]⟩ ++ IA ++ ⟨#[44]⟩ ++ IB ++ ⟨#[125]⟩ := by
    rw [hfin, ← h0, ← h1, ← h2, ← h3, ← h4]
    simp only [Bool.and_eq_true, beq_iff_eq, decide_eq_true_eq]
  have HF := Lib.hid hf2
  clear hfin hf2
  have hbk : k4 = false → 0 ≤ b := fun e => by rw [e] at h4; simpa using h4
  have q1 : k4 = true → b < 0 := fun e => by rw [e] at h4; simpa using h4
  cases k4 with
  | true =>
    have q := q1 rfl
    clear q1 hbk h4 hib hsb h2
    cases k0 <;> cases k1 <;> cases k3
    all_goals
      go_wp2_with (go_at_call 113; refine (hia _ ht).mono ?_; rintro e w1 ⟨rfl, hc1⟩)
      go_ret
      refine ⟨by rw [HF.out]; rfl, ?_⟩
      first | exact Chg.refl _ _ | exact hc1
  | false =>
    have q := hbk rfl
    have hib := hib q
    have hsb := hsb q
    clear q1 hbk h4
    cases k0 <;> cases k1 <;> cases k2 <;> cases k3
    all_goals
      go_wp2_with (first | (go_at_call 113; refine (hia w ht).mono ?_; rintro e w1 ⟨rfl, hc1⟩; have ht1 := ht.chgNo hc1) | (go_at_call 113; refine (hib _ ht1).mono ?_; rintro e w2 ⟨rfl, hc2⟩))
      go_ret
      refine ⟨by rw [HF.out]; rfl, ?_⟩
      first | exact Chg.refl _ _ | exact hc1.trans hc2 | exact hc1
end Go.Proofs.YticipgjbgcdccaaDoor
namespace Go.Proofs.YticipgjbgcdccaaDoor
open Go.RowKit

/-- does the pattern stand in parentheses under a pattern of kind k? -/
def parenP (k : Int) (x : Ex) : Bool := (decide (x.k = 3) && !classesP x.l) || (decide (x.k = 2) && (decide (k ≠ 3) || decide (x.l.length = 0)))
def wrapP (k : Int) (x : Ex) (p : ByteArray) : ByteArray := if parenP k x = true then ⟨#[40]⟩ ++ p ++ ⟨#[41]⟩ else p
/-- the parts one behind the other; 'i' are there already -/
def joinP (k : Int) : Nat → ByteArray → List ByteArray → ByteArray
  | _, r, [] => r
  | i, r, u :: us => joinP k (i + 1) ((if 0 < i ∧ k = 3 then r ++ ⟨#[124]⟩ else r) ++ u) us
mutual
def printedP : Ex → ByteArray
  | .mk k f t a b l =>
    if k = 1 then rangedP (.mk k f t a b l)
    else if k = 4 then (undersP k l).headD ⟨#[]⟩ ++ oftenP a b
    else if (decide (k = 3) && classesP l) = true then membersP l
    else joinP k 0 ⟨#[]⟩ (undersP k l)
def undersP : Int → List Ex → List ByteArray
  | _, [] => []
  | k, x :: xs => wrapP k x (printedP x) :: undersP k xs
end
theorem undersP_eq (k : Int) (l : List Ex) : undersP k l = l.map fun x => wrapP k x (printedP x) := by
  induction l with
  | nil => simp [undersP]
  | cons x l ih => simp [undersP, ih]

theorem oftenP_size (a b : Int) (ha : 0 ≤ a ∧ a ≤ 1000) (hb : b ≤ 1000) : (oftenP a b).size ≤ 12 := by
  have h1 := itoaB_size a ha.1 ha.2
  unfold oftenP
  split
  · simp [ByteArray.size]
  · split
    · simp [ByteArray.size]
    · split
      · simp [ByteArray.size]
      · split
        · simp only [ByteArray.size_append, show (⟨#[123]⟩ : ByteArray).size = 1 from rfl, show (⟨#[125]⟩ : ByteArray).size = 1 from rfl]; omega
        · split
          · simp only [ByteArray.size_append, show (⟨#[123]⟩ : ByteArray).size = 1 from rfl, show (⟨#[44, 125]⟩ : ByteArray).size = 2 from rfl]; omega
          · have h2 := itoaB_size b (by omega) hb
            simp only [ByteArray.size_append, show (⟨#[123]⟩ : ByteArray).size = 1 from rfl, show (⟨#[125]⟩ : ByteArray).size = 1 from rfl, show (⟨#[44]⟩ : ByteArray).size = 1 from rfl]; omega
theorem wrapP_size (k : Int) (x : Ex) (p : ByteArray) : (wrapP k x p).size ≤ p.size + 2 := by
  unfold wrapP
  split
  · simp only [ByteArray.size_append, show (⟨#[40]⟩ : ByteArray).size = 1 from rfl, show (⟨#[41]⟩ : ByteArray).size = 1 from rfl]; omega
  · omega
theorem membersP_size (l : List Ex) : (membersP l).size ≤ 2 + 9 * l.length := by
  have := foldl_range_size l ⟨#[]⟩
  unfold membersP
  simp only [ByteArray.size_append, show (⟨#[91]⟩ : ByteArray).size = 1 from rfl, show (⟨#[93]⟩ : ByteArray).size = 1 from rfl]
  rw [show (⟨#[]⟩ : ByteArray).size = 0 from rfl] at this
  omega
theorem rangedP_size (x : Ex) : (rangedP x).size ≤ 11 := by
  have h1 := escapedP_size x.f.toNat
  have h2 := membersP_size [x]
  unfold rangedP
  split
  · simp [b1, ByteArray.size]
  · split
    · omega
    · split
      · simp [ByteArray.size]
      · simpa using h2
/-- the room the parts take -/
def roomS : List ByteArray → Nat
  | [] => 0
  | u :: us => u.size + 1 + roomS us
theorem joinP_size (k : Int) (us : List ByteArray) : ∀ (i : Nat) (r : ByteArray), (joinP k i r us).size ≤ r.size + roomS us := by
  induction us with
  | nil => intro i r; simp [joinP, roomS]
  | cons u us ih =>
    intro i r
    unfold joinP roomS
    refine Nat.le_trans (ih _ _) ?_
    split
    · simp only [ByteArray.size_append, show (⟨#[124]⟩ : ByteArray).size = 1 from rfl]; omega
    · simp only [ByteArray.size_append]; omega
mutual
theorem printedP_size : ∀ x : Ex, rightP x = true → (printedP x).size + 3 ≤ 16 * nodesP x
  | .mk k f t a b l, h => by
    obtain ⟨hh, hr⟩ := rightP_head h
    have hu := undersP_size l k hr
    have hl := nodesS_len l
    unfold printedP nodesP
    split
    · have := rangedP_size (.mk k f t a b l); omega
    · split
      · rename_i q1 q2
        subst q2
        have hab : 0 ≤ a ∧ a ≤ 1000 ∧ b ≤ 1000 := by simp [headOk] at hh; omega
        have ho := oftenP_size a b ⟨hab.1, hab.2.1⟩ hab.2.2
        have hd : ((undersP 4 l).headD ⟨#[]⟩).size ≤ roomS (undersP 4 l) := by
          cases undersP 4 l with
          | nil => simp [roomS, ByteArray.size]
          | cons u us => simp [roomS]; omega
        simp only [ByteArray.size_append]; omega
      · split
        · have := membersP_size l; omega
        · have := joinP_size k (undersP k l) 0 ⟨#[]⟩
          rw [show (⟨#[]⟩ : ByteArray).size = 0 from rfl] at this
          omega
theorem undersP_size : ∀ (l : List Ex) (k : Int), (∀ x ∈ l, rightP x = true) → roomS (undersP k l) ≤ 16 * nodesS l
  | [], _, _ => by simp [undersP, roomS]
  | x :: xs, k, h => by
    have h1 := printedP_size x (h x (by simp))
    have h2 := undersP_size xs k fun y hy => h y (by simp [hy])
    have h3 := wrapP_size k x (printedP x)
    unfold undersP roomS nodesS; omega
end
end Go.Proofs.YticipgjbgcdccaaDoor
namespace Go.Proofs.YticipgjbgcdccaaDoor
open Go.RowKit

/-- the value v owns the bytes s, in a block from base on -/
def OwB (w : World) (base : Nat) (v : Value) (s : ByteArray) : Prop := w.ownsRow base 5 1 v s.size (Lib.strCells s)
theorem info_u8 : (Tryd.prog.info? 5).map (fun i => (i.zero, i.size, i.bytes)) = some (some (.int .u8 0), 1, 1) := by kernel_rfl
theorem info_u8_parts : ∃ i, Tryd.prog.info? 5 = some i ∧ i.zero = some (.int .u8 0) ∧ i.size = 1 ∧ i.bytes = 1 := by
  obtain ⟨i, hi, hz⟩ := Option.map_eq_some_iff.1 info_u8
  simp only [Prod.mk.injEq] at hz
  exact ⟨i, hi, hz.1, hz.2.1, hz.2.2⟩
namespace OwB
variable {w w' : World} {base : Nat} {v : Value} {s : ByteArray}
theorem new (w : World) (base : Nat) (hb : base ≤ w.heap.size) : OwB (w.alloc (.cells #[] 5)) base (.slice (some ⟨w.heap.size, 0, none⟩) 0 0) ⟨#[]⟩ :=
  ⟨rfl, .inr ⟨w.heap.size, 0, #[], rfl, hb, heap_alloc_new w _, Nat.le_refl _, by simp [maxLen], rfl, rfl⟩⟩
theorem lt (h : OwB w base v s) : ∀ k, v.ownBlock = some k → base ≤ k ∧ k < w.heap.size := by
  obtain ⟨_, h⟩ := h
  intro k hk
  rcases h with ⟨rfl, _⟩ | ⟨g, cap, cur, rfl, hb, hh, _⟩
  · simp [Value.ownBlock] at hk
  · have : g = k := by simpa [Value.ownBlock] using hk
    subst this
    refine ⟨hb, ?_⟩
    rcases Nat.lt_or_ge g w.heap.size with q | q
    · exact q
    · rw [Array.getElem?_eq_none q] at hh; cases hh
theorem chg {S : Nat → Prop} (h : OwB w base v s) (hc : Chg S w w') (hS : ∀ k, v.ownBlock = some k → ¬ S k) : OwB w' base v s := by
  have hlt := h.lt
  obtain ⟨h1, h2⟩ := h
  refine ⟨h1, ?_⟩
  rcases h2 with h2 | ⟨g, cap, cur, rfl, hb, hh, hr⟩
  · exact .inl h2
  · exact .inr ⟨g, cap, cur, rfl, hb, (hc.block g (hlt g rfl).2 (hS g rfl)).trans hh, hr⟩
theorem chgNo (h : OwB w base v s) (hc : Chg No w w') : OwB w' base v s := h.chg hc fun _ _ e => e
end OwB

set_option maxRecDepth 100000 in
/-- 'b = append(b, y...)', y a string -/
theorem wpList_append_str {w : World} {ops : Array Oper} {rest : List Oper} {o : Oper} {a : Act} {Q : Exit → Act → World → Prop} (hgd : o.guard = none) (sl x : Operand)
    (ho : o.op = .call { callee := .builtin .append, args := #[sl, x], argTypes := #[41, 9] }) (base : Nat) (v : Value) (s y : ByteArray) (hs : a.eval sl = v) (hown : OwB w base v s) (hx : a.eval x = .string y)
    (hlen : s.size + y.size ≤ 1000000) (hbase : base ≤ w.heap.size)
    (h : ∀ v' w', OwB w' base v' (s ++ y) → w.grownBy w' v.ownBlock → wpList Tryd.prog ops Q rest (a.put o.dst v') w') : wpList Tryd.prog ops Q (o :: rest) a w := by
  obtain ⟨i, hi, h1, h2, h3⟩ := info_u8_parts
  refine Lib.wpList_append_own_string w hgd sl x 41 9 ho base 5 i rfl rfl hi h1 h2 h3 v s.size (Lib.strCells s) hs hown y hx (by unfold maxLen; omega) (by omega) hbase ?_
  intro v' w' h4 h5 _
  refine h v' w' ?_ h5
  unfold OwB
  rw [ByteArray.size_append]
  rw [show Lib.strCells (s ++ y) = Lib.strCells s ++ Lib.strCells y by simp [Lib.strCells]]
  exact h4

set_option maxRecDepth 100000 in
/-- 'b = append(b, c)': a byte out of a block of one -/
theorem wpList_append_byte {w : World} {ops : Array Oper} {rest : List Oper} {o : Oper} {a : Act} {Q : Exit → Act → World → Prop} (hgd : o.guard = none) (sl x : Operand)
    (ho : o.op = .call { callee := .builtin .append, args := #[sl, x], argTypes := #[41, 41] }) (base : Nat) (v : Value) (s : ByteArray) (c : Nat) (hc : c < 256) (hs : a.eval sl = v) (hown : OwB w base v s) (g k : Nat)
    (hx : a.eval x = .slice (some ⟨g, 0, none⟩) 1 k) (hb : Blk w g 5 #[.int .u8 (c : Int)]) (hlen : s.size ≤ 1000000) (hbase : base ≤ w.heap.size)
    (h : ∀ v' w', OwB w' base v' (s ++ ⟨#[UInt8.ofNat c]⟩) → w.grownBy w' v.ownBlock → wpList Tryd.prog ops Q rest (a.put o.dst v') w') : wpList Tryd.prog ops Q (o :: rest) a w := by
  obtain ⟨i, hi, h1, h2, h3⟩ := info_u8_parts
  refine wpList_append_own_at _ hgd sl x _ ho base 5 i _ 1 1 rfl hi h1 h2 h3 rfl (by decide) v s.size (Lib.strCells s) hs hown ⟨g, 0, none⟩ 1 k [.int .u8 (c : Int)] hx rfl ?_ ?_ (by unfold maxLen; omega) (by omega) hbase ?_
  · intro j u hu
    rw [add0, hb.cell j]
    simpa using hu
  · intro u hu
    simp at hu
    subst hu; rfl
  · intro v' w' h4 h5 _ _
    refine h v' w' ?_ h5
    unfold OwB
    rw [ByteArray.size_append]
    rw [show Lib.strCells (s ++ ⟨#[UInt8.ofNat c]⟩) = Lib.strCells s ++ [.int .u8 (c : Int)] by simp [Lib.strCells]; omega]
    exact h4

set_option maxRecDepth 100000 in
/-- 'string(b)' -/
theorem conv_own {w : World} {base : Nat} {v : Value} {s : ByteArray} (h : OwB w base v s) (hne : v ≠ .slice none 0 0) : (convert 41 9 v).run Tryd.prog w = .ok (.string s) w := by
  obtain ⟨h1, h2⟩ := h
  rcases h2 with ⟨rfl, _⟩ | ⟨g, cap, cur, rfl, hb, hh, h4, h5, h6, h7⟩
  · exact absurd rfl hne
  · have hr := run_convert_bytes_back (P := Tryd.prog) w 41 9 5 ⟨g, 0, none⟩ cap s.data.toList rfl rfl rfl fun j hj => by
      rw [add0]
      rw [cell_of_row w g j cur _ _ hh]
      have hu : (Lib.strCells s)[j]? = some (.int .u8 (s.data.toList[j].toNat : Int)) := by
        unfold Lib.strCells
        rw [List.getElem?_map, List.getElem?_eq_getElem hj]; rfl
      rw [← h7, List.getElem?_take] at hu
      split at hu
      · simpa using hu
      · cases hu
    rw [show s.data.toList.length = s.size from Array.length_toList, show (⟨s.data.toList.toArray⟩ : ByteArray) = s by cases s; simp] at hr
    exact hr
end Go.Proofs.YticipgjbgcdccaaDoor
namespace Go.Proofs.YticipgjbgcdccaaDoor
open Go.RowKit

/-- printed, at this pattern -/
def PrC (x : Ex) : Prop := ∀ (A : Option Addr) (n c : Nat) (S : Nat → Prop) (w : World), Sl w S A n c x.l → Tab w →
  Calls Tryd.prog 50 #[.agg #[.int .i64 x.k, .int .i64 x.f, .int .i64 x.t, .int .i64 x.a, .int .i64 x.b, .slice A n c]] w fun e w' => e = .returned (.string (printedP x)) ∧ Chg No w w'

set_option maxHeartbeats 1000000 in
set_option maxRecDepth 100000 in
theorem under_any (k : Int) (x : Ex) (hp : PrC x) (hz : (printedP x).size ≤ 100000) (A : Option Addr) (n c : Nat) (S : Nat → Prop) (w : World) (hl : Sl w S A n c x.l) (ht : Tab w) :
    Calls Tryd.prog 79 #[.int .i64 k, .agg #[.int .i64 x.k, .int .i64 x.f, .int .i64 x.t, .int .i64 x.a, .int .i64 x.b, .slice A n c]] w
      fun e w' => e = .returned (.string (wrapP k x (printedP x))) ∧ Chg No w w' := by
  obtain ⟨rfl, hc1, hc2⟩ : n = x.l.length ∧ x.l.length ≤ c ∧ c ≤ 9223372036854775807 := ⟨hl.1, by have := hl.2.1; have := hl.1; omega, hl.2.2.1⟩
  have hb := Blk.new w 25 #[.int .i64 x.k, .int .i64 x.f, .int .i64 x.t, .int .i64 x.a, .int .i64 x.b, .slice A x.l.length c]
  have hc0 : Chg No w (w.alloc (.cells #[.int .i64 x.k, .int .i64 x.f, .int .i64 x.t, .int .i64 x.a, .int .i64 x.b, .slice A x.l.length c] 25)) := (Chg.refl _ _).alloc _
  have hp1 := hp A _ c S _ (hl.chgNo hc0) (ht.chgNo hc0)
  obtain ⟨k0, h0⟩ : ∃ q : Bool, (x.k == 3) = q := ⟨_, rfl⟩
  obtain ⟨k1, h1⟩ : ∃ q : Bool, (x.k == 2) = q := ⟨_, rfl⟩
  obtain ⟨k2, h2⟩ : ∃ q : Bool, (k != 3) = q := ⟨_, rfl⟩
  obtain ⟨k3, h3⟩ : ∃ q : Bool, ((x.l.length : Int) == 0) = q := ⟨_, rfl⟩
  have hcl := fun w1 (h : Chg No w w1) => classes_any x.k x.f x.t x.a x.b A _ c x.l S w1 (hl.chgNo h)
  obtain ⟨k4, h4⟩ : ∃ q : Bool, classesP x.l = q := ⟨_, rfl⟩
  rw [h4] at hcl
  obtain ⟨P, hP⟩ : ∃ P, printedP x = P := ⟨_, rfl⟩
  rw [hP] at hp1 hz
  have hF : wrapP k x (printedP x) = if ((k0 && !k4) || (k1 && (k2 || k3))) = true then ⟨#[40]⟩ ++ P ++ ⟨#[41]⟩ else P := by
    unfold wrapP parenP
    rw [hP, ← h0, ← h1, ← h2, ← h3, ← h4]
    congr 2
    rw [Bool.eq_iff_iff]; simp
  have HF := Lib.hid hF
  clear hF hP h4 hp
  have s1 : (⟨#[40]⟩ : ByteArray).size = 1 := rfl
  have s2 : (⟨#[41]⟩ : ByteArray).size = 1 := rfl
  go_enter Tryd.func79, Tryd.ntmps79
  go_wp2_with fail
  refine hp1.mono ?_
  rintro e w1 ⟨rfl, hcp⟩
  have hb1 := hb.chg hcp id
  have y0 := hb1.cell 0
  have y1 := hb1.cell 1
  have y2 := hb1.cell 2
  have y3 := hb1.cell 3
  have y4 := hb1.cell 4
  have y5 := hb1.cell 5
  simp only [List.getElem?_toArray, List.getElem?_cons_zero, List.getElem?_cons_succ] at y0 y1 y2 y3 y4 y5
  have hcc := hc0.trans hcp
  clear hp1 hb
  cases k0 <;> cases k1 <;> cases k2 <;> cases k3 <;> cases k4
  all_goals
    go_wp2_with (go_at_call 81; refine (hcl _ hcc).mono ?_; rintro e w2 ⟨rfl, hc2⟩; have hb2 := hb1.chg hc2 id; have z0 := hb2.cell 0; have z5 := hb2.cell 5; simp only [List.getElem?_toArray, List.getElem?_cons_zero, List.getElem?_cons_succ] at z0 z5)
    go_ret
    refine ⟨by rw [HF.out]; rfl, ?_⟩
    first | exact hcc.trans hc2 | exact hcc
end Go.Proofs.YticipgjbgcdccaaDoor
namespace Go.Proofs.YticipgjbgcdccaaDoor
open Go.RowKit

theorem range_of_right {x : Ex} (h : rightP x = true) (hk : x.k = 1) : rangeOk x := by
  obtain ⟨k, f, t, a, b, l⟩ := x
  have := (rightP_head h).1
  simp only [Ex.k] at hk
  subst hk
  simp [headOk] at this
  exact ⟨this.1, this.2.1, this.2.2.1⟩

theorem classesP_iff (l : List Ex) : classesP l = true ↔ ∀ x ∈ l, x.k = 1 := by simp [classesP]
theorem joinP_snoc (k : Int) (u : ByteArray) : ∀ (us : List ByteArray) (i : Nat) (r : ByteArray), joinP k i r (us ++ [u]) = (if 0 < i + us.length ∧ k = 3 then joinP k i r us ++ ⟨#[124]⟩ else joinP k i r us) ++ u := by
  intro us
  induction us with
  | nil => intro i r; simp [joinP]
  | cons v us ih =>
    intro i r
    simp only [List.cons_append, joinP, ih, List.length_cons]
    rw [show i + 1 + us.length = i + (us.length + 1) by omega]
theorem roomS_take : ∀ (us : List ByteArray) (i : Nat), roomS (us.take i) ≤ roomS us
  | [], i => by simp [roomS]
  | u :: us, 0 => by simp [roomS]
  | u :: us, i + 1 => by
    have := roomS_take us i
    simp only [List.take_succ_cons, roomS]; omega

set_option maxHeartbeats 2000000 in
set_option maxRecDepth 100000 in
theorem printed_rep (f t a b : Int) (l : List Ex) (hR : rightP (.mk 4 f t a b l) = true) (hn : nodesP (.mk 4 f t a b l) ≤ 4096) (IHP : ∀ y ∈ l, PrC y) (A : Option Addr) (c : Nat) (S : Nat → Prop) (w : World)
    (hl : Sl w S A l.length c l) (ht : Tab w) : Calls Tryd.prog 50 #[.agg #[.int .i64 4, .int .i64 f, .int .i64 t, .int .i64 a, .int .i64 b, .slice A l.length c]] w fun e w' => e = .returned (.string (printedP (.mk 4 f t a b l))) ∧ Chg No w w' := by
  have hc1 : l.length ≤ c := by have := hl.2.1; have := hl.1; omega
  have hc2 := hl.2.2.1
  have IH := Lib.hid IHP; clear IHP
  obtain ⟨hh, hr⟩ := rightP_head hR
  have hns : nodesS l ≤ 4095 := by unfold nodesP at hn; omega
  have hb := Blk.new w 25 #[.int .i64 4, .int .i64 f, .int .i64 t, .int .i64 a, .int .i64 b, .slice A l.length c]
  have hc0 : Chg No w (w.alloc (.cells #[.int .i64 4, .int .i64 f, .int .i64 t, .int .i64 a, .int .i64 b, .slice A l.length c] 25)) := (Chg.refl _ _).alloc _
  have y3 := hb.cell 3
  have y4 := hb.cell 4
  have y5 := hb.cell 5
  simp only [List.getElem?_toArray, List.getElem?_cons_zero, List.getElem?_cons_succ] at y3 y4 y5
  have hab : 0 ≤ a ∧ a ≤ 1000 ∧ b ≤ 1000 ∧ l.length = 1 := by simp [headOk] at hh; omega
  obtain ⟨y, rfl⟩ : ∃ y, l = [y] := List.length_eq_one_iff.1 hab.2.2.2
  have hF : printedP (.mk 4 f t a b [y]) = wrapP 4 y (printedP y) ++ oftenP a b := by
    conv => lhs; unfold printedP
    rw [if_neg (by omega), if_pos rfl, undersP_eq]; rfl
  have HF := Lib.hid hF
  have hy := IH.out y (by simp)
  have hny : nodesP y ≤ 4096 := by simp [nodesS] at hns; omega
  have hpy := printedP_size y (hr y (by simp))
  have hwy := wrapP_size 4 y (printedP y)
  have hoz := oftenP_size a b ⟨hab.1, hab.2.1⟩ hab.2.2.1
  have hbig : ¬ 9223372036854775807 < (wrapP 4 y (printedP y)).size + (oftenP a b).size := by omega
  clear hF hh
  go_enter Tryd.func50, Tryd.ntmps50
  simp only [List.length_cons, List.length_nil, Nat.zero_add] at hl hb hc0 y3 y4 y5
  obtain ⟨g, o, A', c', rfl, hS, x0, x1, x2, x3, x4, x5, hx⟩ := (hl.chgNo hc0).at_ 0 (by simp)
  simp only [List.getElem_cons_zero, Nat.zero_mul, Nat.add_zero] at x0 x1 x2 x3 x4 x5 hx
  have ht0 := ht.chgNo hc0
  have hkeep : ∀ w2, Chg No (w.alloc (.cells #[.int .i64 4, .int .i64 f, .int .i64 t, .int .i64 a, .int .i64 b, .slice (some ⟨g, o, none⟩) 1 c] 25)) w2 → ∀ (p : Addr) (v : Value), (w.alloc (.cells #[.int .i64 4, .int .i64 f, .int .i64 t, .int .i64 a, .int .i64 b, .slice (some ⟨g, o, none⟩) 1 c] 25)).cell? p = some v → w2.cell? p = some v := fun w2 h p v hp => (h.below.cell (World.block_lt_of_cell? _ p hp)).trans hp
  go_wp2_with fail
  go_region_law (first | (go_simp; go_at_call 79; refine (under_any 4 y hy (by omega) A' _ c' S _ (hx.chgNo HO) (ht0.chgNo HO)).mono ?_; rintro e w2 ⟨rfl, hu⟩; have HU := Chg.trans HO hu; have u0 := hkeep _ HU _ _ y3; have u1 := hkeep _ HU _ _ y4; have u2 := hkeep _ HU _ _ y5; have u3 := hkeep _ HU _ _ x0; have u4 := hkeep _ HU _ _ x1; have u5 := hkeep _ HU _ _ x2; have u6 := hkeep _ HU _ _ x3; have u7 := hkeep _ HU _ _ x4; have u8 := hkeep _ HU _ _ x5) | (go_simp; go_at_call 79; refine (under_any 4 y hy (by omega) A' _ c' S _ (hx.chgNo ((Chg.refl No (w.alloc (.cells #[.int .i64 4, .int .i64 f, .int .i64 t, .int .i64 a, .int .i64 b, .slice (some ⟨g, o, none⟩) 1 c] 25))).drew)) (ht0.chgNo ((Chg.refl No (w.alloc (.cells #[.int .i64 4, .int .i64 f, .int .i64 t, .int .i64 a, .int .i64 b, .slice (some ⟨g, o, none⟩) 1 c] 25))).drew))).mono ?_; rintro e w2 ⟨rfl, hu⟩; have HU := Chg.trans ((Chg.refl No (w.alloc (.cells #[.int .i64 4, .int .i64 f, .int .i64 t, .int .i64 a, .int .i64 b, .slice (some ⟨g, o, none⟩) 1 c] 25))).drew) hu; have u0 := hkeep _ HU _ _ y3; have u1 := hkeep _ HU _ _ y4; have u2 := hkeep _ HU _ _ y5; have u3 := hkeep _ HU _ _ x0; have u4 := hkeep _ HU _ _ x1; have u5 := hkeep _ HU _ _ x2; have u6 := hkeep _ HU _ _ x3; have u7 := hkeep _ HU _ _ x4; have u8 := hkeep _ HU _ _ x5) | (go_simp; go_at_call 80; refine (often_any a b _ ⟨hab.1, hab.2.1⟩ hab.2.2.1 (ht0.chgNo HU)).mono ?_; rintro e w3 ⟨rfl, ho⟩; have HO := Chg.trans HU ho; have v0 := hkeep _ HO _ _ y3; have v1 := hkeep _ HO _ _ y4; have v2 := hkeep _ HO _ _ y5; have v3 := hkeep _ HO _ _ x0; have v4 := hkeep _ HO _ _ x1; have v5 := hkeep _ HO _ _ x2; have v6 := hkeep _ HO _ _ x3; have v7 := hkeep _ HO _ _ x4; have v8 := hkeep _ HO _ _ x5) | (go_simp; go_at_call 80; refine (often_any a b _ ⟨hab.1, hab.2.1⟩ hab.2.2.1 (ht0.chgNo ((Chg.refl No (w.alloc (.cells #[.int .i64 4, .int .i64 f, .int .i64 t, .int .i64 a, .int .i64 b, .slice (some ⟨g, o, none⟩) 1 c] 25))).drew))).mono ?_; rintro e w3 ⟨rfl, ho⟩; have HO := Chg.trans ((Chg.refl No (w.alloc (.cells #[.int .i64 4, .int .i64 f, .int .i64 t, .int .i64 a, .int .i64 b, .slice (some ⟨g, o, none⟩) 1 c] 25))).drew) ho; have v0 := hkeep _ HO _ _ y3; have v1 := hkeep _ HO _ _ y4; have v2 := hkeep _ HO _ _ y5; have v3 := hkeep _ HO _ _ x0; have v4 := hkeep _ HO _ _ x1; have v5 := hkeep _ HO _ _ x2; have v6 := hkeep _ HO _ _ x3; have v7 := hkeep _ HO _ _ x4; have v8 := hkeep _ HO _ _ x5))
  all_goals
    go_wp2
    go_ret
    refine ⟨by rw [HF.out]; rfl, ?_⟩
    first | exact hc0.trans (HU.trans ho) | exact hc0.trans (HO.trans hu)
end Go.Proofs.YticipgjbgcdccaaDoor
namespace Go.Proofs.YticipgjbgcdccaaDoor
open Go.RowKit

set_option maxRecDepth 100000 in
/-- 'b = append(b, y...)', y a string -/
theorem wpList_append_str' {w : World} {ops : Array Oper} {rest : List Oper} {o : Oper} {a : Act} {Q : Exit → Act → World → Prop} (hgd : o.guard = none) (sl x : Operand)
    (ho : o.op = .call { callee := .builtin .append, args := #[sl, x], argTypes := #[41, 9] }) (base : Nat) (v : Value) (s y : ByteArray) (hs : a.eval sl = v) (hown : OwB w base v s) (hx : a.eval x = .string y)
    (hlen : s.size + y.size ≤ 1000000) (hbase : base ≤ w.heap.size)
    (h : ∀ v' w', OwB w' base v' (s ++ y) → w.grownBy w' v.ownBlock → (v' = .slice none 0 0 → v = .slice none 0 0) → wpList Tryd.prog ops Q rest (a.put o.dst v') w') : wpList Tryd.prog ops Q (o :: rest) a w := by
  obtain ⟨i, hi, h1, h2, h3⟩ := info_u8_parts
  refine Lib.wpList_append_own_string w hgd sl x 41 9 ho base 5 i rfl rfl hi h1 h2 h3 v s.size (Lib.strCells s) hs hown y hx (by unfold maxLen; omega) (by omega) hbase ?_
  intro v' w' h4 h5 h6
  refine h v' w' ?_ h5 fun e => (h6.1 e).1
  unfold OwB
  rw [ByteArray.size_append]
  rw [show Lib.strCells (s ++ y) = Lib.strCells s ++ Lib.strCells y by simp [Lib.strCells]]
  exact h4

set_option maxRecDepth 100000 in
/-- 'b = append(b, c)': a byte out of a block of one -/
theorem wpList_append_byte' {w : World} {ops : Array Oper} {rest : List Oper} {o : Oper} {a : Act} {Q : Exit → Act → World → Prop} (hgd : o.guard = none) (sl x : Operand)
    (ho : o.op = .call { callee := .builtin .append, args := #[sl, x], argTypes := #[41, 41] }) (base : Nat) (v : Value) (s : ByteArray) (c : Nat) (hc : c < 256) (hs : a.eval sl = v) (hown : OwB w base v s) (g k : Nat)
    (hx : a.eval x = .slice (some ⟨g, 0, none⟩) 1 k) (hb : Blk w g 5 #[.int .u8 (c : Int)]) (hlen : s.size ≤ 1000000) (hbase : base ≤ w.heap.size)
    (h : ∀ v' w', OwB w' base v' (s ++ ⟨#[UInt8.ofNat c]⟩) → w.grownBy w' v.ownBlock → (v' = .slice none 0 0 → v = .slice none 0 0) → wpList Tryd.prog ops Q rest (a.put o.dst v') w') : wpList Tryd.prog ops Q (o :: rest) a w := by
  obtain ⟨i, hi, h1, h2, h3⟩ := info_u8_parts
  refine wpList_append_own_at _ hgd sl x _ ho base 5 i _ 1 1 rfl hi h1 h2 h3 rfl (by decide) v s.size (Lib.strCells s) hs hown ⟨g, 0, none⟩ 1 k [.int .u8 (c : Int)] hx rfl ?_ ?_ (by unfold maxLen; omega) (by omega) hbase ?_
  · intro j u hu
    rw [add0, hb.cell j]
    simpa using hu
  · intro u hu
    simp at hu
    subst hu; rfl
  · intro v' w' h4 h5 h6 _
    refine h v' w' ?_ h5 fun e => (h6.1 e).1
    unfold OwB
    rw [ByteArray.size_append]
    rw [show Lib.strCells (s ++ ⟨#[UInt8.ofNat c]⟩) = Lib.strCells s ++ [.int .u8 (c : Int)] by simp [Lib.strCells]; omega]
    exact h4

theorem nodesS_mem : ∀ (l : List Ex) (y : Ex), y ∈ l → nodesP y ≤ nodesS l
  | [], y, h => by simp at h
  | x :: l, y, h => by
    simp only [List.mem_cons] at h
    simp only [nodesS]
    rcases h with rfl | h
    · omega
    · have := nodesS_mem l y h; omega

set_option maxHeartbeats 2000000 in
set_option maxRecDepth 100000 in
theorem printed_any : ∀ (N : Nat) (x : Ex), SizeOf.sizeOf x < N → rightP x = true → nodesP x ≤ 4096 → PrC x := by
  intro N
  induction N with
  | zero => intro _ h; omega
  | succ N ih =>
    intro x hN hR hn A n c S w hl ht
    obtain ⟨rfl, hc1, hc2⟩ : n = x.l.length ∧ x.l.length ≤ c ∧ c ≤ 9223372036854775807 := ⟨hl.1, by have := hl.2.1; have := hl.1; omega, hl.2.2.1⟩
    have IH := Lib.hid ih; clear ih
    have hps := printedP_size x hR
    obtain ⟨k, f, t, a, b, l⟩ := x
    simp only [Ex.k, Ex.f, Ex.t, Ex.a, Ex.b, Ex.l] at hl hc1 ⊢
    obtain ⟨hh, hr⟩ := rightP_head hR
    have hns : nodesS l ≤ 4095 := by unfold nodesP at hn; omega
    have hlen := nodesS_len l
    have hb := Blk.new w 25 #[.int .i64 k, .int .i64 f, .int .i64 t, .int .i64 a, .int .i64 b, .slice A l.length c]
    have hc0 : Chg No w (w.alloc (.cells #[.int .i64 k, .int .i64 f, .int .i64 t, .int .i64 a, .int .i64 b, .slice A l.length c] 25)) := (Chg.refl _ _).alloc _
    have y0 := hb.cell 0
    have y1 := hb.cell 1
    have y2 := hb.cell 2
    have y3 := hb.cell 3
    have y4 := hb.cell 4
    have y5 := hb.cell 5
    simp only [List.getElem?_toArray, List.getElem?_cons_zero, List.getElem?_cons_succ] at y0 y1 y2 y3 y4 y5
    by_cases k1 : k = 1
    · have hF : printedP (.mk k f t a b l) = rangedP (.mk k f t a b l) := by unfold printedP; rw [if_pos k1]
      have HF := Lib.hid hF
      have hrg := ranged_any k f t a b A _ c l S _ (hl.chgNo hc0) (range_of_right hR k1)
      subst k1
      clear hF hh hps
      go_enter Tryd.func50, Tryd.ntmps50
      go_wp2_with fail
      refine hrg.mono ?_
      rintro e w1 ⟨rfl, hcg⟩
      go_wp2
      go_ret
      exact ⟨by rw [HF.out]; rfl, hc0.trans hcg⟩
    have e1 : (k == 1) = false := by simpa using k1
    by_cases k4 : k = 4
    · subst k4
      exact printed_rep f t a b l hR hn (fun y hy => IH.out y (by have := Ex.lt_of_mem hy 4 f t a b; omega) (hr y hy) (by have := nodesS_mem l y hy; omega)) A c S w hl ht
    have e4 : (k == 4) = false := by simpa using k4
    have hF : printedP (.mk k f t a b l) = if (decide (k = 3) && classesP l) = true then membersP l else joinP k 0 ⟨#[]⟩ (undersP k l) := by
      conv => lhs; unfold printedP
      rw [if_neg k1, if_neg k4]
    have hun := undersP_eq k l
    have hroom := undersP_size l k hr
    have hcl := fun w1 (h : Chg No w w1) => classes_any k f t a b A _ c l S w1 (hl.chgNo h)
    obtain ⟨q3, h3⟩ : ∃ q : Bool, (k == 3) = q := ⟨_, rfl⟩
    have hd3 : decide (k = 3) = q3 := by rw [← h3, Bool.eq_iff_iff]; simp
    rw [hd3] at hF
    have hmm := fun w1 (h : Chg No w w1) (hq : classesP l = true) => members_any A _ c l S w1 (hl.chgNo h) (fun x hx => range_of_right (hr x hx) ((classesP_iff l).1 hq x hx)) (by omega)
    obtain ⟨q5, h5⟩ : ∃ q : Bool, classesP l = q := ⟨_, rfl⟩
    rw [h5] at hcl hF hmm
    by_cases hq : (q3 && q5) = true
    · obtain ⟨rfl, rfl⟩ : q3 = true ∧ q5 = true := by simpa using hq
      simp only [Bool.and_self, if_true] at hF
      have HF := Lib.hid hF
      clear hF hun hroom h5 hd3 hh hps k1 k4 hq
      go_enter Tryd.func50, Tryd.ntmps50
      go_wp2_with fail
      refine (hcl _ hc0).mono ?_
      rintro e w1 ⟨rfl, hcc⟩
      have z5 := (hb.chg hcc id).cell 5
      simp only [List.getElem?_toArray, List.getElem?_cons_zero, List.getElem?_cons_succ] at z5
      go_wp2_with fail
      refine (hmm _ (hc0.trans hcc) (by trivial)).mono ?_
      rintro e w2 ⟨rfl, hcm⟩
      go_wp2
      go_ret
      exact ⟨by rw [HF.out]; rfl, (hc0.trans hcc).trans hcm⟩
    · rw [if_neg hq] at hF
      have HF := Lib.hid hF
      have HU := Lib.hid hun
      have HR := Lib.hid hr
      have HQ := Lib.hid hq
      clear hF hun h5 hd3 hh hps k1 k4 hq hmm hr
      go_enter Tryd.func50, Tryd.ntmps50
      cases q3
      rotate_left
      obtain rfl : q5 = false := by cases q5; rfl; exact absurd rfl HQ.out
      all_goals
        go_wp2_with (go_at_call 81; refine (hcl _ hc0).mono ?_; rintro e w1 ⟨rfl, hcc⟩; have hb1 := hb.chg hcc id; have z5 := (hb1.alloc (.cells #[] 5)).cell 5; simp only [List.getElem?_toArray, List.getElem?_cons_zero, List.getElem?_cons_succ] at z5)
      all_goals
        go_loopw [3, 44] (fun v3 v44 wr => ∃ i : Nat, i ≤ l.length ∧ v44 = .int .i64 (i : Int) ∧ v3 ≠ .slice none 0 0 ∧ OwB wr (w.heap.size + 1) v3 (joinP k 0 ⟨#[]⟩ ((undersP k l).take i)) ∧ Chg No w wr ∧ Blk wr w.heap.size 25 #[.int .i64 k, .int .i64 f, .int .i64 t, .int .i64 a, .int .i64 b, .slice A l.length c]) (fun _ v _ => l.length - (intOf v).toNat)
      case atStart =>
        exact ⟨0, Nat.zero_le _, rfl, by simp, OwB.new _ _ (by have := hb1.lt; omega), (hc0.trans hcc).alloc _, hb1.alloc _⟩
      case atStart =>
        exact ⟨0, Nat.zero_le _, rfl, by simp, by have := OwB.new (w.alloc (.cells #[.int .i64 k, .int .i64 f, .int .i64 t, .int .i64 a, .int .i64 b, .slice A l.length c] 25)) (w.heap.size + 1) (by simp); simpa [joinP] using this, hc0.alloc _, hb.alloc _⟩
      all_goals
        obtain ⟨i, hi, rfl, hne, hO, hc, hB⟩ := hrel
        have x0 := hB.cell 0
        simp only [List.getElem?_toArray, List.getElem?_cons_zero, List.getElem?_cons_succ] at x0
        have hsz := joinP_size k ((undersP k l).take i) 0 ⟨#[]⟩
        have htk := roomS_take (undersP k l) i
        rw [show (⟨#[]⟩ : ByteArray).size = 0 from rfl] at hsz
        have hul : (undersP k l).length = l.length := by rw [HU.out, List.length_map]
        have hbase := hB.lt
        by_cases hlt : i < l.length
        · obtain ⟨g, o, A', c', rfl, hS, z0, z1, z2, z3, z4, z5, hx⟩ := hl.at_ i hlt
          have hkeep : ∀ w2, Chg No w w2 → ∀ (p : Addr) (v : Value), w.cell? p = some v → w2.cell? p = some v := fun w2 h p v hp => (h.below.cell (World.block_lt_of_cell? _ p hp)).trans hp
          have r0 := hkeep _ hc _ _ z0
          have r1 := hkeep _ hc _ _ z1
          have r2 := hkeep _ hc _ _ z2
          have r3 := hkeep _ hc _ _ z3
          have r4 := hkeep _ hc _ _ z4
          have r5 := hkeep _ hc _ _ z5
          clear z0 z1 z2 z3 z4 z5 y0 y1 y2 y3 y4 y5 hcl
          have hy := IH.out l[i] (by have := Ex.lt_of_mem (List.getElem_mem hlt) k f t a b; omega) (HR.out _ (List.getElem_mem hlt)) (by have := nodesS_mem l _ (List.getElem_mem hlt); omega)
          have hpy := printedP_size l[i] (HR.out _ (List.getElem_mem hlt))
          have hny := nodesS_mem l _ (List.getElem_mem hlt)
          have hwy := wrapP_size k l[i] (printedP l[i])
          have hu0 := fun (S : Nat → Prop) (w1 : World) (hx1 : Sl w1 S A' l[i].l.length c' l[i].l) (ht1 : Tab w1) => under_any k l[i] hy (by omega) A' _ c' S w1 hx1 ht1
          have hst : joinP k 0 ⟨#[]⟩ ((undersP k l).take (i + 1)) = (if 0 < i ∧ k = 3 then joinP k 0 ⟨#[]⟩ ((undersP k l).take i) ++ ⟨#[124]⟩ else joinP k 0 ⟨#[]⟩ ((undersP k l).take i)) ++ wrapP k l[i] (printedP l[i]) := by
            rw [List.take_succ_eq_append_getElem (by omega), joinP_snoc, List.length_take, Nat.min_eq_left (by omega), Nat.zero_add]
            congr 1
            simp only [HU.out, List.getElem_map]
          obtain ⟨T, hT⟩ : ∃ T, joinP k 0 ⟨#[]⟩ ((undersP k l).take i) = T := ⟨_, rfl⟩
          obtain ⟨U, hU⟩ : ∃ U, wrapP k l[i] (printedP l[i]) = U := ⟨_, rfl⟩
          rw [hT] at hO hst hsz
          rw [hU] at hu0 hwy hst
          have HST := Lib.hid hst
          clear hst hT hU hy hul
          have hmix : Chg No wr (wr.alloc (.cells #[.int .i64 l[i].k, .int .i64 l[i].f, .int .i64 l[i].t, .int .i64 l[i].a, .int .i64 l[i].b, .slice A' l[i].l.length c'] 25)) := (Chg.refl No wr).alloc _
          have w0 := (hB.chg hmix id).cell 0
          simp only [List.getElem?_toArray, List.getElem?_cons_zero, List.getElem?_cons_succ] at w0
          by_cases hbar : 0 < i ∧ k = 3
          · try exact absurd hbar.2 (by simpa using h3)
            all_goals
              have hi0 : (0 : Int) < (i : Int) := by omega
              have HB := Lib.hid hbar
              clear hbar
              have hm1 : Chg No wr ((wr.alloc (.cells #[.int .i64 l[i].k, .int .i64 l[i].f, .int .i64 l[i].t, .int .i64 l[i].a, .int .i64 l[i].b, .slice A' l[i].l.length c'] 25)).alloc (.cells #[.int .u8 124] 5)) := hmix.alloc _
              have hzm := hm1.size
              go_wp2_with (at_builtin; refine wpList_append_byte' rfl _ _ rfl (w.heap.size + 1) _ T 124 (by omega) rfl (hO.chgNo hm1) (wr.heap.size + 1) 1 rfl (Blk.new' (by simp)) (by omega) (by omega) ?_; intro v2 w2 hO2 hg2 hv2; have hg := Chg.of_grown (S := fun j => u3.ownBlock = some j) hg2 fun j e _ => e; have hbx := ((hB.chg hm1 id).chg hg fun e => by have := (hO.lt _ e).1; omega).cell 0; have hnb := (((Blk.new wr 25 #[.int .i64 l[i].k, .int .i64 l[i].f, .int .i64 l[i].t, .int .i64 l[i].a, .int .i64 l[i].b, .slice A' l[i].l.length c']).alloc (.cells #[.int .u8 124] 5)).chg hg fun e => by have := (hO.lt _ e).2; omega); have n0 := hnb.cell 0; have n1 := hnb.cell 1; have n2 := hnb.cell 2; have n3 := hnb.cell 3; have n4 := hnb.cell 4; have n5 := hnb.cell 5; simp only [List.getElem?_toArray, List.getElem?_cons_zero, List.getElem?_cons_succ] at hbx n0 n1 n2 n3 n4 n5)
              have hC2 : Chg No w w2 := (hc.trans hm1).then_ hg fun j hj e => by have := (hO.lt j e).1; omega
              refine (hu0 _ _ (hx.chgNo hC2) (ht.chgNo hC2)).mono ?_
              rintro e w3 ⟨rfl, hu⟩
              have hO3 := hO2.chgNo hu
              have hTs : (T ++ ⟨#[124]⟩ : ByteArray).size = T.size + 1 := by rw [ByteArray.size_append]; rfl
              have hz2 := hg.size
              have hz3 := hu.size
              have hq1 : (T ++ ⟨#[124]⟩ : ByteArray).size + U.size ≤ 1000000 := by omega
              have hq2 : w.heap.size + 1 ≤ w3.heap.size := by omega
              have hO3' : OwB w3 (w.heap.size + 1) v2 (T ++ ⟨#[124]⟩) := hO3
              go_wp2_with (at_builtin; refine wpList_append_str' rfl _ _ rfl (w.heap.size + 1) _ _ U rfl hO3' rfl hq1 hq2 ?_; intro v4 w4 hO4 hg4 hv4)
              have hg' := Chg.of_grown (S := fun j => v2.ownBlock = some j) hg4 fun j e _ => e
              refine ⟨⟨i + 1, by omega, by go_num, fun e => hne (hv2 (hv4 e)), ?_, ?_, ?_⟩, by simp [intOf]; omega⟩
              · rw [HST.out, if_pos HB.out]; exact hO4
              · exact (hC2.trans hu).then_ hg' fun j hj e => by have := (hO2.lt j e).1; omega
              · exact ((((hB.chg hm1 id).chg hg fun e => by have := (hO.lt _ e).1; omega).chg hu id).chg hg' fun e => by have := (hO2.lt _ e).1; omega)
          · rcases Nat.eq_zero_or_pos i with h0 | h0
            · subst h0
              simp only [Nat.zero_mul, Nat.add_zero] at r0 r1 r2 r3 r4 r5
              go_wp2_with fail
              refine (hu0 _ _ (hx.chgNo (hc.trans hmix)) (ht.chgNo (hc.trans hmix))).mono ?_
              rintro e w2 ⟨rfl, hu⟩
              have hO2 := hO.chgNo (hmix.trans hu)
              have hz2 := (hmix.trans hu).size
              go_wp2_with (at_builtin; refine wpList_append_str' rfl _ _ rfl (w.heap.size + 1) _ T U rfl hO2 rfl (by omega) (by omega) ?_; intro v' w3 hO3 hg3 hv3)
              have hg := Chg.of_grown (S := fun j => u3.ownBlock = some j) hg3 fun j e _ => e
              refine ⟨⟨0 + 1, by omega, by go_num, fun e => hne (hv3 e), ?_, ?_, ?_⟩, by simp [intOf]; omega⟩
              · rw [HST.out, if_neg hbar]; exact hO3
              · exact ((hc.trans hmix).trans hu).then_ hg fun j hj e => by have := (hO.lt j e).1; omega
              · exact (((hB.chg hmix id).chg hu id).chg hg fun e => by have := (hO.lt _ e).1; omega)
            · try exact absurd ⟨h0, by simpa using h3⟩ hbar
              all_goals
                have hi0 : (0 : Int) < (i : Int) := by omega
                go_wp2_with fail
                refine (hu0 _ _ (hx.chgNo (hc.trans hmix)) (ht.chgNo (hc.trans hmix))).mono ?_
                rintro e w2 ⟨rfl, hu⟩
                have hO2 := hO.chgNo (hmix.trans hu)
                have hz2 := (hmix.trans hu).size
                go_wp2_with (at_builtin; refine wpList_append_str' rfl _ _ rfl (w.heap.size + 1) _ T U rfl hO2 rfl (by omega) (by omega) ?_; intro v' w3 hO3 hg3 hv3)
                have hg := Chg.of_grown (S := fun j => u3.ownBlock = some j) hg3 fun j e _ => e
                refine ⟨⟨i + 1, by omega, by go_num, fun e => hne (hv3 e), ?_, ?_, ?_⟩, by simp [intOf]; omega⟩
                · rw [HST.out, if_neg hbar]; exact hO3
                · exact ((hc.trans hmix).trans hu).then_ hg fun j hj e => by have := (hO.lt j e).1; omega
                · exact (((hB.chg hmix id).chg hu id).chg hg fun e => by have := (hO.lt _ e).1; omega)
        · obtain rfl : i = l.length := by omega
          rw [List.take_of_length_le (by omega)] at hO
          obtain ⟨T, hT⟩ : ∃ T, joinP k 0 ⟨#[]⟩ (undersP k l) = T := ⟨_, rfl⟩
          rw [hT] at hO
          have HT := Lib.hid hT
          have hkv := conv_own hO hne
          clear hT hsz htk hul
          go_wp2
          go_ret
          exact ⟨by rw [HF.out, HT.out]; rfl, hc⟩
end Go.Proofs.YticipgjbgcdccaaDoor
namespace Go.Proofs.YticipgjbgcdccaaDoor
open Go.RowKit

theorem checkP_nodes (x : Ex) (h : checkP x = 0) : rightP x = true ∧ nodesP x ≤ 4096 ∧ positionsP x ≤ 4096 := by
  have hn := walkedP_nodes x 1 0
  unfold checkP at h
  split at h
  · cases h
  · split at h
    · cases h
    · split at h
      · cases h
      · split at h
        · cases h
        · rename_i q1 q2 q3 q4
          exact ⟨by simpa using q3, by omega, by omega⟩

/-- the text of a pattern, or why there is none -/
def printP (x : Ex) : ByteArray × Int :=
  if checkP x ≠ 0 then (⟨#[]⟩, checkP x) else if 4096 < (printedP x).size then (⟨#[]⟩, 2) else (printedP x, 0)

set_option maxHeartbeats 1000000 in
set_option maxRecDepth 100000 in
theorem print_any (x : Ex) (A : Option Addr) (n c : Nat) (S : Nat → Prop) (w : World) (hl : Sl w S A n c x.l) (ht : Tab w) :
    Calls Tryd.prog 17 #[.agg #[.int .i64 x.k, .int .i64 x.f, .int .i64 x.t, .int .i64 x.a, .int .i64 x.b, .slice A n c]] w
      fun e w' => e = .returned (.tuple #[.string (printP x).1, .int .i64 (printP x).2]) ∧ Chg No w w' := by
  have hb := Blk.new w 25 #[.int .i64 x.k, .int .i64 x.f, .int .i64 x.t, .int .i64 x.a, .int .i64 x.b, .slice A n c]
  have hc0 : Chg No w (w.alloc (.cells #[.int .i64 x.k, .int .i64 x.f, .int .i64 x.t, .int .i64 x.a, .int .i64 x.b, .slice A n c] 25)) := (Chg.refl _ _).alloc _
  have hck := fun w1 (h : Chg No w w1) => check_any w1 x.k x.f x.t x.a x.b A n c x.l S (hl.chgNo h)
  rw [Ex.eta] at hck
  have hF : printP x = if checkP x ≠ 0 then (⟨#[]⟩, checkP x) else if 4096 < (printedP x).size then (⟨#[]⟩, 2) else (printedP x, 0) := rfl
  have hpr := fun (h : checkP x = 0) => printed_any _ x (Nat.lt_succ_self _) (checkP_nodes x h).1 (checkP_nodes x h).2.1 A n c S
  obtain ⟨e0, he⟩ : ∃ e, checkP x = e := ⟨_, rfl⟩
  rw [he] at hck hF hpr
  obtain ⟨T, hT⟩ : ∃ T, printedP x = T := ⟨_, rfl⟩
  have hPT : ∀ w1, checkP x = 0 → Sl w1 S A n c x.l → Tab w1 → Calls Tryd.prog 50 #[.agg #[.int .i64 x.k, .int .i64 x.f, .int .i64 x.t, .int .i64 x.a, .int .i64 x.b, .slice A n c]] w1 fun e w' => e = .returned (.string T) ∧ Chg No w1 w' := by
    intro w1 h0 h1 h2
    rw [← hT]
    exact hpr (he ▸ h0) w1 h1 h2
  rw [he] at hPT
  rw [hT] at hF
  have HL := Lib.hid hl
  clear hpr hT he
  go_enter Tryd.func17, Tryd.ntmps17
  go_wp2_with fail
  refine (hck _ hc0).mono ?_
  rintro e w1 ⟨rfl, hc1⟩
  have hb1 := hb.chg hc1 id
  have y0 := hb1.cell 0
  have y1 := hb1.cell 1
  have y2 := hb1.cell 2
  have y3 := hb1.cell 3
  have y4 := hb1.cell 4
  have y5 := hb1.cell 5
  simp only [List.getElem?_toArray, List.getElem?_cons_zero, List.getElem?_cons_succ] at y0 y1 y2 y3 y4 y5
  by_cases q : e0 = 0
  · subst q
    rw [if_neg (by simp)] at hF
    have hp := hPT w1 rfl (HL.out.chgNo (hc0.trans hc1)) (ht.chgNo (hc0.trans hc1))
    clear hPT hck
    by_cases q2 : 4096 < T.size
    · rw [if_pos q2] at hF
      have HF := Lib.hid hF
      clear hF
      go_wp2_with (go_at_call 50; refine hp.mono ?_; rintro e w2 ⟨rfl, hcp⟩)
      go_ret2
      exact ⟨by rw [HF.out]; rfl, (hc0.trans hc1).trans hcp⟩
    · rw [if_neg q2] at hF
      have HF := Lib.hid hF
      clear hF
      go_wp2_with (go_at_call 50; refine hp.mono ?_; rintro e w2 ⟨rfl, hcp⟩)
      go_ret2
      exact ⟨by rw [HF.out]; rfl, (hc0.trans hc1).trans hcp⟩
  · rw [if_pos q] at hF
    have e1 : (e0 != 0) = true := by simpa using q
    have HF := Lib.hid hF
    clear hF hPT hck
    go_wp2
    go_ret2
    exact ⟨by rw [HF.out]; rfl, hc0.trans hc1⟩

/-- how many positions, or why there are none -/
def posP (x : Ex) : Int × Int := if checkP x ≠ 0 then (0, checkP x) else (positionsP x, 0)

set_option maxHeartbeats 1000000 in
set_option maxRecDepth 100000 in
theorem Positions_any (x : Ex) (A : Option Addr) (n c : Nat) (S : Nat → Prop) (w : World) (hl : Sl w S A n c x.l) :
    Calls Tryd.prog 31 #[.agg #[.int .i64 x.k, .int .i64 x.f, .int .i64 x.t, .int .i64 x.a, .int .i64 x.b, .slice A n c]] w
      fun e w' => e = .returned (.tuple #[.int .i64 (posP x).1, .int .i64 (posP x).2]) ∧ Chg No w w' := by
  have hb := Blk.new w 25 #[.int .i64 x.k, .int .i64 x.f, .int .i64 x.t, .int .i64 x.a, .int .i64 x.b, .slice A n c]
  have hc0 : Chg No w (w.alloc (.cells #[.int .i64 x.k, .int .i64 x.f, .int .i64 x.t, .int .i64 x.a, .int .i64 x.b, .slice A n c] 25)) := (Chg.refl _ _).alloc _
  have hck := fun w1 (h : Chg No w w1) => check_any w1 x.k x.f x.t x.a x.b A n c x.l S (hl.chgNo h)
  rw [Ex.eta] at hck
  have hF : posP x = if checkP x ≠ 0 then (0, checkP x) else (positionsP x, 0) := rfl
  have hpr := fun (h : checkP x = 0) w1 (h1 : Sl w1 S A n c x.l) => positions_any _ x.k x.f x.t x.a x.b A n c x.l S w1 (Nat.lt_succ_self _) h1 (by rw [Ex.eta]; exact (checkP_nodes x h).1) (by rw [Ex.eta]; have := (checkP_nodes x h).2.1; omega)
  rw [Ex.eta] at hpr
  obtain ⟨e0, he⟩ : ∃ e, checkP x = e := ⟨_, rfl⟩
  rw [he] at hck hF hpr
  obtain ⟨T, hT⟩ : ∃ T, positionsP x = T := ⟨_, rfl⟩
  rw [hT] at hF hpr
  have HL := Lib.hid hl
  clear hT he
  go_enter Tryd.func31, Tryd.ntmps31
  go_wp2_with fail
  refine (hck _ hc0).mono ?_
  rintro e w1 ⟨rfl, hc1⟩
  have hb1 := hb.chg hc1 id
  have y0 := hb1.cell 0
  have y1 := hb1.cell 1
  have y2 := hb1.cell 2
  have y3 := hb1.cell 3
  have y4 := hb1.cell 4
  have y5 := hb1.cell 5
  simp only [List.getElem?_toArray, List.getElem?_cons_zero, List.getElem?_cons_succ] at y0 y1 y2 y3 y4 y5
  by_cases q : e0 = 0
  · subst q
    rw [if_neg (by simp)] at hF
    have hp := hpr rfl w1 (HL.out.chgNo (hc0.trans hc1))
    have HF := Lib.hid hF
    clear hpr hck hF
    go_wp2_with (go_at_call 55; refine hp.mono ?_; rintro e w2 ⟨rfl, hcp⟩)
    go_ret2
    exact ⟨by rw [HF.out]; rfl, (hc0.trans hc1).trans hcp⟩
  · rw [if_pos q] at hF
    have e1 : (e0 != 0) = true := by simpa using q
    have HF := Lib.hid hF
    clear hF hpr hck
    go_wp2
    go_ret2
    exact ⟨by rw [HF.out]; rfl, hc0.trans hc1⟩

/-- why a pattern over bytes is not asked; 0: it is -/
def askedP (x : Ex) (m : Nat) : Int := if checkP x ≠ 0 then checkP x else if 262144 < m then 2 else 0

set_option maxHeartbeats 1000000 in
set_option maxRecDepth 100000 in
theorem asked_any (x : Ex) (A : Option Addr) (n c : Nat) (S : Nat → Prop) (w : World) (hl : Sl w S A n c x.l) (B : Option Addr) (m cb : Nat) :
    Calls Tryd.prog 56 #[.agg #[.int .i64 x.k, .int .i64 x.f, .int .i64 x.t, .int .i64 x.a, .int .i64 x.b, .slice A n c], .slice B m cb] w
      fun e w' => e = .returned (.int .i64 (askedP x m)) ∧ Chg No w w' := by
  have hb := Blk.new w 25 #[.int .i64 x.k, .int .i64 x.f, .int .i64 x.t, .int .i64 x.a, .int .i64 x.b, .slice A n c]
  have hc0 : Chg No w (w.alloc (.cells #[.int .i64 x.k, .int .i64 x.f, .int .i64 x.t, .int .i64 x.a, .int .i64 x.b, .slice A n c] 25)) := (Chg.refl _ _).alloc _
  have hck := fun w1 (h : Chg No w w1) => check_any w1 x.k x.f x.t x.a x.b A n c x.l S (hl.chgNo h)
  rw [Ex.eta] at hck
  have hF : askedP x m = if checkP x ≠ 0 then checkP x else if 262144 < m then 2 else 0 := rfl
  obtain ⟨e0, he⟩ : ∃ e, checkP x = e := ⟨_, rfl⟩
  rw [he] at hck hF
  clear he hl
  go_enter Tryd.func56, Tryd.ntmps56
  go_wp2_with fail
  refine (hck _ hc0).mono ?_
  rintro e w1 ⟨rfl, hc1⟩
  by_cases q : e0 = 0
  · subst q
    rw [if_neg (by simp)] at hF
    by_cases q2 : 262144 < m
    · rw [if_pos q2] at hF
      have HF := Lib.hid hF
      have q3 : (262144 : Int) < (m : Int) := by omega
      clear hF hck
      go_wp2
      go_ret
      exact ⟨by rw [HF.out]; rfl, hc0.trans hc1⟩
    · rw [if_neg q2] at hF
      have HF := Lib.hid hF
      have q3 : ¬ (262144 : Int) < (m : Int) := by omega
      clear hF hck
      go_wp2
      go_ret
      exact ⟨by rw [HF.out]; rfl, hc0.trans hc1⟩
  · rw [if_pos q] at hF
    have e1 : (e0 != 0) = true := by simpa using q
    have HF := Lib.hid hF
    clear hF hck
    go_wp2
    go_ret
    exact ⟨by rw [HF.out]; rfl, hc0.trans hc1⟩
end Go.Proofs.YticipgjbgcdccaaDoor
