/- math/bits.Mul at this program, laid by the kit's own tool in plain words.
   bytes.Repeat: contract.
   bytes.Compare, and bytes as strings: contracts.
   Package expr: shortest, Shortest: contracts.
   Package expr: shortest: contract.
   Package expr: Shortest; graftref2: less, shortest: contracts.
   graftref2: shortest, Shortest: contracts. -/
import Derived.Shelf.Lays
import Derived.Shelf.Bits.Mul64
import Derived.Test.YticipgjbgcdccaaDoorProg
import Derived.Test.YticipgjbgcdccaaDoorZ11
import Derived.Lib.SlBuf
import Derived.Lib.MakeNoZero
import Derived.Deep.RegionLaw
import Derived.Lib.BytesEntry
import Derived.Laws.BytesArg
import Derived.Deep.RegionHeld3
import Derived.Test.YticipgjbgcdccaaDoorZ9
set_option linter.unusedSimpArgs false
set_option linter.unusedVariables false
namespace Go.Proofs
open Go.Shelf
def Tryd.lays212_ren : Go.Shelf.Ren := ⟨fun | 212 => 125 | 263 => 139 | 264 => 140 | n => n, fun | 46 => 137 | 51 => 147 | 146 => 148 | 53 => 133 | 148 => 150 | n => n, fun | n => n⟩
theorem Tryd.lays212 : Go.Proofs.Lays.n212 Tryd.prog Tryd.lays212_ren := {
  mixed := by kernel_rfl
  f212 := Tryd.func125.trans (congrArg some (by kernel_rfl))
  f263 := Tryd.func139.trans (congrArg some (by kernel_rfl))
  f264 := Tryd.func140.trans (congrArg some (by kernel_rfl))
  t46 := Tryd.underlying137
  a46 := Tryd.isAgg137
  z46 := Tryd.sizeOf137
  v46 := Tryd.zeroValue137
  t51 := Tryd.underlying147
  a51 := Tryd.isAgg147
  z51 := Tryd.sizeOf147
  v51 := Tryd.zeroValue147
  t53 := Tryd.underlying133
  a53 := Tryd.isAgg133
  z53 := Tryd.sizeOf133
  v53 := Tryd.zeroValue133
  t146 := Tryd.underlying148
  a146 := Tryd.isAgg148
  z146 := Tryd.sizeOf148
  v146 := Tryd.zeroValue148
  t148 := Tryd.underlying150
  a148 := Tryd.isAgg150
  z148 := Tryd.sizeOf150
  v148 := Tryd.zeroValue150 }
open Go.RowKit Go.Lib in
/-- math/bits.Mul: "Mul returns the full-width product of x and y": on a machine of 64 bits: Mul64's. (LAID: no walk: one application.) -/
theorem Tryd.bits_Mul (x y : Nat) (hx : x < 18446744073709551616) (hy : y < 18446744073709551616) (w : World) :
    Calls Tryd.prog 125 #[.int .u64 x, .int .u64 y] w fun e w' => e = .returned (.tuple #[.int .u64 ((x * y / 18446744073709551616 : Nat) : Int), .int .u64 ((x * y % 18446744073709551616 : Nat) : Int)]) ∧ w' = w := Any.bits_Mul Tryd.lays212 x y hx hy w
end Go.Proofs
namespace Go.Proofs.YticipgjbgcdccaaDoor
open Go.RowKit

/-- block h is the call's own: its first cells hold acc -/
structure BufN (w0 w : World) (h N : Nat) (acc : List Nat) : Prop where
  chg : Chg No w0 w
  there : ∀ j, j < N → (w.cell? ⟨h, j, none⟩).isSome = true
  free : ∀ j, j < N → w.frozen? ⟨h, j, none⟩ = false
  holds : ∀ (j x : Nat), acc[j]? = some x → w.cell? ⟨h, j, none⟩ = some (.int .u8 (x : Int)) ∧ x < 256
  fits : acc.length ≤ N
theorem Chg.setCells {w0 : World} {h : Nat} (hh : w0.heap.size ≤ h) : ∀ (vs : List Value) (o : Nat) (w : World), Chg No w0 w → Chg No w0 (w.setCells h o vs)
  | [], _, _, hc => hc
  | v :: r, o, w, hc => Chg.setCells hh r (o + 1) (w.setCell ⟨h, o, none⟩ v) (hc.setCell (p := ⟨h, o, none⟩) v fun hl => absurd hl (by simp only; omega))
theorem BufN.byt {w0 w : World} {h N : Nat} {acc : List Nat} (hb : BufN w0 w h N acc) (hne : acc ≠ []) (hN : acc.length = N) (hm : N ≤ 9223372036854775807) : Byt w (some ⟨h, 0, none⟩) N N acc := by
  refine ⟨hN.symm, by omega, hm, fun _ => ⟨h, 0, rfl, ?_, fun i x hi => ?_⟩⟩
  · obtain ⟨x, r, rfl⟩ : ∃ x r, acc = x :: r := by cases acc with | nil => exact absurd rfl hne | cons x r => exact ⟨x, r, rfl⟩
    exact World.block_lt_of_cell? _ _ (hb.holds 0 x rfl).1
  · rw [Nat.zero_add]; exact hb.holds i x hi
/-- 'copy(nb[bp:], ..)', bp: how much is filled -/
theorem copy_onto {w0 wr : World} {h N : Nat} {acc l : List Nat} (hh : w0.heap.size ≤ h) (hb : BufN w0 wr h N acc) (g o m cap D : Nat) (hm : l.length = Nat.min m (N - acc.length)) (hsrc : ∀ (j x : Nat), l[j]? = some x → wr.cell? ⟨g, o + j, none⟩ = some (.int .u8 (x : Int)) ∧ x < 256) (ty : TypeId) :
    ∃ wr', (Builtin.copy_ #[41, 41] ty #[.slice (some ⟨h, acc.length, none⟩) (N - acc.length) D, .slice (some ⟨g, o, none⟩) m cap]).run Tryd.prog wr = .ok (.int .i64 (l.length : Int)) wr' ∧ BufN w0 wr' h N (acc ++ l) := by
  have hml : l.length ≤ N - acc.length := by rw [hm]; exact Nat.min_le_right _ _
  have hf := hb.fits
  have hs5 : (Tryd.prog.info? 5).map (·.size) = some 1 := by kernel_rfl
  have hr := run_copy_cells (P := Tryd.prog) wr 41 41 ty 5 h acc.length (N - acc.length) D ⟨g, o, none⟩ m cap (l.map fun x : Nat => Value.int .u8 (x : Int)) Tryd.underlying41 hs5 (by rw [List.length_map]; exact hm)
    (fun j u hj => by
      rw [List.getElem?_map] at hj
      obtain ⟨x, hx, rfl⟩ := Option.map_eq_some_iff.1 hj
      have e : (⟨g, o, none⟩ : Addr).add j = ⟨g, o + j, none⟩ := by unfold Addr.add; split <;> simp_all
      rw [e]; exact (hsrc j x hx).1)
    (fun j hj => by rw [List.length_map] at hj; exact hb.there _ (by omega)) (fun j hj => by rw [List.length_map] at hj; exact hb.free _ (by omega))
    (fun u hu' => by obtain ⟨x, _, rfl⟩ := List.mem_map.1 hu'; rfl)
  rw [List.length_map] at hr
  refine ⟨_, hr, ?_⟩
  have hin := World.cell?_setCells_in h (l.map fun x : Nat => Value.int .u8 (x : Int)) acc.length wr (fun j hj => by rw [List.length_map] at hj; exact hb.there _ (by omega))
  have hout := World.cell?_setCells_out h (l.map fun x : Nat => Value.int .u8 (x : Int)) acc.length wr
  refine ⟨Chg.setCells hh _ _ _ hb.chg, ?_, ?_, ?_, by rw [List.length_append]; omega⟩
  · intro j hj
    by_cases h1 : acc.length ≤ j ∧ j < acc.length + l.length
    · obtain ⟨d, rfl⟩ : ∃ d, j = acc.length + d := ⟨j - acc.length, by omega⟩
      rw [hin d (by rw [List.length_map]; omega)]
      rfl
    · rw [hout ⟨h, j, none⟩ (fun _ _ => by rw [List.length_map]; show j < _ ∨ _ ≤ j; omega)]
      exact hb.there j hj
  · intro j hj
    rw [World.frozen?_setCells]
    exact hb.free j hj
  · intro j x hx
    by_cases h1 : j < acc.length
    · rw [List.getElem?_append_left h1] at hx
      rw [hout ⟨h, j, none⟩ (fun _ _ => Or.inl h1)]
      exact hb.holds j x hx
    · rw [List.getElem?_append_right (by omega)] at hx
      obtain ⟨d, rfl⟩ : ∃ d, j = acc.length + d := ⟨j - acc.length, by omega⟩
      rw [Nat.add_sub_cancel_left] at hx
      have hd : d < l.length := (List.getElem?_eq_some_iff.1 hx).1
      rw [hin d (by rw [List.length_map]; exact hd)]
      refine ⟨?_, (hsrc d x hx).2⟩
      simp [List.getElem_map, (List.getElem?_eq_some_iff.1 hx).2]

theorem BufN.start (w : World) (cs : Array Value) (e : TypeId) (N q : Nat) (hN : N ≤ cs.size) : BufN w ((w.alloc (.cells cs e)).drewN q) w.heap.size N [] where
  chg := ((Chg.refl No w).alloc _).drewN q
  there := fun j hj => by
    rw [World.cell?_drewN, World.cell?_alloc_mark, Array.getElem?_eq_getElem (by omega)]
    rfl
  free := fun j _ => by
    rw [World.frozen?_drewN]
    have := World.frozen?_alloc_mark w cs e 0 0 j
    rw [this]
    simp
  holds := fun j x hx => by simp at hx
  fits := Nat.zero_le _

theorem BufN.drew {w0 w : World} {h N : Nat} {acc : List Nat} (b : BufN w0 w h N acc) : BufN w0 w.drew h N acc := ⟨b.chg.drew, b.there, b.free, b.holds, b.fits⟩
theorem repsL_add (q m : Nat) (s : List Nat) : repsL (q + m) s = repsL q s ++ repsL m s := by
  induction q with
  | zero => simp [repsL]
  | succ q ih => rw [show q + 1 + m = (q + m) + 1 by omega, repsL_succ, ih, repsL_succ, List.append_assoc]
theorem repsL_get {q m : Nat} {s : List Nat} (h : m ≤ q) {j x : Nat} (hj : (repsL m s)[j]? = some x) : (repsL q s)[j]? = some x := by
  obtain ⟨d, rfl⟩ : ∃ d, q = m + d := ⟨q - m, by omega⟩
  rw [repsL_add, List.getElem?_append_left (List.getElem?_eq_some_iff.1 hj).1]
  exact hj

set_option maxHeartbeats 1600000 in
set_option maxRecDepth 1000000 in
theorem Repeat_any (B : Option Addr) (m cb : Nat) (bs : List Nat) (w : World) (hB : Byt w B m cb bs) (c : Nat) (h1 : 1 ≤ c) (hc : c ≤ 8192) (hn : bs.length * c ≤ 8192) :
    Calls Tryd.prog 101 #[.slice B m cb, .int .i64 c] w fun e w' => ∃ B' n' c', e = .returned (.slice B' n' c') ∧ Byt w' B' n' c' (repsL c bs) ∧ Chg No w w' := by
  obtain ⟨rfl, hcb1, hcb2, hB4⟩ := hB
  have hbl : bs.length ≤ 8192 := Nat.le_trans (Nat.le_mul_of_pos_right _ (by omega)) hn
  have hMul := Tryd.bits_Mul bs.length c (by omega) (by omega) w
  rw [Nat.div_eq_of_lt (by omega : bs.length * c < 18446744073709551616), Nat.mod_eq_of_lt (by omega : bs.length * c < 18446744073709551616)] at hMul
  obtain ⟨N, hN⟩ : ∃ N, bs.length * c = N := ⟨_, rfl⟩
  rw [hN] at hMul hn
  have HN := Lib.hid hN
  have HB4 := Lib.hid hB4
  clear hN hB4
  have k1 : (bs.length : Int) % 18446744073709551616 = bs.length := by omega
  have k2 : (c : Int) % 18446744073709551616 = c := by omega
  go_enter Tryd.func101, Tryd.ntmps101
  by_cases hb0 : bs.length = 0
  · obtain rfl : bs = [] := List.eq_nil_of_length_eq_zero hb0
    have hN0 : N = 0 := by have := HN.out; simpa using this.symm
    subst hN0
    have hMul0 := hMul
    simp only [List.length_nil] at hMul0
    clear hMul
    go_wp2_with (go_at_call 125; go_fit hMul0; rintro e w' ⟨rfl, hw⟩; rw [hw])
    go_ret
    exact ⟨some ⟨w.heap.size, 0, none⟩, 0, 0, rfl, ⟨by simp [repsL], by simp [repsL], by omega, fun h => absurd (by simp [repsL]) h⟩, (Chg.refl _ _).alloc _⟩
  · have hpos : 0 < bs.length := by omega
    have hNL : bs.length ≤ N := by rw [← HN.out]; exact Nat.le_mul_of_pos_right _ (by omega)
    have f0 : ((bs.length : Int) == 0) = false := beq_eq_false_iff_ne.2 (by omega)
    obtain ⟨g, o, rfl, hg, hxs⟩ := HB4.out (by rintro rfl; exact hb0 rfl)
    have HX := Lib.hid hxs
    clear hxs HB4
    obtain ⟨zs, hrunM, hle, _⟩ := Lib.run_makeNoZero (P := Tryd.prog) w #[3] 41 5 Tryd.underlying41 N (by omega)
    have hcall : (callFunc 126 #[.int .i64 (N : Int)]).run Tryd.prog w = .ok (.value (.slice (some ⟨w.heap.size, 0, none⟩) N zs.size)) ((w.alloc (.cells zs 5)).drewN 2) := by
      rw [run_callFunc_extern Tryd.func126 (by kernel_rfl) (by kernel_rfl) (by kernel_rfl) (e := Extern.BytealgMakeNoZero.makeNoZero #[3] #[41]) (by kernel_rfl), hrunM]
      rfl
    clear hrunM
    have i0 : (0 : Int) ≤ (N : Int) := by omega
    have i1 : (N : Int) ≤ (zs.size : Int) := by omega
    have B0 := BufN.start w zs 5 N 2 hle
    obtain ⟨w1, hr1, B1⟩ := copy_onto (l := bs) (Nat.le_refl _) B0 g o bs.length cb N (by show bs.length = min bs.length (N - 0); omega) (fun j x hj => ⟨(B0.chg.below.cell hg).trans (HX.out j x hj).1, (HX.out j x hj).2⟩) 3
    rw [List.nil_append] at B1
    simp only [List.length_nil, Nat.sub_zero] at hr1
    go_wp2_with (first | (go_at_call 125; go_fit hMul; rintro e w' ⟨rfl, hw⟩; rw [hw]) | (at_builtin; refine Lib.wpList_copy_run _ rfl _ _ 41 41 rfl _ _ rfl rfl hr1 ?_))
    have HB1 := Lib.hid B1
    clear B1 B0 hr1 hcall hMul
    go_loopw [10] (fun v10 wr => ∃ (acc : List Nat) (q : Nat), v10 = .int .i64 (acc.length : Int) ∧ acc.length ≤ N ∧ 0 < acc.length ∧ Hid (1 ≤ q ∧ q ≤ c ∧ acc = repsL q bs) ∧ Hid (BufN w wr w.heap.size N acc)) (fun v _ => N - (intOf v).toNat)
    case atStart => exact ⟨bs, 1, rfl, hNL, hpos, Lib.hid ⟨Nat.le_refl _, h1, by simp [repsL]⟩, HB1⟩
    case round =>
      obtain ⟨acc, q, rfl, haN, ha0, HQ, HBR⟩ := hrel
      have hlen : acc.length = q * bs.length := by rw [HQ.out.2.2, repsL_len]
      have hNc : N = c * bs.length := by rw [← HN.out, Nat.mul_comm]
      by_cases hlt : acc.length < N
      · have hlt' : (acc.length : Int) < (N : Int) := by omega
        have hqc : q < c := by
          rcases Nat.lt_or_ge q c with h | h
          · exact h
          · have := Nat.mul_le_mul_right bs.length h; omega
        obtain ⟨m, hm⟩ : ∃ m, min q (c - q) = m := ⟨_, rfl⟩
        have hm1 : 1 ≤ m ∧ m ≤ q ∧ q + m ≤ c := by have := HQ.out.1; omega
        have hml : (repsL m bs).length = Nat.min acc.length (N - acc.length) := by
          rw [repsL_len, hlen, hNc, ← Nat.sub_mul]
          show m * bs.length = min (q * bs.length) ((c - q) * bs.length)
          rw [Nat.mul_min_mul_right, hm]
        have hml2 : (repsL m bs).length = min acc.length (N - acc.length) := hml
        have hmp : 0 < (repsL m bs).length := by rw [repsL_len]; exact Nat.mul_pos (by omega) hpos
        obtain ⟨w2, hr2, B2⟩ := copy_onto (l := repsL m bs) (Nat.le_refl _) HBR.out.drew w.heap.size 0 acc.length N (N - acc.length) hml (fun j x hj => by
          rw [Nat.zero_add]
          exact HBR.out.drew.holds j x (by rw [HQ.out.2.2]; exact repsL_get hm1.2.1 hj)) 3
        obtain ⟨l, hl⟩ : ∃ l, repsL m bs = l := ⟨_, rfl⟩
        rw [hl] at hr2 B2 hml2 hmp
        have HL := Lib.hid hl
        have HB2 := Lib.hid B2
        have hlN : acc.length + l.length ≤ N := by omega
        have hsl1 : ∀ W, (Instr.slice 41 (.slice (some ⟨w.heap.size, 0, none⟩) N N) (some (.int .i64 (acc.length : Int))) none none).run Tryd.prog W = .ok (.slice (some ⟨w.heap.size, acc.length, none⟩) (N - acc.length) (N - acc.length)) W := fun W => by
          have := Lib.run_slice_tailV (P := Tryd.prog) W 41 5 Tryd.underlying41 Tryd.sizeOf5 w.heap.size N acc.length haN
          unfold Lib.tailV at this
          rwa [if_neg (by omega)] at this
        have hqm := hm1.2.2
        clear hl B2 hml hml2 hlen hNc hm hm1 hqc
        have hmin : min (acc.length : Int) (N : Int) = acc.length := by omega
        go_wp2_with fail
        clear hmin
        go_region
        go_wp2
        refine ⟨⟨acc ++ l, q + m, by rw [List.length_append]; go_num, by rw [List.length_append]; exact hlN, by rw [List.length_append]; omega, Lib.hid ?_, HB2⟩, by simp [intOf]; omega⟩
        obtain ⟨q1, q2, q3⟩ := HQ.out
        exact ⟨by omega, hqm, by rw [repsL_add, ← q3, HL.out]⟩
      · obtain rfl : N = acc.length := by omega
        have hqc : q = c := by
          have h3 : q * bs.length = c * bs.length := by omega
          exact Nat.eq_of_mul_eq_mul_right hpos h3
        have hfin := HBR.out
        have hacc := HQ.out.2.2
        rw [hqc] at hacc
        have HA := Lib.hid hacc
        have HF := Lib.hid hfin
        clear hacc hfin hlen hNc hqc
        go_wp2
        go_ret
        refine ⟨_, _, _, rfl, ?_, HF.out.chg⟩
        have := HF.out.byt (by intro e; rw [e] at ha0; simp at ha0) rfl (by omega)
        rw [← HA.out]; exact this
end Go.Proofs.YticipgjbgcdccaaDoor
namespace Go.Proofs.YticipgjbgcdccaaDoor
open Go.RowKit

def toU (bs : List Nat) : List UInt8 := bs.map UInt8.ofNat
def baB (bs : List Nat) : ByteArray := ⟨(toU bs).toArray⟩
def Sm8 (bs : List Nat) : Prop := ∀ x ∈ bs, x < 256
theorem Byt.sm8 {w : World} {B : Option Addr} {m cb : Nat} {bs : List Nat} (h : Byt w B m cb bs) : Sm8 bs := by
  intro x hx
  obtain ⟨i, hi, rfl⟩ := List.getElem_of_mem hx
  obtain ⟨g, o, _, _, hxs⟩ := h.2.2.2 (by intro e; rw [e] at hi; simp at hi)
  exact (hxs i _ (List.getElem?_eq_getElem hi)).2
theorem u8_lt {x y : Nat} (hx : x < 256) (hy : y < 256) : (UInt8.ofNat x < UInt8.ofNat y) ↔ x < y := by
  rw [UInt8.lt_iff_toNat_lt, UInt8.toNat_ofNat_of_lt' hx, UInt8.toNat_ofNat_of_lt' hy]
theorem u8_eq {x y : Nat} (hx : x < 256) (hy : y < 256) : (UInt8.ofNat x = UInt8.ofNat y) ↔ x = y := by
  rw [← UInt8.toNat_inj, UInt8.toNat_ofNat_of_lt' hx, UInt8.toNat_ofNat_of_lt' hy]
theorem bytesLess_toU : ∀ (a b : List Nat), Sm8 a → Sm8 b → Op.bytesLess (toU a) (toU b) = ltB a b
  | [], [], _, _ => rfl
  | [], _ :: _, _, _ => rfl
  | _ :: _, [], _, _ => rfl
  | x :: a, y :: b, ha, hb => by
    have ih := bytesLess_toU a b (fun z hz => ha z (by simp [hz])) fun z hz => hb z (by simp [hz])
    have hx := ha x (by simp)
    have hy := hb y (by simp)
    simp only [toU, List.map_cons, Op.bytesLess, ltB] at ih ⊢
    rw [ih]
    congr 1
    · rw [Bool.eq_iff_iff, decide_eq_true_eq, decide_eq_true_eq]; exact u8_lt hx hy
    · congr 1
      rw [Bool.eq_iff_iff, beq_iff_eq, decide_eq_true_eq]; exact u8_eq hx hy
theorem compare_toU : ∀ (a b : List Nat), Sm8 a → Sm8 b → (Lib.compareBytes (toU a) (toU b) < 0 ↔ ltB a b = true)
  | [], [], _, _ => by simp [toU, Lib.compareBytes, ltB]
  | [], _ :: _, _, _ => by simp [toU, Lib.compareBytes, ltB]
  | _ :: _, [], _, _ => by simp [toU, Lib.compareBytes, ltB]
  | x :: a, y :: b, ha, hb => by
    have ih := compare_toU a b (fun z hz => ha z (by simp [hz])) fun z hz => hb z (by simp [hz])
    have hx := ha x (by simp)
    have hy := hb y (by simp)
    simp only [toU, List.map_cons, Lib.compareBytes, ltB, Bool.or_eq_true, Bool.and_eq_true, decide_eq_true_eq] at ih ⊢
    by_cases h1 : x < y
    · rw [if_pos ((u8_lt hx hy).2 h1)]; simp [h1]
    · rw [if_neg (fun h => h1 ((u8_lt hx hy).1 h))]
      by_cases h2 : y < x
      · rw [if_pos ((u8_lt hy hx).2 h2)]
        exact ⟨fun h => absurd h (by omega), fun h => by omega⟩
      · rw [if_neg (fun h => h2 ((u8_lt hy hx).1 h)), ih]
        exact ⟨fun h => .inr ⟨by omega, h⟩, fun h => h.elim (fun h => absurd h h1) And.right⟩
theorem toU_eq {a b : List Nat} (ha : Sm8 a) (hb : Sm8 b) : toU a = toU b ↔ a = b := by
  constructor
  · intro h
    induction a generalizing b with
    | nil => cases b with | nil => rfl | cons y b => simp [toU] at h
    | cons x a ih =>
      cases b with
      | nil => simp [toU] at h
      | cons y b =>
        simp only [toU, List.map_cons, List.cons.injEq] at h
        rw [(u8_eq (ha x (by simp)) (hb y (by simp))).1 h.1, ih (fun z hz => ha z (by simp [hz])) (fun z hz => hb z (by simp [hz])) h.2]
  · rintro rfl; rfl

theorem run_bytesOf {w : World} {B : Option Addr} {m cb : Nat} {bs : List Nat} (h : Byt w B m cb bs) : (Extern.Bytes.bytesOf (.slice B m cb)).run Tryd.prog w = .ok (baB bs) w := by
  obtain ⟨rfl, _, _, h4⟩ := h
  by_cases hne : bs = []
  · subst hne
    cases B with
    | none => simp [Extern.Bytes.bytesOf]; rfl
    | some a => simp [Extern.Bytes.bytesOf, Extern.Bytes.loadBytes]; rfl
  · obtain ⟨g, o, rfl, hg, hxs⟩ := h4 hne
    have hl := Lib.run_loadBytesX (P := Tryd.prog) w (bs.map fun x : Nat => (x : Int)) ⟨g, o, none⟩ .empty (fun j x hj => by
      rw [List.getElem?_map] at hj
      obtain ⟨y, hy, rfl⟩ := Option.map_eq_some_iff.1 hj
      have e : (⟨g, o, none⟩ : Addr).add j = ⟨g, o + j, none⟩ := by unfold Addr.add; split <;> simp_all
      rw [e]; exact (hxs j y hy).1)
    rw [List.length_map] at hl
    show (Extern.Bytes.loadBytes ⟨g, o, none⟩ bs.length .empty).run Tryd.prog w = _
    rw [hl]
    congr 1
    apply ByteArray.ext
    show (#[] : Array UInt8) ++ (Lib.bytesOf (bs.map fun x : Nat => (x : Int))).toArray = (toU bs).toArray
    simp [Lib.bytesOf, toU]
set_option maxRecDepth 100000 in
theorem Compare_any {A B : Option Addr} {m n ca cb : Nat} {as_ bs : List Nat} (w : World) (hA : Byt w A m ca as_) (hB : Byt w B n cb bs) :
    Calls Tryd.prog 102 #[.slice A m ca, .slice B n cb] w fun e w' => e = .returned (.int .i64 (Lib.compareBytes (toU as_) (toU bs))) ∧ w = w' := by
  have hcall : (callFunc 127 #[.slice A m ca, .slice B n cb]).run Tryd.prog w = .ok (.value (.int .i64 (Lib.compareBytes (toU as_) (toU bs)))) w := by
    rw [run_callFunc_extern Tryd.func127 (by kernel_rfl) (by kernel_rfl) (by kernel_rfl) (e := Extern.BytealgCompare.compare) (by kernel_rfl)]
    have h : (Extern.BytealgCompare.compare #[.slice A m ca, .slice B n cb]).run Tryd.prog w = .ok (.int .i64 (Lib.compareBytes (toU as_) (toU bs))) w := by
      change Sem.run Tryd.prog (do pure (goInt (Extern.BytealgCompare.cmp (← Extern.Bytes.bytesOf (.slice A m ca)) (← Extern.Bytes.bytesOf (.slice B n cb))))) w = _
      simp only [Sem.run_bind, Sem.run_pure, Result.andThen, run_bytesOf hA, run_bytesOf hB]
      rw [Lib.cmp_eq]
      rfl
    rw [h]; rfl
  go_enter Tryd.func102, Tryd.ntmps102
  go_wp2
  go_ret
  exact ⟨rfl, rfl⟩
/-- 'string(b)' -/
theorem conv_byt {w : World} {B : Option Addr} {m cb : Nat} {bs : List Nat} (h : Byt w B m cb bs) : (convert 41 9 (.slice B m cb)).run Tryd.prog w = .ok (.string (baB bs)) w := by
  obtain ⟨rfl, _, _, h4⟩ := h
  by_cases hne : bs = []
  · subst hne
    show (convert 41 9 (.slice B 0 cb)).run Tryd.prog w = _
    rw [run_convert_bytes_string (P := Tryd.prog) w 41 9 5 _ 0 cb Tryd.underlying41 Tryd.underlying5 Tryd.underlying9]
    cases B <;> simp [Conv.bytesToString, loadCells]
    all_goals rfl
  · obtain ⟨g, o, rfl, hg, hxs⟩ := h4 hne
    have hr := run_convert_bytes_back (P := Tryd.prog) w 41 9 5 ⟨g, o, none⟩ cb (toU bs) Tryd.underlying41 Tryd.underlying5 Tryd.underlying9 fun j hj => by
      have hj' : j < bs.length := by simpa [toU] using hj
      have e : (⟨g, o, none⟩ : Addr).add j = ⟨g, o + j, none⟩ := by unfold Addr.add; split <;> simp_all
      obtain ⟨h1, h2⟩ := hxs j bs[j] (List.getElem?_eq_getElem hj')
      rw [e, h1]
      simp only [toU, List.getElem_map]
      rw [UInt8.toNat_ofNat_of_lt' h2]
    have hl : (toU bs).length = bs.length := by simp [toU]
    rw [hl] at hr
    exact hr
end Go.Proofs.YticipgjbgcdccaaDoor
namespace Go.Proofs.YticipgjbgcdccaaDoor
open Go.RowKit

/-- the value v owns the bytes bs, in a block from base on -/
def OwN (w : World) (base : Nat) (v : Value) (bs : List Nat) : Prop := w.ownsRow base 5 1 v bs.length (bs.map fun x : Nat => Value.int .u8 (x : Int)) ∧ Sm8 bs
namespace OwN
variable {w w' : World} {base : Nat} {v : Value} {bs : List Nat}
theorem nil (w : World) (base : Nat) : OwN w base (.slice none 0 0) [] := ⟨⟨rfl, .inl ⟨rfl, rfl⟩⟩, fun x hx => by simp at hx⟩
theorem lt (h : OwN w base v bs) : ∀ k, v.ownBlock = some k → base ≤ k ∧ k < w.heap.size := by
  obtain ⟨⟨_, h⟩, _⟩ := h
  intro k hk
  rcases h with ⟨rfl, _⟩ | ⟨g, cap, cur, rfl, hb, hh, _⟩
  · simp [Value.ownBlock] at hk
  · have : g = k := by simpa [Value.ownBlock] using hk
    subst this
    refine ⟨hb, ?_⟩
    rcases Nat.lt_or_ge g w.heap.size with q | q
    · exact q
    · rw [Array.getElem?_eq_none q] at hh; cases hh
theorem chg {S : Nat → Prop} (h : OwN w base v bs) (hc : Chg S w w') (hS : ∀ k, v.ownBlock = some k → ¬ S k) : OwN w' base v bs := by
  have hlt := h.lt
  obtain ⟨⟨h1, h2⟩, h3⟩ := h
  refine ⟨⟨h1, ?_⟩, h3⟩
  rcases h2 with h2 | ⟨g, cap, cur, rfl, hb, hh, hr⟩
  · exact .inl h2
  · exact .inr ⟨g, cap, cur, rfl, hb, (hc.block g (hlt g rfl).2 (hS g rfl)).trans hh, hr⟩
theorem chgNo (h : OwN w base v bs) (hc : Chg No w w') : OwN w' base v bs := h.chg hc fun _ _ e => e
theorem byt (h : OwN w base v bs) (hl : bs.length ≤ 1000000) : ∃ B m cb, v = .slice B m cb ∧ Byt w B m cb bs := by
  obtain ⟨⟨h1, h2⟩, h3⟩ := h
  rcases h2 with ⟨rfl, h2⟩ | ⟨g, cap, cur, rfl, hb, hh, h4, h5, h6, h7⟩
  · have : bs = [] := List.eq_nil_of_length_eq_zero h2
    subst this
    exact ⟨none, 0, 0, rfl, rfl, Nat.le_refl _, by omega, fun h => absurd rfl h⟩
  · have h5' : cap ≤ 9223372036854775807 := by simpa [maxLen] using h5
    refine ⟨_, _, _, rfl, rfl, h4, h5', fun hne => ⟨g, 0, rfl, ?_, fun i x hx => ⟨?_, h3 x (List.mem_of_getElem? hx)⟩⟩⟩
    · rcases Nat.lt_or_ge g w.heap.size with q | q
      · exact q
      · rw [Array.getElem?_eq_none q] at hh; cases hh
    · rw [Nat.zero_add, cell_of_row w g i cur _ _ hh]
      have hu : (bs.map fun x : Nat => Value.int .u8 (x : Int))[i]? = some (.int .u8 (x : Int)) := by rw [List.getElem?_map, hx]; rfl
      rw [← h7, List.getElem?_take] at hu
      split at hu
      · simpa using hu
      · cases hu
end OwN

set_option maxRecDepth 100000 in
/-- 'out = append(out, b...)' -/
theorem wpList_append_byt {w : World} {ops : Array Oper} {rest : List Oper} {o : Oper} {a : Act} {Q : Exit → Act → World → Prop} (hgd : o.guard = none) (sl x : Operand)
    (ho : o.op = .call { callee := .builtin .append, args := #[sl, x], argTypes := #[41, 41] }) (base : Nat) (v : Value) (s t : List Nat) (hs : a.eval sl = v) (hown : OwN w base v s) (B : Option Addr) (m cb : Nat)
    (hx : a.eval x = .slice B m cb) (hb : Byt w B m cb t) (hlen : s.length + t.length ≤ 1000000) (hbase : base ≤ w.heap.size)
    (h : ∀ v' w', OwN w' base v' (s ++ t) → w.grownBy w' v.ownBlock → wpList Tryd.prog ops Q rest (a.put o.dst v') w') : wpList Tryd.prog ops Q (o :: rest) a w := by
  obtain ⟨i, hi, h1, h2, h3⟩ := info_u8_parts
  have hown0 := hown
  have hsmb := hb.sm8
  obtain ⟨hown, hsm⟩ := hown
  have hsm2 : Sm8 (s ++ t) := fun z hz => by
    rw [List.mem_append] at hz
    rcases hz with hz | hz
    · exact hsm z hz
    · exact hsmb z hz
  obtain ⟨rfl, b1, b2, b3⟩ := hb
  by_cases ht : t = []
  · subst ht
    cases B with
    | none =>
      refine wpList_plain hgd fun K hK => ?_
      have hr : ∀ ty, (Builtin.append_ #[41, 41] ty #[v, .slice none 0 cb]).run Tryd.prog w = .ok v w := by
        intro ty
        rcases hown.2 with ⟨rfl, _⟩ | ⟨g, cap, cur, rfl, _, _, hnc, _⟩
        · simp [Builtin.append_, run_underlying Tryd.underlying41, sizeOf, typeInfo, hi, Builtin.lenOf, Builtin.firstCells]
        · simp [Builtin.append_, run_underlying Tryd.underlying41, sizeOf, typeInfo, hi, Builtin.lenOf, Builtin.firstCells, hnc, storeCells]
      unfold Oper.wp execOp
      have hx' : a.eval x = .slice none 0 cb := hx
      simp only [ho, resolve, invoke, builtin, Sem.run_bind, Sem.run_pure, Result.andThen_ok, List.map_toArray, List.map_cons, List.map_nil, hs, hx', hr]
      exact hK _ _ (h v w (by simpa using hown0) ⟨rfl, rfl, rfl, Nat.le_refl _, fun _ _ _ => rfl⟩)
    | some ad =>
      refine wpList_append_own_at _ hgd sl x _ ho base 5 i _ 1 1 rfl hi h1 h2 h3 rfl (by decide) v s.length _ hs hown ad 0 cb [] hx rfl (fun j u hu => by simp at hu) (by simp) (by unfold maxLen; omega) (by omega) hbase ?_
      intro v' w' h4 h5 _ _
      exact h v' w' ⟨by simpa using h4, hsm2⟩ h5
  · obtain ⟨g, o', rfl, hg, hxs⟩ := b3 ht
    refine wpList_append_own_at _ hgd sl x _ ho base 5 i _ 1 1 rfl hi h1 h2 h3 rfl (by decide) v s.length _ hs hown ⟨g, o', none⟩ t.length cb (t.map fun x : Nat => Value.int .u8 (x : Int)) hx (by simp) ?_ ?_ (by unfold maxLen; omega) (by omega) hbase ?_
    · intro j u hu
      rw [List.getElem?_map] at hu
      obtain ⟨y, hy, rfl⟩ := Option.map_eq_some_iff.1 hu
      have e : (⟨g, o', none⟩ : Addr).add j = ⟨g, o' + j, none⟩ := by unfold Addr.add; split <;> simp_all
      rw [e]; exact (hxs j y hy).1
    · intro u hu
      obtain ⟨y, _, rfl⟩ := List.mem_map.1 hu; rfl
    · intro v' w' h4 h5 _ _
      refine h v' w' ⟨?_, hsm2⟩ h5
      rw [List.length_append, List.map_append]
      exact h4

theorem leastP_snoc (ss : List (List Nat)) (s : List Nat) : leastP (ss ++ [s]) = if ss = [] ∨ lessB s (leastP ss) = true then s else leastP ss := by
  cases ss with
  | nil => simp [leastP]
  | cons t ss =>
    simp only [List.cons_append, leastP, List.foldl_append, List.foldl_cons, List.foldl_nil]
    simp
end Go.Proofs.YticipgjbgcdccaaDoor
namespace Go.Proofs.YticipgjbgcdccaaDoor
open Go.RowKit

/-- what shortest promises of a pattern -/
def ShC (x : Ex) : Prop := ∀ (A : Option Addr) (n c : Nat) (S : Nat → Prop) (w : World), Sl w S A n c x.l →
  Calls Tryd.prog 67 #[.agg #[.int .i64 x.k, .int .i64 x.f, .int .i64 x.t, .int .i64 x.a, .int .i64 x.b, .slice A n c]] w
    fun e w' => ∃ B m cb, e = .returned (.slice B m cb) ∧ Byt w' B m cb (shortP x) ∧ Chg No w w'

theorem shortP_rep {f t a b : Int} {y : Ex} : shortP (.mk 4 f t a b [y]) = if 0 < a then repsL a.toNat (shortP y) else [] := by
  conv => lhs; unfold shortP
  rw [if_neg (by omega), if_pos rfl, shortsP_eq]; rfl

set_option maxHeartbeats 4000000 in
set_option maxRecDepth 100000 in
theorem shortest_rep (f t a b : Int) (l : List Ex) (hR : rightP (.mk 4 f t a b l) = true) (hp : positionsP (.mk 4 f t a b l) ≤ 4096) (IHP : ∀ y ∈ l, positionsP y ≤ 4096 → ShC y) : ShC (.mk 4 f t a b l) := by
  intro A n c S w hl
  obtain ⟨rfl, hc1, hc2⟩ : n = l.length ∧ l.length ≤ c ∧ c ≤ 9223372036854775807 := ⟨hl.1, by have := hl.2.1; have := hl.1; simp only [Ex.l] at *; omega, hl.2.2.1⟩
  simp only [Ex.k, Ex.f, Ex.t, Ex.a, Ex.b, Ex.l] at hl ⊢
  have hlen := shortP_len _ _ (Nat.lt_succ_self _) hR hp
  obtain ⟨hh, hr⟩ := rightP_head hR
  have hab : 0 ≤ a ∧ a ≤ 1000 ∧ l.length = 1 ∧ (b < 0 ∨ a ≤ b) := by simp [headOk] at hh; omega
  obtain ⟨y, rfl⟩ : ∃ y, l = [y] := List.length_eq_one_iff.1 hab.2.2.1
  rw [shortP_rep] at hlen ⊢
  have hb := Blk.new w 25 #[.int .i64 4, .int .i64 f, .int .i64 t, .int .i64 a, .int .i64 b, .slice A [y].length c]
  have hc0 : Chg No w (w.alloc (.cells #[.int .i64 4, .int .i64 f, .int .i64 t, .int .i64 a, .int .i64 b, .slice A [y].length c] 25)) := (Chg.refl _ _).alloc _
  simp only [List.length_cons, List.length_nil, Nat.zero_add] at hl hb hc0 hc1
  obtain ⟨y0, y1, y2, y3, y4, y5⟩ := ex_cells hb
  by_cases q : 0 < a
  · rw [if_pos q] at hlen ⊢
    have hp1 : positionsP y ≤ 4096 := by
      have hP : positionsP (.mk 4 f t a b [y]) = if (4 : Int) = 1 then 1 else min (if (4 : Int) = 4 then positionsS [y] * copiesP a b else positionsS [y]) 4097 := by conv => lhs; unfold positionsP
      rw [hP, if_neg (by omega), if_pos rfl] at hp
      simp only [positionsS, Int.add_zero] at hp
      have hy0 := (positionsP_le y (hr y (by simp))).1
      have hac : a ≤ copiesP a b := by unfold copiesP; split <;> omega
      have h1 : positionsP y * 1 ≤ positionsP y * copiesP a b := Int.mul_le_mul_of_nonneg_left (by omega) hy0
      omega
    have IH := IHP y (by simp) hp1
    obtain ⟨g, o, A', c', rfl, hS, x0, x1, x2, x3, x4, x5, hx⟩ := (hl.chgNo hc0).at_ 0 (by simp)
    simp only [List.getElem_cons_zero, Nat.zero_mul, Nat.add_zero] at x0 x1 x2 x3 x4 x5 hx
    obtain ⟨m, rfl⟩ : ∃ m : Nat, a = (m : Int) := ⟨a.toNat, by omega⟩
    have hm1 : 1 ≤ m := by omega
    have hm2 : m ≤ 8192 := by omega
    have hml : (shortP y).length * m ≤ 8192 := by
      have h1 := hlen.1
      have e : (m : Int).toNat = m := rfl
      rw [e, repsL_len, Nat.mul_comm] at h1
      have h2 : positionsP (.mk 4 f t m b [y]) ≤ 4096 := hp
      omega
    obtain ⟨R, hR'⟩ : ∃ R, repsL (m : Int).toNat (shortP y) = R := ⟨_, rfl⟩
    have hRR : repsL m (shortP y) = R := hR'
    rw [hR']
    have HRR := Lib.hid hRR
    have HML := Lib.hid hml
    clear hlen hR' hRR hml hp hR hh hr IHP
    go_enter Tryd.func67, Tryd.ntmps67
    go_wp2_with fail
    clear hb hl y0 y1 y2 y4
    generalize w.alloc (.cells #[.int .i64 4, .int .i64 f, .int .i64 t, .int .i64 (m : Int), .int .i64 b, .slice (some ⟨g, o, none⟩) 1 c] 25) = W0 at *
    have KS : Hid (∀ w', Chg No W0 w' → Chg No W0 w' ∧ w'.cell? ⟨w.heap.size, 3, none⟩ = some (.int .i64 (m : Int)) ∧ w'.cell? ⟨w.heap.size, 5, none⟩ = some (.slice (some ⟨g, o, none⟩) 1 c) ∧
        w'.cell? ⟨g, o, none⟩ = some (.int .i64 y.k) ∧ w'.cell? ⟨g, o + 1, none⟩ = some (.int .i64 y.f) ∧ w'.cell? ⟨g, o + 2, none⟩ = some (.int .i64 y.t) ∧ w'.cell? ⟨g, o + 3, none⟩ = some (.int .i64 y.a) ∧ w'.cell? ⟨g, o + 4, none⟩ = some (.int .i64 y.b) ∧ w'.cell? ⟨g, o + 5, none⟩ = some (.slice A' y.l.length c')) := Lib.hid fun w' h => by
      have k : ∀ (p : Addr) (v : Value), W0.cell? p = some v → w'.cell? p = some v := fun p v hp => (h.below.cell (World.block_lt_of_cell? _ p hp)).trans hp
      exact ⟨h, k _ _ y3, k _ _ y5, k _ _ x0, k _ _ x1, k _ _ x2, k _ _ x3, k _ _ x4, k _ _ x5⟩
    have hD : Chg No W0 W0.drew := (Chg.refl No W0).drew
    have HC := IH A' y.l.length c' S W0.drew (hx.chgNo hD)
    clear IH y3 y5 x0 x1 x2 x3 x4 x5 hx
    go_region_held3 (fun w' => Chg No W0 w' ∧ w'.cell? ⟨w.heap.size, 3, none⟩ = some (.int .i64 (m : Int)) ∧ w'.cell? ⟨w.heap.size, 5, none⟩ = some (.slice (some ⟨g, o, none⟩) 1 c) ∧ w'.cell? ⟨g, o, none⟩ = some (.int .i64 y.k) ∧ w'.cell? ⟨g, o + 1, none⟩ = some (.int .i64 y.f) ∧ w'.cell? ⟨g, o + 2, none⟩ = some (.int .i64 y.t) ∧ w'.cell? ⟨g, o + 3, none⟩ = some (.int .i64 y.a) ∧ w'.cell? ⟨g, o + 4, none⟩ = some (.int .i64 y.b) ∧ w'.cell? ⟨g, o + 5, none⟩ = some (.slice A' y.l.length c')) ((refine KS.out _ ?_; with_reducible assumption)) (first | (go_at_call 67; (with_reducible refine HC.mono ?_); rintro e w2 ⟨B2, m2, cb2, rfl, hB2, hC2⟩; have hK2 := hD.trans hC2) | (go_at_call 101; (with_reducible refine (Repeat_any B2 m2 cb2 _ w2 hB2 m hm1 hm2 HML.out).mono ?_); rintro e w3 ⟨B3, m3, cb3, rfl, hB3, hC3⟩; have hK3 := hK2.trans hC3))
    go_wp2
    go_ret
    rw [HRR.out] at hB3
    exact ⟨_, _, _, rfl, hB3, hc0.trans hK3⟩
  · rw [if_neg q]
    have q0 : ¬ (0 < a) := q
    go_enter Tryd.func67, Tryd.ntmps67
    go_wp2
    go_ret
    exact ⟨none, 0, 0, rfl, ⟨rfl, Nat.le_refl _, by omega, fun h => absurd rfl h⟩, hc0⟩

theorem take_flatten_len (ss : List (List Nat)) (i : Nat) : (ss.take i).flatten.length ≤ ss.flatten.length := by
  have h : ss.flatten = (ss.take i).flatten ++ (ss.drop i).flatten := by rw [← List.flatten_append, List.take_append_drop]
  rw [h, List.length_append]; omega
theorem lessB_parts (b o : List Nat) : lessB b o = (decide (b.length < o.length) || (decide (b.length = o.length) && ltB b o)) := rfl

set_option maxHeartbeats 4000000 in
set_option maxRecDepth 100000 in
theorem shortest_any : ∀ (N : Nat) (x : Ex), SizeOf.sizeOf x < N → rightP x = true → positionsP x ≤ 4096 → ShC x := by
  intro N
  induction N with
  | zero => intro _ h; omega
  | succ N ih =>
    intro x hN hR hp
    obtain ⟨k, f, t, a, b, l⟩ := x
    obtain ⟨hh, hr⟩ := rightP_head hR
    have IH : ∀ y ∈ l, positionsP y ≤ 4096 → ShC y := fun y hy => ih y (by have := Ex.lt_of_mem hy k f t a b; omega) (hr y hy)
    by_cases k4 : k = 4
    · subst k4
      exact shortest_rep f t a b l hR hp IH
    intro A n c S w hl
    obtain ⟨rfl, hc1, hc2⟩ : n = l.length ∧ l.length ≤ c ∧ c ≤ 9223372036854775807 := ⟨hl.1, by have := hl.2.1; have := hl.1; simp only [Ex.l] at *; omega, hl.2.2.1⟩
    simp only [Ex.k, Ex.f, Ex.t, Ex.a, Ex.b, Ex.l] at hl ⊢
    have hb := Blk.new w 25 #[.int .i64 k, .int .i64 f, .int .i64 t, .int .i64 a, .int .i64 b, .slice A l.length c]
    have hc0 : Chg No w (w.alloc (.cells #[.int .i64 k, .int .i64 f, .int .i64 t, .int .i64 a, .int .i64 b, .slice A l.length c] 25)) := (Chg.refl _ _).alloc _
    obtain ⟨y0, y1, y2, y3, y4, y5⟩ := ex_cells hb
    by_cases k1 : k = 1
    · subst k1
      have hf : 0 ≤ f ∧ f ≤ 255 := by simp [headOk] at hh; omega
      obtain ⟨m, rfl⟩ : ∃ m : Nat, f = (m : Int) := ⟨f.toNat, by omega⟩
      have hm : (m : Int) % 256 = m := by omega
      have hF : shortP (.mk 1 m t a b l) = [m] := by unfold shortP; rw [if_pos rfl]; rfl
      have HF := Lib.hid hF
      clear hF ih IH hh hr hp hR
      go_enter Tryd.func67, Tryd.ntmps67
      go_wp2
      go_ret
      rw [HF.out]
      refine ⟨_, _, _, rfl, ⟨rfl, by simp, by omega, fun _ => ⟨_, 0, rfl, (Blk.new' (by simp)).lt, fun i x hi => ?_⟩⟩, hc0.alloc _⟩
      obtain ⟨rfl, rfl⟩ : i = 0 ∧ m = x := by
        cases i with
        | zero => simpa using hi
        | succ i => simp at hi
      refine ⟨?_, by omega⟩
      rw [(Blk.new' (w := w.alloc _) (g := w.heap.size + 1) (by simp)).cell]
      rfl
    have e1 : (k == 1) = false := by simpa using k1
    have e4 : (k == 4) = false := by simpa using k4
    have hP : positionsS l ≤ 4096 := by
      have hP : positionsP (.mk k f t a b l) = if k = 1 then 1 else min (if k = 4 then positionsS l * copiesP a b else positionsS l) 4097 := by conv => lhs; unfold positionsP
      rw [hP, if_neg k1, if_neg k4] at hp
      omega
    have hS : shortP (.mk k f t a b l) = if k = 2 then (l.map shortP).flatten else leastP (l.map shortP) := by
      conv => lhs; unfold shortP
      rw [if_neg k1, if_neg k4, shortsP_eq]
    have hpy : ∀ y ∈ l, positionsP y ≤ 4096 := fun y hy => by have := positionsS_mem l hr y hy; omega
    have hln : ∀ y ∈ l, ((shortP y).length : Int) ≤ positionsP y := fun y hy => (shortP_len _ y (Nat.lt_succ_self _) (hr y hy) (hpy y hy)).1
    have HLn := Lib.hid hln
    have HP := Lib.hid hP
    have HI : Hid (∀ y ∈ l, ShC y) := Lib.hid fun y hy => IH y hy (hpy y hy)
    clear ih IH hh hR hp hpy hln hP
    by_cases k2 : k = 2
    · subst k2
      rw [if_pos rfl] at hS
      have HS := Lib.hid hS
      have htot : (l.map shortP).flatten.length ≤ 4096 := by have := flatten_len l HLn.out; have := HP.out; omega
      clear hS k1 k4
      go_enter Tryd.func67, Tryd.ntmps67
      go_wp2_with fail
      go_loopw [3, 69] (fun v3 v69 wr => ∃ i : Nat, i ≤ l.length ∧ v69 = .int .i64 (i : Int) ∧ OwN wr (w.heap.size + 1) v3 ((l.map shortP).take i).flatten ∧ Chg No w wr) (fun _ v _ => l.length - (intOf v).toNat)
      case atStart => exact ⟨0, Nat.zero_le _, rfl, OwN.nil _ _, hc0⟩
      case round =>
        obtain ⟨i, hi, rfl, hO, hc⟩ := hrel
        by_cases hlt : i < l.length
        · obtain ⟨g, o, A', c', rfl, hSg, x0, x1, x2, x3, x4, x5, hx⟩ := (hl.chgNo hc).at_ i hlt
          have HC := HI.out l[i] (List.getElem_mem hlt) A' l[i].l.length c' S
          have hst : ((l.map shortP).take (i + 1)).flatten = ((l.map shortP).take i).flatten ++ shortP l[i] := by
            rw [List.take_succ_eq_append_getElem (by simpa using hlt), List.flatten_append]; simp
          have hz := take_flatten_len (l.map shortP) (i + 1)
          rw [hst, List.length_append] at hz
          obtain ⟨T, hT⟩ : ∃ T, ((l.map shortP).take i).flatten = T := ⟨_, rfl⟩
          obtain ⟨U, hU⟩ : ∃ U, shortP l[i] = U := ⟨_, rfl⟩
          rw [hT] at hO hst hz
          rw [hU] at hst hz
          have HST := Lib.hid hst
          have HU := Lib.hid hU
          clear hst hT hU
          have hmix : Chg No wr (wr.alloc (.cells #[.int .i64 l[i].k, .int .i64 l[i].f, .int .i64 l[i].t, .int .i64 l[i].a, .int .i64 l[i].b, .slice A' l[i].l.length c'] 25)) := (Chg.refl No wr).alloc _
          have hszw := hc.size
          go_wp2_with fail
          refine (HC _ (hx.chgNo hmix)).mono ?_
          rintro e w2 ⟨B2, m2, cb2, rfl, hB2, hC2⟩
          rw [HU.out] at hB2
          have hO2 := hO.chgNo (hmix.trans hC2)
          have hz2 := (hmix.trans hC2).size
          have hzw := hc0.size
          have hw1 : w.heap.size + 1 ≤ w2.heap.size := by have := hC2.size; simp at this; omega
          go_wp2_with (at_builtin; refine wpList_append_byt rfl _ _ rfl (w.heap.size + 1) _ T U rfl hO2 B2 m2 cb2 rfl hB2 (by omega) hw1 ?_; intro v' w3 hO3 hg3)
          have hg := Chg.of_grown (S := fun j => u3.ownBlock = some j) hg3 fun j e _ => e
          refine ⟨⟨i + 1, by omega, by go_num, ?_, ?_⟩, by simp [intOf]; omega⟩
          · rw [HST.out]; exact hO3
          · exact ((hc.trans hmix).trans hC2).then_ hg fun j hj e => by have := (hO.lt j e).1; omega
        · obtain rfl : i = l.length := by omega
          rw [List.take_of_length_le (by simp)] at hO
          obtain ⟨B, m, cb, rfl, hB⟩ := hO.byt (by omega)
          go_wp2
          go_ret
          rw [HS.out]
          exact ⟨_, _, _, rfl, hB, hc⟩
    · have e2 : (k == 2) = false := by simpa using k2
      rw [if_neg k2] at hS
      have HS := Lib.hid hS
      clear hS k1 k4 k2
      go_enter Tryd.func67, Tryd.ntmps67
      go_wp2_with fail
      go_loopw [3, 14] (fun v3 v14 wr => ∃ (i : Nat) (B : Option Addr) (m cb : Nat), i ≤ l.length ∧ v14 = .int .i64 (i : Int) ∧ v3 = .slice B m cb ∧ Byt wr B m cb (leastP ((l.map shortP).take i)) ∧ Chg No w wr) (fun _ v _ => l.length - (intOf v).toNat)
      case atStart => exact ⟨0, none, 0, 0, Nat.zero_le _, rfl, rfl, ⟨rfl, Nat.le_refl _, by omega, fun h => absurd rfl h⟩, hc0⟩
      case round =>
        obtain ⟨i, B, m, cb, hi, rfl, rfl, hO, hc⟩ := hrel
        by_cases hlt : i < l.length
        · obtain ⟨g, o, A', c', rfl, hSg, x0, x1, x2, x3, x4, x5, hx⟩ := (hl.chgNo hc).at_ i hlt
          have HC := HI.out l[i] (List.getElem_mem hlt) A' l[i].l.length c' S
          have hst : leastP ((l.map shortP).take (i + 1)) = if i = 0 ∨ lessB (shortP l[i]) (leastP ((l.map shortP).take i)) = true then shortP l[i] else leastP ((l.map shortP).take i) := by
            rw [List.take_succ_eq_append_getElem (by simpa using hlt), leastP_snoc]
            have e : (l.map shortP).take i = [] ↔ i = 0 := by
              rw [List.take_eq_nil_iff]
              constructor
              · rintro (h | h)
                · exact h
                · simp at h; subst h; simp at hlt
              · exact .inl
            simp only [e, List.getElem_map]
          obtain ⟨T, hT⟩ : ∃ T, leastP ((l.map shortP).take i) = T := ⟨_, rfl⟩
          obtain ⟨U, hU⟩ : ∃ U, shortP l[i] = U := ⟨_, rfl⟩
          rw [hT] at hO hst
          rw [hU] at hst
          rw [lessB_parts] at hst
          have HST := Lib.hid hst
          have HU := Lib.hid hU
          clear hst hT hU
          have hmix : Chg No wr (wr.alloc (.cells #[.int .i64 l[i].k, .int .i64 l[i].f, .int .i64 l[i].t, .int .i64 l[i].a, .int .i64 l[i].b, .slice A' l[i].l.length c'] 25)) := (Chg.refl No wr).alloc _
          go_wp2_with fail
          refine (HC _ (hx.chgNo hmix)).mono ?_
          rintro e w2 ⟨B2, m2, cb2, rfl, hB2, hC2⟩
          rw [HU.out] at hB2
          have hO2 := hO.chgNo (hmix.trans hC2)
          have hck := (hc.trans hmix).trans hC2
          have HO2 := hO2
          have HB2 := hB2
          obtain ⟨q1, _⟩ := hO2
          obtain ⟨q2, _⟩ := hB2
          subst q1 q2
          have hCmp := Compare_any w2 HB2 HO2
          obtain ⟨z, hz⟩ : ∃ z, Lib.compareBytes (toU U) (toU T) = z := ⟨_, rfl⟩
          obtain ⟨d1, he1⟩ : ∃ d : Bool, ((i : Int) == 0) = d := ⟨_, rfl⟩
          obtain ⟨d2, he2⟩ : ∃ d : Bool, decide (U.length < T.length) = d := ⟨_, rfl⟩
          obtain ⟨d3, he3⟩ : ∃ d : Bool, ((U.length : Int) == (T.length : Int)) = d := ⟨_, rfl⟩
          obtain ⟨d4, he4⟩ : ∃ d : Bool, decide (z < 0) = d := ⟨_, rfl⟩
          have HE : Hid ((i = 0 ∨ (decide (U.length < T.length) || (decide (U.length = T.length) && ltB U T)) = true) ↔ (d1 || d2 || (d3 && d4)) = true) := Lib.hid (by
            have h4 : d4 = ltB U T := by
              rw [Bool.eq_iff_iff, ← he4, decide_eq_true_eq, ← hz]
              exact compare_toU U T HB2.sm8 HO2.sm8
            rw [← h4, ← he1, ← he2, ← he3]
            have a1 : ((i : Int) = 0) ↔ i = 0 := by omega
            have a2 : ((U.length : Int) = (T.length : Int)) ↔ U.length = T.length := by omega
            simp only [Bool.or_eq_true, Bool.and_eq_true, decide_eq_true_eq, beq_iff_eq, a1, a2, or_assoc])
          have HXt : Hid ((d1 || d2 || (d3 && d4)) = true → Byt w2 B2 U.length cb2 (leastP ((l.map shortP).take (i + 1)))) := Lib.hid fun h => by
            rw [HST.out, if_pos (HE.out.2 h)]; exact HB2
          have HXf : Hid ((d1 || d2 || (d3 && d4)) = false → Byt w2 B T.length cb (leastP ((l.map shortP).take (i + 1)))) := Lib.hid fun h => by
            rw [HST.out, if_neg (fun q => by rw [HE.out.1 q] at h; cases h)]; exact HO2
          rw [hz] at hCmp
          clear hz hO HB2 HO2 HE HST
          cases d1 <;> cases d2 <;> cases d3 <;> cases d4
          all_goals
            go_wp2_with (go_at_call 102; refine hCmp.mono ?_; rintro e w' ⟨rfl, rfl⟩)
            first
            | exact ⟨⟨i + 1, _, _, _, by omega, by go_num, rfl, HXt.out rfl, hck⟩, by simp [intOf]; omega⟩
            | exact ⟨⟨i + 1, _, _, _, by omega, by go_num, rfl, HXf.out rfl, hck⟩, by simp [intOf]; omega⟩
        · obtain rfl : i = l.length := by omega
          rw [List.take_of_length_le (by simp)] at hO
          go_wp2
          go_ret
          rw [HS.out]
          exact ⟨_, _, _, rfl, hO, hc⟩
end Go.Proofs.YticipgjbgcdccaaDoor
namespace Go.Proofs.YticipgjbgcdccaaDoor
open Go.RowKit

/-- the row, or none behind an error -/
def shortestP (x : Ex) : List Nat := if checkP x = 0 then shortP x else []
set_option maxHeartbeats 1000000 in
set_option maxRecDepth 100000 in
theorem Shortest_any (x : Ex) (A : Option Addr) (n c : Nat) (S : Nat → Prop) (w : World) (hl : Sl w S A n c x.l) :
    Calls Tryd.prog 35 #[.agg #[.int .i64 x.k, .int .i64 x.f, .int .i64 x.t, .int .i64 x.a, .int .i64 x.b, .slice A n c]] w
      fun e w' => ∃ B m cb, e = .returned (.tuple #[.slice B m cb, .int .i64 (checkP x)]) ∧ Byt w' B m cb (shortestP x) ∧ Chg No w w' := by
  have hb := Blk.new w 25 #[.int .i64 x.k, .int .i64 x.f, .int .i64 x.t, .int .i64 x.a, .int .i64 x.b, .slice A n c]
  have hc0 : Chg No w (w.alloc (.cells #[.int .i64 x.k, .int .i64 x.f, .int .i64 x.t, .int .i64 x.a, .int .i64 x.b, .slice A n c] 25)) := (Chg.refl _ _).alloc _
  have hch := check_any _ x.k x.f x.t x.a x.b A n c x.l S (hl.chgNo hc0)
  rw [Ex.eta] at hch
  have HS := Lib.hid (show shortestP x = if checkP x = 0 then shortP x else [] from rfl)
  have HG : Hid (checkP x = 0 → ShC x) := Lib.hid fun h => by
    obtain ⟨hR, _, hp⟩ := checkP_nodes x h
    exact shortest_any _ x (Nat.lt_succ_self _) hR hp
  obtain ⟨E, hE⟩ : ∃ E, checkP x = E := ⟨_, rfl⟩
  rw [hE] at hch HS HG ⊢
  clear hE
  obtain ⟨y0, y1, y2, y3, y4, y5⟩ := ex_cells hb
  go_enter Tryd.func35, Tryd.ntmps35
  go_wp2_with fail
  refine hch.mono ?_
  rintro e w1 ⟨rfl, hC1⟩
  by_cases q : E = 0
  · subst q
    have HS0 : Hid (shortestP x = shortP x) := Lib.hid (by rw [HS.out, if_pos rfl])
    clear HS
    clear y0 y1 y2 y3 y4 y5
    obtain ⟨y0, y1, y2, y3, y4, y5⟩ := ex_cells (hb.chg hC1 id)
    have HC := HG.out rfl A n c S w1 (hl.chgNo (hc0.trans hC1))
    go_wp2_with fail
    refine HC.mono ?_
    rintro e w2 ⟨B, m, cb, rfl, hB, hC2⟩
    go_wp2
    go_ret2
    exact ⟨_, _, _, rfl, by rw [HS0.out]; exact hB, (hc0.trans hC1).trans hC2⟩
  · have e1 : (E != 0) = true := by simpa using q
    have HQ := Lib.hid q
    clear q
    go_wp2
    go_ret2
    exact ⟨none, 0, 0, rfl, by rw [HS.out, if_neg HQ.out]; exact ⟨rfl, Nat.le_refl _, by omega, fun h => absurd rfl h⟩, hc0.trans hC1⟩

set_option maxRecDepth 100000 in
theorem less_any {A B : Option Addr} {m n ca cb : Nat} {s t : List Nat} (w : World) (hA : Byt w A m ca s) (hB : Byt w B n cb t) :
    Calls Tryd.prog 103 #[.slice A m ca, .slice B n cb] w fun e w' => e = .returned (.bool (lessB s t)) ∧ w = w' := by
  have k1 := conv_byt hA
  have k2 := conv_byt hB
  have h1 : m = s.length := hA.1
  have h2 : n = t.length := hB.1
  have hlt := bytesLess_toU s t hA.sm8 hB.sm8
  have e1 : (baB s).toList = toU s := by simp [baB]
  have e2 : (baB t).toList = toU t := by simp [baB]
  rw [← e1, ← e2] at hlt
  clear e1 e2
  subst h1 h2
  have HF := Lib.hid (lessB_parts s t)
  by_cases q : s.length = t.length
  · have f1 : ((s.length : Int) != (t.length : Int)) = false := by rw [q]; simp
    have Q := Lib.hid q
    clear q
    go_enter Tryd.func103, Tryd.ntmps103
    go_wp2
    go_ret
    refine ⟨?_, rfl⟩
    rw [HF.out, decide_eq_false (by have := Q.out; omega), decide_eq_true Q.out]; simp
  · have f1 : ((s.length : Int) != (t.length : Int)) = true := by simpa using fun h : (s.length : Int) = (t.length : Int) => q (by omega)
    have Q := Lib.hid q
    clear q
    go_enter Tryd.func103, Tryd.ntmps103
    go_wp2
    go_ret
    refine ⟨?_, rfl⟩
    rw [HF.out, decide_eq_false Q.out]; simp
end Go.Proofs.YticipgjbgcdccaaDoor
namespace Go.Proofs.YticipgjbgcdccaaDoor
open Go.RowKit

/-- what graftref2.shortest promises of a pattern -/
def ShRC (x : Ex) : Prop := ∀ (A : Option Addr) (n c : Nat) (S : Nat → Prop) (w : World), Sl w S A n c x.l →
  Calls Tryd.prog 68 #[.agg #[.int .i64 x.k, .int .i64 x.f, .int .i64 x.t, .int .i64 x.a, .int .i64 x.b, .slice A n c]] w
    fun e w' => ∃ B m cb, e = .returned (.slice B m cb) ∧ Byt w' B m cb (shortP x) ∧ Chg No w w'

set_option maxHeartbeats 4000000 in
set_option maxRecDepth 100000 in
theorem rshortest_rep (f t a b : Int) (l : List Ex) (hR : rightP (.mk 4 f t a b l) = true) (hp : positionsP (.mk 4 f t a b l) ≤ 4096) (IHP : ∀ y ∈ l, positionsP y ≤ 4096 → ShRC y) : ShRC (.mk 4 f t a b l) := by
  intro A n c S w hl
  obtain ⟨rfl, hc1, hc2⟩ : n = l.length ∧ l.length ≤ c ∧ c ≤ 9223372036854775807 := ⟨hl.1, by have := hl.2.1; have := hl.1; simp only [Ex.l] at *; omega, hl.2.2.1⟩
  simp only [Ex.k, Ex.f, Ex.t, Ex.a, Ex.b, Ex.l] at hl ⊢
  have hlen := shortP_len _ _ (Nat.lt_succ_self _) hR hp
  obtain ⟨hh, hr⟩ := rightP_head hR
  have hab : 0 ≤ a ∧ a ≤ 1000 ∧ l.length = 1 ∧ (b < 0 ∨ a ≤ b) := by simp [headOk] at hh; omega
  obtain ⟨y, rfl⟩ : ∃ y, l = [y] := List.length_eq_one_iff.1 hab.2.2.1
  rw [shortP_rep] at hlen ⊢
  have hb := Blk.new w 25 #[.int .i64 4, .int .i64 f, .int .i64 t, .int .i64 a, .int .i64 b, .slice A [y].length c]
  have hc0 : Chg No w (w.alloc (.cells #[.int .i64 4, .int .i64 f, .int .i64 t, .int .i64 a, .int .i64 b, .slice A [y].length c] 25)) := (Chg.refl _ _).alloc _
  simp only [List.length_cons, List.length_nil, Nat.zero_add] at hl hb hc0 hc1
  obtain ⟨y0, y1, y2, y3, y4, y5⟩ := ex_cells hb
  by_cases q : 0 < a
  · rw [if_pos q] at hlen ⊢
    have hp1 : positionsP y ≤ 4096 := by
      have hP : positionsP (.mk 4 f t a b [y]) = if (4 : Int) = 1 then 1 else min (if (4 : Int) = 4 then positionsS [y] * copiesP a b else positionsS [y]) 4097 := by conv => lhs; unfold positionsP
      rw [hP, if_neg (by omega), if_pos rfl] at hp
      simp only [positionsS, Int.add_zero] at hp
      have hy0 := (positionsP_le y (hr y (by simp))).1
      have hac : a ≤ copiesP a b := by unfold copiesP; split <;> omega
      have h1 : positionsP y * 1 ≤ positionsP y * copiesP a b := Int.mul_le_mul_of_nonneg_left (by omega) hy0
      omega
    have IH := IHP y (by simp) hp1
    obtain ⟨g, o, A', c', rfl, hS, x0, x1, x2, x3, x4, x5, hx⟩ := (hl.chgNo hc0).at_ 0 (by simp)
    simp only [List.getElem_cons_zero, Nat.zero_mul, Nat.add_zero] at x0 x1 x2 x3 x4 x5 hx
    obtain ⟨m, rfl⟩ : ∃ m : Nat, a = (m : Int) := ⟨a.toNat, by omega⟩
    have e0 : ((m : Int) == 0) = false := beq_eq_false_iff_ne.2 (by omega)
    have e : (m : Int).toNat = m := rfl
    rw [e] at hlen ⊢
    have hml : (repsL m (shortP y)).length ≤ 4096 := by have := hlen.1; omega
    have HML := Lib.hid hml
    have hc1' := hc0
    clear hlen hml hp hR hh hr IHP
    go_enter Tryd.func68, Tryd.ntmps68
    go_wp2_with fail
    refine (IH A' y.l.length c' S _ hx).mono ?_
    rintro e w2 ⟨B2, m2, cb2, rfl, hB2, hC2⟩
    clear y0 y1 y2 y3 y4 y5 x0 x1 x2 x3 x4 x5 hx IH
    have hb2 := hb.chg hC2 id
    have hw2 := hc0.trans hC2
    obtain ⟨s, hs⟩ : ∃ s, shortP y = s := ⟨_, rfl⟩
    rw [hs] at hB2
    rw [hs] at HML
    have HSY := Lib.hid hs
    clear hs hb hc0 hc1' hC2 hl
    go_wp2_with fail
    go_loopw [3, 8] (fun v3 v8 wr => ∃ q : Nat, q ≤ m ∧ v8 = .int .i64 (q : Int) ∧ OwN wr w2.heap.size v3 (repsL q s) ∧ Chg No w2 wr) (fun _ v _ => m - (intOf v).toNat)
    case atStart => exact ⟨0, Nat.zero_le _, rfl, by simpa [repsL] using OwN.nil w2 w2.heap.size, Chg.refl _ _⟩
    case round =>
      obtain ⟨q, hq, rfl, hO, hc⟩ := hrel
      obtain ⟨z0, z1, z2, z3, z4, z5⟩ := ex_cells (hb2.chg hc id)
      by_cases hlt : q < m
      · have hlt' : (q : Int) < (m : Int) := by omega
        have hst : repsL (q + 1) s = repsL q s ++ s := by rw [repsL_add, show repsL 1 s = s by simp [repsL]]
        have hz : (repsL q s).length + s.length ≤ 4096 := by
          have h1 := HML.out
          rw [repsL_len] at h1 ⊢
          have h2 : (q + 1) * s.length ≤ m * s.length := Nat.mul_le_mul_right _ (by omega)
          rw [Nat.succ_mul] at h2; omega
        obtain ⟨T, hT⟩ : ∃ T, repsL q s = T := ⟨_, rfl⟩
        rw [hT] at hO hst hz
        have HST := Lib.hid hst
        clear hst hT
        have hsz := hc.size
        go_wp2_with (at_builtin; refine wpList_append_byt rfl _ _ rfl w2.heap.size _ T s rfl hO B2 m2 cb2 rfl (hB2.chgNo hc) (by omega) hsz ?_; intro v' w3 hO3 hg3)
        have hg := Chg.of_grown (S := fun j => u3.ownBlock = some j) hg3 fun j e _ => e
        refine ⟨⟨q + 1, by omega, by go_num, ?_, ?_⟩, by simp [intOf]; omega⟩
        · rw [HST.out]; exact hO3
        · exact hc.then_ hg fun j hj e => by have := (hO.lt j e).1; omega
      · obtain rfl : q = m := by omega
        obtain ⟨B, m', cb, rfl, hB⟩ := hO.byt (by have := HML.out; omega)
        go_wp2
        go_ret
        exact ⟨_, _, _, rfl, by rw [HSY.out]; exact hB, hw2.trans hc⟩
  · rw [if_neg q]
    have q0 : a = 0 := by omega
    have e0 : (a == 0) = true := by simpa using q0
    clear q0 q hab
    go_enter Tryd.func68, Tryd.ntmps68
    go_wp2
    go_ret
    exact ⟨none, 0, 0, rfl, ⟨rfl, Nat.le_refl _, by omega, fun h => absurd rfl h⟩, hc0⟩

set_option maxHeartbeats 4000000 in
set_option maxRecDepth 100000 in
theorem rshortest_any : ∀ (N : Nat) (x : Ex), SizeOf.sizeOf x < N → rightP x = true → positionsP x ≤ 4096 → ShRC x := by
  intro N
  induction N with
  | zero => intro _ h; omega
  | succ N ih =>
    intro x hN hR hp
    obtain ⟨k, f, t, a, b, l⟩ := x
    obtain ⟨hh, hr⟩ := rightP_head hR
    have IH : ∀ y ∈ l, positionsP y ≤ 4096 → ShRC y := fun y hy => ih y (by have := Ex.lt_of_mem hy k f t a b; omega) (hr y hy)
    by_cases k4 : k = 4
    · subst k4
      exact rshortest_rep f t a b l hR hp IH
    intro A n c S w hl
    obtain ⟨rfl, hc1, hc2⟩ : n = l.length ∧ l.length ≤ c ∧ c ≤ 9223372036854775807 := ⟨hl.1, by have := hl.2.1; have := hl.1; simp only [Ex.l] at *; omega, hl.2.2.1⟩
    simp only [Ex.k, Ex.f, Ex.t, Ex.a, Ex.b, Ex.l] at hl ⊢
    have hb := Blk.new w 25 #[.int .i64 k, .int .i64 f, .int .i64 t, .int .i64 a, .int .i64 b, .slice A l.length c]
    have hc0 : Chg No w (w.alloc (.cells #[.int .i64 k, .int .i64 f, .int .i64 t, .int .i64 a, .int .i64 b, .slice A l.length c] 25)) := (Chg.refl _ _).alloc _
    have hsz0 : w.heap.size + 1 ≤ (w.alloc (.cells #[.int .i64 k, .int .i64 f, .int .i64 t, .int .i64 a, .int .i64 b, .slice A l.length c] 25)).heap.size := by simp
    obtain ⟨y0, y1, y2, y3, y4, y5⟩ := ex_cells hb
    by_cases k1 : k = 1
    · subst k1
      have hf : 0 ≤ f ∧ f ≤ 255 := by simp [headOk] at hh; omega
      obtain ⟨m, rfl⟩ : ∃ m : Nat, f = (m : Int) := ⟨f.toNat, by omega⟩
      have hm : (m : Int) % 256 = m := by omega
      have hF : shortP (.mk 1 m t a b l) = [m] := by unfold shortP; rw [if_pos rfl]; rfl
      have HF := Lib.hid hF
      clear hF ih IH hh hr hp hR
      go_enter Tryd.func68, Tryd.ntmps68
      go_wp2
      go_ret
      rw [HF.out]
      refine ⟨_, _, _, rfl, ⟨rfl, by simp, by omega, fun _ => ⟨_, 0, rfl, (Blk.new' (by simp)).lt, fun i x hi => ?_⟩⟩, hc0.alloc _⟩
      obtain ⟨rfl, rfl⟩ : i = 0 ∧ m = x := by
        cases i with
        | zero => simpa using hi
        | succ i => simp at hi
      refine ⟨?_, by omega⟩
      rw [(Blk.new' (w := w.alloc _) (g := w.heap.size + 1) (by simp)).cell]
      rfl
    have e1 : (k == 1) = false := by simpa using k1
    have e4 : (k == 4) = false := by simpa using k4
    have hP : positionsS l ≤ 4096 := by
      have hP : positionsP (.mk k f t a b l) = if k = 1 then 1 else min (if k = 4 then positionsS l * copiesP a b else positionsS l) 4097 := by conv => lhs; unfold positionsP
      rw [hP, if_neg k1, if_neg k4] at hp
      omega
    have hS : shortP (.mk k f t a b l) = if k = 2 then (l.map shortP).flatten else leastP (l.map shortP) := by
      conv => lhs; unfold shortP
      rw [if_neg k1, if_neg k4, shortsP_eq]
    have hpy : ∀ y ∈ l, positionsP y ≤ 4096 := fun y hy => by have := positionsS_mem l hr y hy; omega
    have hln : ∀ y ∈ l, ((shortP y).length : Int) ≤ positionsP y := fun y hy => (shortP_len _ y (Nat.lt_succ_self _) (hr y hy) (hpy y hy)).1
    have HLn := Lib.hid hln
    have HP := Lib.hid hP
    have HI : Hid (∀ y ∈ l, ShRC y) := Lib.hid fun y hy => IH y hy (hpy y hy)
    by_cases k2 : k = 2
    · subst k2
      clear ih IH hh hR hp hpy hln hP
      rw [if_pos rfl] at hS
      have HS := Lib.hid hS
      have htot : (l.map shortP).flatten.length ≤ 4096 := by have := flatten_len l HLn.out; have := HP.out; omega
      clear hS k1 k4
      go_enter Tryd.func68, Tryd.ntmps68
      go_wp2_with fail
      clear y0 y1 y2 y3 y4 y5
      generalize w.alloc (.cells #[.int .i64 2, .int .i64 f, .int .i64 t, .int .i64 a, .int .i64 b, .slice A l.length c] 25) = W0 at *
      go_loopw [3, 4] (fun v3 v4 wr => ∃ i : Nat, i ≤ l.length ∧ v4 = .int .i64 (i : Int) ∧ OwN wr (w.heap.size + 1) v3 ((l.map shortP).take i).flatten ∧ Chg (fun j => w.heap.size + 1 ≤ j) W0 wr) (fun _ v _ => l.length - (intOf v).toNat)
      case atStart => exact ⟨0, Nat.zero_le _, rfl, OwN.nil _ _, Chg.refl _ _⟩
      case round =>
        obtain ⟨i, hi, rfl, hO, hcr⟩ := hrel
        have hc : Chg No w wr := hc0.then_ hcr fun j hj e => by omega
        obtain ⟨z0, z1, z2, z3, z4, z5⟩ := ex_cells (hb.chg hcr (by omega))
        by_cases hlt : i < l.length
        · obtain ⟨g, o, A', c', rfl, hSg, x0, x1, x2, x3, x4, x5, hx⟩ := (hl.chgNo hc).at_ i hlt
          have HC := HI.out l[i] (List.getElem_mem hlt) A' l[i].l.length c' S
          have hst : ((l.map shortP).take (i + 1)).flatten = ((l.map shortP).take i).flatten ++ shortP l[i] := by
            rw [List.take_succ_eq_append_getElem (by simpa using hlt), List.flatten_append]; simp
          have hz := take_flatten_len (l.map shortP) (i + 1)
          rw [hst, List.length_append] at hz
          obtain ⟨T, hT⟩ : ∃ T, ((l.map shortP).take i).flatten = T := ⟨_, rfl⟩
          obtain ⟨U, hU⟩ : ∃ U, shortP l[i] = U := ⟨_, rfl⟩
          rw [hT] at hO hst hz
          rw [hU] at hst hz
          have HST := Lib.hid hst
          have HU := Lib.hid hU
          clear hst hT hU
          have hszw := hcr.size
          go_wp2_with fail
          refine (HC _ hx).mono ?_
          rintro e w2 ⟨B2, m2, cb2, rfl, hB2, hC2⟩
          rw [HU.out] at hB2
          have hO2 := hO.chgNo hC2
          have hw1 : w.heap.size + 1 ≤ w2.heap.size := by have := hC2.size; omega
          go_wp2_with (at_builtin; refine wpList_append_byt rfl _ _ rfl (w.heap.size + 1) _ T U rfl hO2 B2 m2 cb2 rfl hB2 (by omega) hw1 ?_; intro v' w3 hO3 hg3)
          have hg := Chg.of_grown (S := fun j => u3.ownBlock = some j) hg3 fun j e _ => e
          refine ⟨⟨i + 1, by omega, by go_num, ?_, ?_⟩, by simp [intOf]; omega⟩
          · rw [HST.out]; exact hO3
          · exact (hcr.then_ hC2 fun j hj e => e.elim).then_ hg fun j hj e => (hO.lt j e).1
        · obtain rfl : i = l.length := by omega
          rw [List.take_of_length_le (by simp)] at hO
          obtain ⟨B, m, cb, rfl, hB⟩ := hO.byt (by omega)
          go_wp2
          go_ret
          rw [HS.out]
          exact ⟨_, _, _, rfl, hB, hc⟩
    · have k3 : k = 3 := by rcases headOk_cases hh with h | h | h | h <;> first | exact h | contradiction
      subst k3
      have hne : 0 < l.length := by simp [headOk] at hh; omega
      clear ih IH hh hR hp hpy hln hP
      rw [if_neg k2] at hS
      have HS := Lib.hid hS
      clear hS k1 k4 k2
      obtain ⟨g, o, A', c', rfl, hSg, x0, x1, x2, x3, x4, x5, hx⟩ := (hl.chgNo hc0).at_ 0 hne
      simp only [Nat.zero_mul, Nat.add_zero] at x0 x1 x2 x3 x4 x5
      have HC := HI.out l[0] (List.getElem_mem hne) A' l[0].l.length c' S
      obtain ⟨U0, hU0⟩ : ∃ U, shortP l[0] = U := ⟨_, rfl⟩
      have HT1 : Hid (leastP ((l.map shortP).take 1) = U0) := Lib.hid (by
        cases l with
        | nil => simp at hne
        | cons y l => simpa [leastP] using hU0)
      have HU0 := Lib.hid hU0
      clear hU0
      go_enter Tryd.func68, Tryd.ntmps68
      go_wp2_with fail
      refine (HC _ hx).mono ?_
      rintro e w1 ⟨B1, m1, cb1, rfl, hB1, hC1⟩
      rw [HU0.out, ← HT1.out] at hB1
      clear y0 y1 y2 y3 y4 y5 x0 x1 x2 x3 x4 x5 hx HC
      have hb1 := hb.chg hC1 id
      have hw1 := hc0.trans hC1
      clear hb hc0 hC1
      go_wp2_with fail
      go_loopw [3, 5] (fun v3 v5 wr => ∃ (i : Nat) (B : Option Addr) (m cb : Nat), 0 < i ∧ i ≤ l.length ∧ v5 = .int .i64 (i : Int) ∧ v3 = .slice B m cb ∧ Byt wr B m cb (leastP ((l.map shortP).take i)) ∧ Chg No w1 wr) (fun _ v _ => l.length - (intOf v).toNat)
      case atStart => exact ⟨1, B1, m1, cb1, by omega, hne, rfl, rfl, hB1, Chg.refl _ _⟩
      case round =>
        obtain ⟨i, B, m, cb, hi0, hi, rfl, rfl, hO, hcr⟩ := hrel
        have hc : Chg No w wr := hw1.trans hcr
        obtain ⟨z0, z1, z2, z3, z4, z5⟩ := ex_cells (hb1.chg hcr id)
        by_cases hlt : i < l.length
        · obtain ⟨g', o', A', c', e, hSg, x0, x1, x2, x3, x4, x5, hx⟩ := (hl.chgNo hc).at_ i hlt
          injection e with e
          injection e with e1 e2
          subst e1 e2
          have HC := HI.out l[i] (List.getElem_mem hlt) A' l[i].l.length c' S
          have hst : leastP ((l.map shortP).take (i + 1)) = if lessB (shortP l[i]) (leastP ((l.map shortP).take i)) = true then shortP l[i] else leastP ((l.map shortP).take i) := by
            rw [List.take_succ_eq_append_getElem (by simpa using hlt), leastP_snoc]
            have e : ¬ (l.map shortP).take i = [] := by
              intro h
              rw [List.take_eq_nil_iff] at h
              rcases h with h | h
              · omega
              · simp at h; subst h; simp at hlt
            simp only [e, List.getElem_map, false_or]
          obtain ⟨T, hT⟩ : ∃ T, leastP ((l.map shortP).take i) = T := ⟨_, rfl⟩
          obtain ⟨U, hU⟩ : ∃ U, shortP l[i] = U := ⟨_, rfl⟩
          rw [hT] at hO hst
          rw [hU] at hst
          obtain ⟨d, hd⟩ : ∃ d, lessB U T = d := ⟨_, rfl⟩
          rw [hd] at hst
          have HST := Lib.hid hst
          have HU := Lib.hid hU
          clear hst hT hU
          go_wp2_with fail
          refine (HC _ hx).mono ?_
          rintro e w2 ⟨B2, m2, cb2, rfl, hB2, hC2⟩
          rw [HU.out] at hB2
          have hO2 := hO.chgNo hC2
          have hck := hcr.trans hC2
          have hLs := less_any w2 hB2 hO2
          rw [hd] at hLs
          have HO2 := Lib.hid hO2
          have HB2 := Lib.hid hB2
          clear hd hO hO2 hB2 x0 x1 x2 x3 x4 x5 z0 z1 z2 z3 z4 z5
          have hst := HST.out
          cases d with
          | true =>
            rw [if_pos rfl] at hst
            have HX := Lib.hid hst
            clear hst
            go_wp2_with (go_at_call 103; refine hLs.mono ?_; rintro e w' ⟨rfl, rfl⟩)
            exact ⟨⟨i + 1, _, _, _, by omega, by omega, by go_num, rfl, by rw [HX.out]; exact HB2.out, hck⟩, by simp [intOf]; omega⟩
          | false =>
            rw [if_neg (by simp)] at hst
            have HX := Lib.hid hst
            clear hst
            go_wp2_with (go_at_call 103; refine hLs.mono ?_; rintro e w' ⟨rfl, rfl⟩)
            exact ⟨⟨i + 1, _, _, _, by omega, by omega, by go_num, rfl, by rw [HX.out]; exact HO2.out, hck⟩, by simp [intOf]; omega⟩
        · obtain rfl : i = l.length := by omega
          rw [List.take_of_length_le (by simp)] at hO
          go_wp2
          go_ret
          rw [HS.out]
          exact ⟨_, _, _, rfl, hO, hc⟩

set_option maxHeartbeats 1000000 in
set_option maxRecDepth 100000 in
theorem rShortest_any (x : Ex) (A : Option Addr) (n c : Nat) (S : Nat → Prop) (w : World) (hl : Sl w S A n c x.l) (hsm : lenOk x) :
    Calls Tryd.prog 36 #[.agg #[.int .i64 x.k, .int .i64 x.f, .int .i64 x.t, .int .i64 x.a, .int .i64 x.b, .slice A n c]] w
      fun e w' => ∃ B m cb, e = .returned (.tuple #[.slice B m cb, .int .i64 (checkP x)]) ∧ Byt w' B m cb (shortestP x) ∧ Chg No w w' := by
  have hb := Blk.new w 25 #[.int .i64 x.k, .int .i64 x.f, .int .i64 x.t, .int .i64 x.a, .int .i64 x.b, .slice A n c]
  have hc0 : Chg No w (w.alloc (.cells #[.int .i64 x.k, .int .i64 x.f, .int .i64 x.t, .int .i64 x.a, .int .i64 x.b, .slice A n c] 25)) := (Chg.refl _ _).alloc _
  have hch := rCheck_any x A n c S _ (hl.chgNo hc0) hsm
  have HS := Lib.hid (show shortestP x = if checkP x = 0 then shortP x else [] from rfl)
  have HG : Hid (checkP x = 0 → ShRC x) := Lib.hid fun h => by
    obtain ⟨hR, _, hp⟩ := checkP_nodes x h
    exact rshortest_any _ x (Nat.lt_succ_self _) hR hp
  obtain ⟨E, hE⟩ : ∃ E, checkP x = E := ⟨_, rfl⟩
  rw [hE] at hch HS HG ⊢
  clear hE
  obtain ⟨y0, y1, y2, y3, y4, y5⟩ := ex_cells hb
  go_enter Tryd.func36, Tryd.ntmps36
  go_wp2_with fail
  refine hch.mono ?_
  rintro e w1 ⟨rfl, hC1⟩
  by_cases q : E = 0
  · subst q
    have HS0 : Hid (shortestP x = shortP x) := Lib.hid (by rw [HS.out, if_pos rfl])
    clear HS
    clear y0 y1 y2 y3 y4 y5
    obtain ⟨y0, y1, y2, y3, y4, y5⟩ := ex_cells (hb.chg hC1 id)
    have HC := HG.out rfl A n c S w1 (hl.chgNo (hc0.trans hC1))
    go_wp2_with fail
    refine HC.mono ?_
    rintro e w2 ⟨B, m, cb, rfl, hB, hC2⟩
    go_wp2
    go_ret2
    exact ⟨_, _, _, rfl, by rw [HS0.out]; exact hB, (hc0.trans hC1).trans hC2⟩
  · have e1 : (E != 0) = true := by simpa using q
    have HQ := Lib.hid q
    clear q
    go_wp2
    go_ret2
    exact ⟨none, 0, 0, rfl, by rw [HS.out, if_neg HQ.out]; exact ⟨rfl, Nat.le_refl _, by omega, fun h => absurd rfl h⟩, hc0.trans hC1⟩
end Go.Proofs.YticipgjbgcdccaaDoor
