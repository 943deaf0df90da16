/- Bytes and single patterns that are handed in: opened. No condition: lemmas.
   Package graftlaw2: ExprChecks: the walk.
   What Longest, Live, Match and Shortest answer of one pattern, together. No condition: lemmas.
   Package graftlaw2: ExprMatches: the walk.
   The statement ExprMatches: for any pattern and rows of bytes that are handed in, the law answers true and leaves all as it was: the tied card, proved. -/
import Derived.Test.YticipgjbgcdccaaDoorZ10
import Derived.Test.YticipgjbgcdccaaDoorZ8
import Derived.Test.YticipgjbgcdccaaDoorZ9
import Derived.Deep.RegionHeld3
import Derived.Test.YticipgjbgcdccaaDoorZ12
import Derived.Test.YticipgjbgcdccaaDoorZ11
import Derived.Test.YticipgjbgcdccaaDoorZ19
import Derived.Test.YticipgjbgcdccaaDoorTie
import Derived.Test.YticipgjbgcdccaaDoorCards
import Derived.SevenTiedAt
set_option linter.unusedSimpArgs false
set_option linter.unusedVariables false
namespace Go.Proofs.YticipgjbgcdccaaDoor
open Go.RowKit Go.ChangeShapes Go.WideShapes Go.ChangeAt

theorem cells5 : Tryd.prog.cellsOf 5 = 1 := by kernel_rfl
theorem open_bytes {H : Type} {enc : TypeId × Value → H} {W : World} {sp : Nat → Bool} {fuel : Nat} {cs : List Value} {x : DataW H × List MemPlace} (h : DataW.trod enc Tryd.prog W 0 sp true fuel 41 cs = some x) :
    ∃ B n c bs, cs = [.slice B n c] ∧ Byt W B n c bs ∧ (B = none → c = 0) := by
  rcases DataW.trod_slice Tryd.underlying41 h with ⟨rfl, rfl⟩ | ⟨a, len, cap, elems, rest, n, hn, rfl, rfl, _, hlc, hcm, hel, hget, _, _⟩
  · exact ⟨none, 0, 0, [], rfl, ⟨rfl, Nat.le_refl _, by omega, fun h => absurd rfl h⟩, fun _ => rfl⟩
  · rw [cells5] at hget
    obtain ⟨l, hl, hp⟩ := list_of (P := fun i (y : Nat) => W.cell? (a.add i) = some (.int .u8 (y : Int)) ∧ y < 256) len fun i hi => by
      have h1 := hget i hi
      rw [List.getElem?_eq_getElem (by omega), Nat.mul_one] at h1
      obtain ⟨cs, h2, h3⟩ := Option.bind_eq_some_iff.1 h1
      obtain ⟨y, e, _, hw⟩ := DataW.trod_int Tryd.underlying5 h3
      have hw : 0 ≤ y ∧ y ≤ 255 := by simpa [Lit.wf, IntKind.min, IntKind.max, IntKind.signed, IntKind.bits] using hw
      obtain ⟨_, h4⟩ := cells_get h2
      have h5 := h4 0 (by omega)
      rw [e] at h5
      refine ⟨y.toNat, ?_, by omega⟩
      have ea : ∀ b : Addr, b.add 0 = b := fun b => by obtain ⟨g, o, s⟩ := b; simp [Addr.add]
      rw [ea] at h5
      rw [Int.toNat_of_nonneg hw.1, h5]; rfl
    have hcm' : cap ≤ 9223372036854775807 := by simpa [maxLen] using hcm
    refine ⟨some a, len, cap, l, rfl, ⟨hl.symm, by omega, hcm', fun hne => ?_⟩, fun h => by cases h⟩
    have h0 : 0 < l.length := List.length_pos_iff.2 hne
    obtain ⟨g, o, sp'⟩ := a
    have hz : W.cell? ⟨g, o, sp'⟩ = some (.int .u8 (l[0] : Int)) := by
      have := (hp 0 h0).1
      have ea : ∀ b : Addr, b.add 0 = b := fun b => by obtain ⟨g, o, s⟩ := b; simp [Addr.add]
      rw [ea] at this
      exact this
    have hg : g < W.heap.size := World.block_lt_of_cell? _ _ hz
    have hsp : sp' = none := by
      unfold World.cell? at hz
      cases hh : W.heap[g]? with
      | none => simp [hh] at hz
      | some ob =>
        cases ob <;> simp [hh] at hz
        cases sp' with
        | none => rfl
        | some _ => simp at hz
    subst hsp
    refine ⟨g, o, rfl, hg, fun i x hi => ?_⟩
    obtain ⟨hi1, hi2⟩ := List.getElem?_eq_some_iff.1 hi
    have h1 := hp i hi1
    rw [hi2] at h1
    have ea : (⟨g, o, none⟩ : Addr).add i = ⟨g, o + i, none⟩ := by unfold Addr.add; split <;> simp_all
    rw [ea] at h1
    exact h1

theorem trodAll_five {H : Type} {enc : TypeId × Value → H} {P : Program} {w : World} {base : Nat} {spare : Nat → Bool} {held : Bool} {t t' t'' t3 t4 : TypeId} {args : Array Value} {ds : List (DataW H)} {ps : List MemPlace} (h : DataW.TrodAll enc P w base spare held [t, t', t'', t3, t4] args.toList ds ps) :
    ∃ v v' v'' v3 v4 d d' d'' d3 d4 p p' p'' p3 p4, args = #[v, v', v'', v3, v4] ∧ ds = [d, d', d'', d3, d4] ∧ ps = p ++ (p' ++ (p'' ++ (p3 ++ p4))) ∧ DataW.Trod enc P w base spare held t v d p ∧ DataW.Trod enc P w base spare held t' v' d' p' ∧ DataW.Trod enc P w base spare held t'' v'' d'' p'' ∧ DataW.Trod enc P w base spare held t3 v3 d3 p3 ∧ DataW.Trod enc P w base spare held t4 v4 d4 p4 := by
  obtain ⟨v, vs, d, ds', p, q, hargs, rfl, rfl, hd, hrest⟩ := trodAll_cons h
  obtain ⟨v', vs', d', ds'', p', q', rfl, rfl, rfl, hd', hrest'⟩ := trodAll_cons hrest
  obtain ⟨v'', vs'', d'', ds''', p'', q'', rfl, rfl, rfl, hd'', hrest''⟩ := trodAll_cons hrest'
  obtain ⟨v3, vs3, d3, ds3, p3, q3, rfl, rfl, rfl, hd3, hrest3⟩ := trodAll_cons hrest''
  obtain ⟨v4, vs4, d4, ds4, p4, q4, rfl, rfl, rfl, hd4, hrest4⟩ := trodAll_cons hrest3
  obtain ⟨rfl, rfl, rfl⟩ := trodAll_nil hrest4
  exact ⟨v, v', v'', v3, v4, d, d', d'', d3, d4, p, p', p'', p3, p4, by cases args; simp_all, rfl, by simp, hd, hd', hd'', hd3, hd4⟩

theorem trodAll_push {H : Type} {enc : TypeId × Value → H} {P : Program} {w : World} {base : Nat} {spare : Nat → Bool} {held : Bool} {t : TypeId} {ts : List TypeId} {v : Value} {vs : List Value} {d : DataW H} {ds : List (DataW H)} {p p' : List MemPlace} (h : DataW.Trod enc P w base spare held t v d p) (hs : DataW.TrodAll enc P w base spare held ts vs ds p') : DataW.TrodAll enc P w base spare held (t :: ts) (v :: vs) (d :: ds) (p ++ p') := ⟨p, p', h, hs, rfl⟩
/-- a pattern that is handed in by value -/
theorem open_ex {H : Type} {enc : TypeId × Value → H} {W : World} {sp : Nat → Bool} {v : Value} {d : DataW H} {p : List MemPlace} {cs : Array Value} (hv : v = .agg cs) (h : DataW.Trod enc Tryd.prog W 0 sp true 25 v d p) :
    ∃ (y : Ex) (A : Option Addr) (n c : Nat), v = .agg #[.int .i64 y.k, .int .i64 y.f, .int .i64 y.t, .int .i64 y.a, .int .i64 y.b, .slice A n c] ∧ Sl W (Old W) A n c y.l ∧ ((∀ q ∈ d.weights Tryd.prog 25, q ≤ reachBytes) → lenOk y) := by
  subst hv
  obtain ⟨fuel, h⟩ := h
  obtain ⟨y, A, n, c, e, h1, h2⟩ := (open_both fuel).2 _ _ h
  refine ⟨y, A, n, c, ?_, h1, h2⟩
  congr 1
  exact Array.toList_inj.1 e
end Go.Proofs.YticipgjbgcdccaaDoor
namespace Go.Proofs.YticipgjbgcdccaaDoor
open Go.RowKit

/-- a pattern that is at hand: its variable in block g, element i of the argument; and nothing that was there has changed -/
def TwoAt (w0 : World) (g : Nat) (x : Ex) (A : Option Addr) (c : Nat) (ga oa i : Nat) (A' : Option Addr) (c' : Nat) (w : World) : Prop :=
  Chg No w0 w ∧ (w.cell? ⟨g, 0, none⟩ = some (.int .i64 x.k) ∧ w.cell? ⟨g, 1, none⟩ = some (.int .i64 x.f) ∧ w.cell? ⟨g, 2, none⟩ = some (.int .i64 x.t) ∧ w.cell? ⟨g, 3, none⟩ = some (.int .i64 x.a) ∧ w.cell? ⟨g, 4, none⟩ = some (.int .i64 x.b) ∧ w.cell? ⟨g, 5, none⟩ = some (.slice A x.l.length c)) ∧
  (w.cell? ⟨ga, oa + i * 6, none⟩ = some (.int .i64 x.k) ∧ w.cell? ⟨ga, oa + i * 6 + 1, none⟩ = some (.int .i64 x.f) ∧ w.cell? ⟨ga, oa + i * 6 + 2, none⟩ = some (.int .i64 x.t) ∧ w.cell? ⟨ga, oa + i * 6 + 3, none⟩ = some (.int .i64 x.a) ∧ w.cell? ⟨ga, oa + i * 6 + 4, none⟩ = some (.int .i64 x.b) ∧ w.cell? ⟨ga, oa + i * 6 + 5, none⟩ = some (.slice A' x.l.length c'))
theorem TwoAt.chg {w0 w w' : World} {g : Nat} {x : Ex} {A : Option Addr} {c ga oa i : Nat} {A' : Option Addr} {c' : Nat} (h : TwoAt w0 g x A c ga oa i A' c' w) (hc : Chg No w w') : TwoAt w0 g x A c ga oa i A' c' w' := by
  have car : ∀ {p : Addr} {v : Value}, w.cell? p = some v → w'.cell? p = some v := fun h => (hc.below.cell (World.block_lt_of_cell? _ _ h)).trans h
  obtain ⟨h0, ⟨a0, a1, a2, a3, a4, a5⟩, b0, b1, b2, b3, b4, b5⟩ := h
  exact ⟨h0.trans hc, ⟨car a0, car a1, car a2, car a3, car a4, car a5⟩, car b0, car b1, car b2, car b3, car b4, car b5⟩
theorem TwoAt.new {w w1 : World} {x : Ex} {A : Option Addr} {c ga oa i : Nat} {A' : Option Addr} {c' : Nat} (h1 : Chg No w w1)
    (x0 : w.cell? ⟨ga, oa + i * 6, none⟩ = some (.int .i64 x.k)) (x1 : w.cell? ⟨ga, oa + i * 6 + 1, none⟩ = some (.int .i64 x.f)) (x2 : w.cell? ⟨ga, oa + i * 6 + 2, none⟩ = some (.int .i64 x.t)) (x3 : w.cell? ⟨ga, oa + i * 6 + 3, none⟩ = some (.int .i64 x.a)) (x4 : w.cell? ⟨ga, oa + i * 6 + 4, none⟩ = some (.int .i64 x.b)) (x5 : w.cell? ⟨ga, oa + i * 6 + 5, none⟩ = some (.slice A' x.l.length c')) :
    TwoAt w w1.heap.size x A c ga oa i A' c' (w1.alloc (.cells #[.int .i64 x.k, .int .i64 x.f, .int .i64 x.t, .int .i64 x.a, .int .i64 x.b, .slice A x.l.length c] 25)) := by
  have hc := h1.alloc (.cells #[.int .i64 x.k, .int .i64 x.f, .int .i64 x.t, .int .i64 x.a, .int .i64 x.b, .slice A x.l.length c] 25)
  have car : ∀ {p : Addr} {v : Value}, w.cell? p = some v → (w1.alloc (.cells #[.int .i64 x.k, .int .i64 x.f, .int .i64 x.t, .int .i64 x.a, .int .i64 x.b, .slice A x.l.length c] 25)).cell? p = some v := fun h => (hc.below.cell (World.block_lt_of_cell? _ _ h)).trans h
  exact ⟨hc, ex_cells (Blk.new w1 25 #[.int .i64 x.k, .int .i64 x.f, .int .i64 x.t, .int .i64 x.a, .int .i64 x.b, .slice A x.l.length c]), car x0, car x1, car x2, car x3, car x4, car x5⟩

def HeldC (w0 : World) (g : Nat) (x : Ex) (A : Option Addr) (c : Nat) (ga oa i : Nat) (A' : Option Addr) (c' : Nat) (w5 w : World) : Prop := TwoAt w0 g x A c ga oa i A' c' w ∧ Chg No w5 w
theorem posP_snd (x : Ex) : (posP x).2 = checkP x := by
  unfold posP
  split
  · rfl
  · rename_i h; simp at h; simp [h]

set_option maxHeartbeats 4000000 in
set_option maxRecDepth 100000 in
theorem ExprChecks_any (l : List Ex) (A : Option Addr) (n c : Nat) (S : Nat → Prop) (w : World) (hl : Sl w S A n c l) (hok : ∀ x ∈ l, lenOk x) (hd : Deb w) (hg : 0 < w.heap.size) (ht : Tab w) :
    Calls Tryd.prog 8 #[.slice A n c] w fun e w' => e = .returned (.bool true) ∧ Chg No w w' := by
  have hn := hl.1
  subst hn
  have hcap : l.length ≤ c ∧ c ≤ 9223372036854775807 := ⟨hl.2.1, hl.2.2.1⟩
  have HO := Lib.hid hok
  have HG := Lib.hid (show Deb w ∧ 0 < w.heap.size ∧ Tab w from ⟨hd, hg, ht⟩)
  clear hok hd hg ht
  go_enter Tryd.func8, Tryd.ntmps8
  go_wp2_with fail
  go_loopw [3] (fun v3 wr => ∃ i : Nat, i ≤ l.length ∧ v3 = .int .i64 (i : Int) ∧ Chg No w wr) (fun v _ => l.length - (intOf v).toNat)
  case atStart => exact ⟨0, Nat.zero_le _, rfl, Chg.refl No _⟩
  case round =>
    obtain ⟨i, hi, rfl, hc⟩ := hrel
    by_cases hlt : i < l.length
    · have hlenOk := HO.out _ (List.getElem_mem hlt)
      obtain ⟨ga, oa, A', c', rfl, hS, x0, x1, x2, x3, x4, x5, hx⟩ := (hl.chgNo hc).at_ i hlt
      generalize l[i] = x at hlenOk x0 x1 x2 x3 x4 x5 hx
      go_wp2_with fail
      refine (TwinExpr_any x A' _ c' S wr hx hlenOk).mono ?_
      rintro e w1 ⟨A2, c2, rfl, hM, hc1⟩
      have hT := TwoAt.new (A := A2) (c := c2) hc1 x0 x1 x2 x3 x4 x5
      have hM2 : MineAt (w1.alloc (.cells #[.int .i64 x.k, .int .i64 x.f, .int .i64 x.t, .int .i64 x.a, .int .i64 x.b, .slice A2 x.l.length c2] 25)) wr.heap.size x A2 c2 := hM.chgNo ((Chg.refl No w1).alloc _)
      have hch := check_any (w1.alloc (.cells #[.int .i64 x.k, .int .i64 x.f, .int .i64 x.t, .int .i64 x.a, .int .i64 x.b, .slice A2 x.l.length c2] 25)) x.k x.f x.t x.a x.b A2 x.l.length c2 x.l _ hM2.2
      rw [Ex.eta] at hch
      have hpoF := fun w' (h : Sl w' (fun _ => True) A2 x.l.length c2 x.l) => Positions_any x A2 x.l.length c2 _ w' h
      have hrpF := fun w' (h : Sl w' S A' x.l.length c' x.l) => rPositions_any x A' x.l.length c' S w' h hlenOk
      rw [posP_snd] at hpoF hrpF
      obtain ⟨E, hE⟩ : ∃ E, checkP x = E := ⟨_, rfl⟩
      obtain ⟨P, hP⟩ : ∃ P, (posP x).1 = P := ⟨_, rfl⟩
      rw [hE] at hch hpoF hrpF
      rw [hP] at hpoF hrpF
      clear hE hP
      clear x0 x1 x2 x3 x4 x5
      go_wp2_with fail
      refine hch.mono ?_
      rintro e w3 ⟨rfl, hc3⟩
      replace hT := hT.chg hc3
      replace hM2 := hM2.chgNo hc3
      obtain ⟨_, ⟨a0, a1, a2, a3, a4, a5⟩, _⟩ := id hT
      have hpo := hpoF w3 hM2.2
      go_wp2_with fail
      refine hpo.mono ?_
      rintro e w4 ⟨rfl, hc4⟩
      replace hT := hT.chg hc4
      replace hM2 := hM2.chgNo hc4
      clear a0 a1 a2 a3 a4 a5
      obtain ⟨hk4, ⟨a0, a1, a2, a3, a4, a5⟩, b0, b1, b2, b3, b4, b5⟩ := id hT
      have hrp := hrpF w4 (hx.chgNo hk4)
      go_wp2_with fail
      refine hrp.mono ?_
      rintro e w5 ⟨rfl, hc5⟩
      replace hT := hT.chg hc5
      replace hM2 := hM2.chgNo hc5
      clear a0 a1 a2 a3 a4 a5 b0 b1 b2 b3 b4 b5 hpoF hrpF hpo hrp hch
      have hm1 := fun w' (h : HeldC wr w1.heap.size x A2 c2 ga oa i A' c' w5 w') => (Empty_any x A2 x.l.length c2 _ w' (hM2.2.chgNo h.2)).mono fun e w'' ⟨he, hc⟩ => (⟨he, h.1.chg hc, h.2.trans hc⟩ : e = _ ∧ HeldC wr w1.heap.size x A2 c2 ga oa i A' c' w5 w'')
      have hm2 := fun w' (h : HeldC wr w1.heap.size x A2 c2 ga oa i A' c' w5 w') => (rEmpty_any x A' x.l.length c' S w' (hx.chgNo h.1.1) hlenOk).mono fun e w'' ⟨he, hc⟩ => (⟨he, h.1.chg hc, h.2.trans hc⟩ : e = _ ∧ HeldC wr w1.heap.size x A2 c2 ga oa i A' c' w5 w'')
      have hm3 := fun w' (h : HeldC wr w1.heap.size x A2 c2 ga oa i A' c' w5 w') => (KeptExpr_any x _ A2 c2 A' x.l.length c' S w' (hM2.chgNo h.2) (hx.chgNo h.1.1) hlenOk).mono fun e w'' ⟨he, hc⟩ => (⟨he, h.1.chg hc, h.2.trans hc⟩ : e = _ ∧ HeldC wr w1.heap.size x A2 c2 ga oa i A' c' w5 w'')
      have hH0 : HeldC wr w1.heap.size x A2 c2 ga oa i A' c' w5 w5.drew := ⟨hT.chg (Chg.refl No w5).drew, (Chg.refl No w5).drew⟩
      have mkS : ∀ w', HeldC wr w1.heap.size x A2 c2 ga oa i A' c' w5 w' → HeldC wr w1.heap.size x A2 c2 ga oa i A' c' w5 w' ∧ w'.cell? ⟨w1.heap.size, 0, none⟩ = some (.int .i64 x.k) ∧ w'.cell? ⟨w1.heap.size, 1, none⟩ = some (.int .i64 x.f) ∧ w'.cell? ⟨w1.heap.size, 2, none⟩ = some (.int .i64 x.t) ∧ w'.cell? ⟨w1.heap.size, 3, none⟩ = some (.int .i64 x.a) ∧ w'.cell? ⟨w1.heap.size, 4, none⟩ = some (.int .i64 x.b) ∧ w'.cell? ⟨w1.heap.size, 5, none⟩ = some (.slice A2 x.l.length c2) ∧
          w'.cell? ⟨ga, oa + i * 6, none⟩ = some (.int .i64 x.k) ∧ w'.cell? ⟨ga, oa + i * 6 + 1, none⟩ = some (.int .i64 x.f) ∧ w'.cell? ⟨ga, oa + i * 6 + 2, none⟩ = some (.int .i64 x.t) ∧ w'.cell? ⟨ga, oa + i * 6 + 3, none⟩ = some (.int .i64 x.a) ∧ w'.cell? ⟨ga, oa + i * 6 + 4, none⟩ = some (.int .i64 x.b) ∧ w'.cell? ⟨ga, oa + i * 6 + 5, none⟩ = some (.slice A' x.l.length c') := fun w' h => by
        obtain ⟨h0, ⟨a0, a1, a2, a3, a4, a5⟩, b0, b1, b2, b3, b4, b5⟩ := h.1
        exact ⟨h, a0, a1, a2, a3, a4, a5, b0, b1, b2, b3, b4, b5⟩
      have MKS := Lib.hid mkS
      clear mkS
      obtain ⟨B, hB⟩ : ∃ B, EmptyP x = B := ⟨_, rfl⟩
      rw [hB] at hm1 hm2
      clear hB
      go_wp2_with fail
      go_region_held3 (fun w' => HeldC wr w1.heap.size x A2 c2 ga oa i A' c' w5 w' ∧ w'.cell? ⟨w1.heap.size, 0, none⟩ = some (.int .i64 x.k) ∧ w'.cell? ⟨w1.heap.size, 1, none⟩ = some (.int .i64 x.f) ∧ w'.cell? ⟨w1.heap.size, 2, none⟩ = some (.int .i64 x.t) ∧ w'.cell? ⟨w1.heap.size, 3, none⟩ = some (.int .i64 x.a) ∧ w'.cell? ⟨w1.heap.size, 4, none⟩ = some (.int .i64 x.b) ∧ w'.cell? ⟨w1.heap.size, 5, none⟩ = some (.slice A2 x.l.length c2) ∧
          w'.cell? ⟨ga, oa + i * 6, none⟩ = some (.int .i64 x.k) ∧ w'.cell? ⟨ga, oa + i * 6 + 1, none⟩ = some (.int .i64 x.f) ∧ w'.cell? ⟨ga, oa + i * 6 + 2, none⟩ = some (.int .i64 x.t) ∧ w'.cell? ⟨ga, oa + i * 6 + 3, none⟩ = some (.int .i64 x.a) ∧ w'.cell? ⟨ga, oa + i * 6 + 4, none⟩ = some (.int .i64 x.b) ∧ w'.cell? ⟨ga, oa + i * 6 + 5, none⟩ = some (.slice A' x.l.length c')) (exact MKS.out _ (by assumption)) (first | (go_at_call 33; refine (hm1 _ (by assumption)).mono ?_; rintro e w2 ⟨rfl, hH⟩) | (go_at_call 34; refine (hm2 _ (by assumption)).mono ?_; rintro e w2 ⟨rfl, hH⟩) | (go_at_call 19; refine (hm3 _ (by assumption)).mono ?_; rintro e w2 ⟨rfl, hH⟩))
      have hW := hc.trans hH.1.1
      go_wp2
      exact ⟨⟨i + 1, by omega, by go_num, hW⟩, by simp [intOf]; omega⟩
    · obtain rfl : i = l.length := by omega
      obtain ⟨h1, h2, h3⟩ := HG.out
      have hkn := known_any wr (h1.chgNo hc) (by have := hc.size; omega) (h3.chgNo hc)
      go_wp2_with fail
      refine hkn.mono ?_
      rintro e w5 ⟨rfl, hc5⟩
      go_wp2
      go_ret
      exact ⟨rfl, hc.trans hc5⟩
end Go.Proofs.YticipgjbgcdccaaDoor
namespace Go.Proofs.YticipgjbgcdccaaDoor
open Go.RowKit

theorem asked_ok {x : Ex} (h : checkP x = 0) {n : Nat} (hl : n ≤ 262144) : askedP x n = 0 := by
  unfold askedP; rw [if_neg (by rw [h]; simp), if_neg (by omega)]
theorem asked_few (x : Ex) {n : Nat} (hl : n ≤ 262144) : askedP x n = checkP x := by
  unfold askedP
  split
  · rfl
  · rename_i q; rw [if_neg (by omega)]; simp at q; exact q.symm
theorem longestP_snd (x : Ex) {bs : List Nat} (hl : bs.length ≤ 262144) : (longestP x bs).2 = checkP x := by
  unfold longestP
  rw [asked_few x hl]
  split
  · rfl
  · rename_i q; simp at q; exact q.symm
theorem longestP_bad {x : Ex} {bs : List Nat} (hl : bs.length ≤ 262144) (h : checkP x ≠ 0) : (longestP x bs).1 = 0 := by
  unfold longestP; rw [asked_few x hl, if_pos h]
theorem matchP_few {x : Ex} (h : checkP x = 0) {bs : List Nat} (hl : bs.length ≤ 262144) : (matchP x bs).2 = 0 := by rw [matchP_snd, asked_ok h hl]
theorem match_iff {x : Ex} (h : checkP x = 0) {bs : List Nat} (hl : bs.length ≤ 262144) : (matchP x bs).1 = true ↔ Lang x bs := matchP_lang (asked_ok h hl)
theorem liveP_few {x : Ex} (h : checkP x = 0) {bs : List Nat} (hl : bs.length ≤ 262144) : (liveP x bs).2 = 0 := by
  unfold liveP; rw [asked_ok h hl, if_neg (by simp)]
theorem live_iff {x : Ex} (h : checkP x = 0) {bs : List Nat} (hl : bs.length ≤ 262144) : (liveP x bs).1 = true ↔ ∃ v, Lang x (bs ++ v) := by
  obtain ⟨hR, _, hp⟩ := checkP_nodes x h
  unfold liveP
  rw [asked_ok h hl, if_neg (by simp)]
  exact (ran_spec x hR hp bs).2
theorem longest_spec {x : Ex} (h : checkP x = 0) {bs : List Nat} (hl : bs.length ≤ 262144) : LongAt (Lang x) bs bs.length (longestP x bs).1 := by
  obtain ⟨hR, _, hp⟩ := checkP_nodes x h
  unfold longestP
  rw [asked_ok h hl, if_neg (by simp)]
  exact (ran_spec x hR hp bs).1
theorem empty_match {x : Ex} (h : checkP x = 0) : EmptyP x = (matchP x []).1 := by
  obtain ⟨hR, _, hp⟩ := checkP_nodes x h
  rw [Bool.eq_iff_iff, match_iff h (by simp), ← emptyP_lang _ x (Nat.lt_succ_self _) hR]
  unfold EmptyP
  rw [decide_eq_true h]; simp
theorem short_match {x : Ex} (h : checkP x = 0) : (matchP x (shortestP x)).1 = true ∧ (matchP x (shortestP x)).2 = 0 ∧ (shortestP x).length ≤ 4096 := by
  obtain ⟨hR, _, hp⟩ := checkP_nodes x h
  have h1 := (shortP_len _ x (Nat.lt_succ_self _) hR hp).1
  have e : shortestP x = shortP x := by unfold shortestP; rw [if_pos h]
  rw [e]
  exact ⟨(match_iff h (by omega)).2 (shortP_least _ x (Nat.lt_succ_self _) hR).1, matchP_few h (by omega), by omega⟩
theorem ltB_or {s t : List Nat} (h : ltB t s = false) : ltB s t = true ∨ s = t := by
  cases q : ltB s t with
  | true => exact .inl rfl
  | false => exact .inr (ltB_total s t q h)
theorem short_least {x : Ex} (h : checkP x = 0) {t : List Nat} (ht : Lang x t) : (shortestP x).length ≤ t.length ∧ ((shortestP x).length = t.length → ltB (shortestP x) t = true ∨ shortestP x = t) := by
  obtain ⟨hR, _, hp⟩ := checkP_nodes x h
  have e : shortestP x = shortP x := by unfold shortestP; rw [if_pos h]
  rw [e]
  obtain ⟨h1, h2⟩ := lessB_false.1 ((shortP_least _ x (Nat.lt_succ_self _) hR).2 t ht)
  exact ⟨h1, fun q => ltB_or (h2 q.symm)⟩

/-- the last place before k that M holds of -/
def LastAt (M : Nat → Prop) (k : Nat) (lo : Int) : Prop := (lo = -1 ∧ ∀ j, j < k → ¬ M j) ∨ ∃ j : Nat, j < k ∧ lo = j ∧ M j ∧ ∀ i, j < i → i < k → ¬ M i
theorem LastAt.zero (M : Nat → Prop) : LastAt M 0 (-1) := .inl ⟨rfl, fun j hj => by omega⟩
theorem LastAt.yes {M : Nat → Prop} {k : Nat} (hk : M k) : LastAt M (k + 1) k := .inr ⟨k, by omega, rfl, hk, fun i _ _ => by omega⟩
theorem LastAt.no {M : Nat → Prop} {k : Nat} {lo : Int} (h : LastAt M k lo) (hk : ¬ M k) : LastAt M (k + 1) lo := by
  rcases h with ⟨h1, h2⟩ | ⟨j, h1, h2, h3, h4⟩
  · refine .inl ⟨h1, fun j hj => ?_⟩
    by_cases e : j = k
    · subst e; exact hk
    · exact h2 j (by omega)
  · refine .inr ⟨j, by omega, h2, h3, fun i hi hik => ?_⟩
    by_cases e : i = k
    · subst e; exact hk
    · exact h4 i hi (by omega)
theorem LastAt.long {L : List Nat → Prop} {bs : List Nat} {lo n : Int} (h : LastAt (fun j => L (bs.take j)) (bs.length + 1) lo) (hn : LongAt L bs bs.length n) : lo = n := by
  rcases h with ⟨h1, h2⟩ | ⟨j, h1, h2, h3, h4⟩
  · rcases hn with ⟨g1, _⟩ | ⟨k, g1, g2, g3, _⟩
    · omega
    · exact absurd g3 (h2 k (by omega))
  · rcases hn with ⟨_, g2⟩ | ⟨k, g1, g2, g3, g4⟩
    · exact absurd h3 (g2 j (by omega))
    · rcases Nat.lt_trichotomy j k with q | q | q
      · exact absurd g3 (h4 k q (by omega))
      · omega
      · exact absurd h3 (g4 j q (by omega))
theorem live_down {L : List Nat → Prop} {bs : List Nat} {k : Nat} (h : ∃ v, L (bs.take (k + 1) ++ v)) : ∃ v, L (bs.take k ++ v) := by
  obtain ⟨v, hv⟩ := h
  refine ⟨(bs.drop k).take 1 ++ v, ?_⟩
  rw [← List.append_assoc]
  have e : bs.take k ++ (bs.drop k).take 1 = bs.take (k + 1) := (List.take_add).symm
  rw [e]; exact hv

/-- Hand, Match, Longest, Live of a pattern on a copy of bytes -/
theorem HdF {w0 : World} {B : Option Addr} {m cb : Nat} {bs : List Nat} (hB : Byt w0 B m cb bs) (hlen : bs.length ≤ 200) (w' : World) (h : Chg No w0 w') :
    Calls Tryd.prog 22 #[.slice B m cb] w' fun e w'' => ∃ g, e = .returned (.slice (some ⟨g, 0, none⟩) m (m + 2)) ∧ HandAt w'' g bs ∧ Chg No w0 w'' ∧ Chg No w' w'' :=
  (Hand_any B m cb bs w' (hB.chgNo h) (by omega)).mono fun _ _ ⟨g, he, _, hh, hc⟩ => ⟨g, by rw [he, hB.1], hh, h.trans hc, hc⟩
theorem MtF {w0 : World} (hd : Deb w0) (hg : 0 < w0.heap.size) {x : Ex} {A : Option Addr} {n c : Nat} {S : Nat → Prop} (hs : Sl w0 S A n c x.l) (m : Nat) (bs : List Nat) (hm : m = bs.length) (hlen : bs.length ≤ 200) (Z : Bool) (E : Int) (hZ : matchP x bs = (Z, E)) (w' : World) (g : Nat) (hh : HandAt w' g bs) (h : Chg No w0 w') :
    Calls Tryd.prog 21 #[.agg #[.int .i64 x.k, .int .i64 x.f, .int .i64 x.t, .int .i64 x.a, .int .i64 x.b, .slice A n c], .slice (some ⟨g, 0, none⟩) m (m + 2)] w' fun e w'' => e = .returned (.tuple #[.bool Z, .int .i64 E]) ∧ Chg No w0 w'' ∧ Chg No w' w'' := by
  subst hm
  exact (Match_any x A n c S w' (hs.chgNo h) (some ⟨g, 0, none⟩) bs.length (bs.length + 2) bs (hh.byt (by omega)) (hd.chgNo h) (by have := h.size; omega)).mono fun _ _ ⟨he, hc⟩ => ⟨by rw [he, hZ], h.trans hc, hc⟩
theorem LvF {w0 : World} (hd : Deb w0) (hg : 0 < w0.heap.size) {x : Ex} {A : Option Addr} {n c : Nat} {S : Nat → Prop} (hs : Sl w0 S A n c x.l) (m : Nat) (bs : List Nat) (hm : m = bs.length) (hlen : bs.length ≤ 200) (Z : Bool) (E : Int) (hZ : liveP x bs = (Z, E)) (w' : World) (g : Nat) (hh : HandAt w' g bs) (h : Chg No w0 w') :
    Calls Tryd.prog 26 #[.agg #[.int .i64 x.k, .int .i64 x.f, .int .i64 x.t, .int .i64 x.a, .int .i64 x.b, .slice A n c], .slice (some ⟨g, 0, none⟩) m (m + 2)] w' fun e w'' => e = .returned (.tuple #[.bool Z, .int .i64 E]) ∧ Chg No w0 w'' ∧ Chg No w' w'' := by
  subst hm
  exact (Live_any x A n c S w' (hs.chgNo h) (some ⟨g, 0, none⟩) bs.length (bs.length + 2) bs (hh.byt (by omega)) (hd.chgNo h) (by have := h.size; omega)).mono fun _ _ ⟨he, hc⟩ => ⟨by rw [he, hZ], h.trans hc, hc⟩
theorem LoF {w0 : World} (hd : Deb w0) (hg : 0 < w0.heap.size) {x : Ex} {A : Option Addr} {n c : Nat} {S : Nat → Prop} (hs : Sl w0 S A n c x.l) (m : Nat) (bs : List Nat) (hm : m = bs.length) (hlen : bs.length ≤ 200) (Z : Int) (E : Int) (hZ : longestP x bs = (Z, E)) (w' : World) (g : Nat) (hh : HandAt w' g bs) (h : Chg No w0 w') :
    Calls Tryd.prog 25 #[.agg #[.int .i64 x.k, .int .i64 x.f, .int .i64 x.t, .int .i64 x.a, .int .i64 x.b, .slice A n c], .slice (some ⟨g, 0, none⟩) m (m + 2)] w' fun e w'' => e = .returned (.tuple #[.int .i64 Z, .int .i64 E]) ∧ Chg No w0 w'' ∧ Chg No w' w'' := by
  subst hm
  exact (Longest_any x A n c S w' (hs.chgNo h) (some ⟨g, 0, none⟩) bs.length (bs.length + 2) bs (hh.byt (by omega)) (hd.chgNo h) (by have := h.size; omega)).mono fun _ _ ⟨he, hc⟩ => ⟨by rw [he, hZ], h.trans hc, hc⟩
end Go.Proofs.YticipgjbgcdccaaDoor
namespace Go.Proofs.YticipgjbgcdccaaDoor
open Go.RowKit

/-- rows of bytes in memory -/
def RowsAt (w : World) (A : Option Addr) (l : List (List Nat)) : Prop := l ≠ [] → ∃ g o, A = some ⟨g, o, none⟩ ∧ g < w.heap.size ∧ ∀ (i : Nat) (h : i < l.length), ∃ B cb, w.cell? ⟨g, o + i, none⟩ = some (.slice B l[i].length cb) ∧ Byt w B l[i].length cb l[i]
theorem RowsAt.at_ {w : World} {A : Option Addr} {l : List (List Nat)} (h : RowsAt w A l) (i : Nat) (hi : i < l.length) : ∃ g o B cb, A = some ⟨g, o, none⟩ ∧ g < w.heap.size ∧ w.cell? ⟨g, o + i, none⟩ = some (.slice B l[i].length cb) ∧ Byt w B l[i].length cb l[i] := by
  obtain ⟨g, o, h1, h2, h3⟩ := h (fun e => by rw [e] at hi; simp at hi)
  obtain ⟨B, cb, h4, h5⟩ := h3 i hi
  exact ⟨g, o, B, cb, h1, h2, h4, h5⟩
theorem RowsAt.chgNo {w w' : World} {A : Option Addr} {l : List (List Nat)} (h : RowsAt w A l) (hc : Chg No w w') : RowsAt w' A l := fun hne => by
  obtain ⟨g, o, h1, h2, h3⟩ := h hne
  refine ⟨g, o, h1, Nat.lt_of_lt_of_le h2 hc.size, fun i hi => ?_⟩
  obtain ⟨B, cb, h4, h5⟩ := h3 i hi
  exact ⟨B, cb, (hc.below.cell (p := ⟨g, o + i, none⟩) h2).trans h4, h5.chgNo hc⟩

set_option maxHeartbeats 1000000 in
set_option maxRecDepth 100000 in
theorem Back_any (g : Nat) (B : Option Addr) (cb : Nat) (bs : List Nat) (w : World) (hH : HandAt w g bs) (hB : Byt w B bs.length cb bs) (hlen : bs.length ≤ 140737488355328) :
    Calls Tryd.prog 30 #[.slice (some ⟨g, 0, none⟩) bs.length (bs.length + 2), .slice B bs.length cb] w fun e w' => e = .returned (.bool true) ∧ Chg No w w' := by
  have hml : (bs.map byteV).length = bs.length := List.length_map _
  have z0 := hH.1.cell bs.length
  have z1 := hH.1.cell (bs.length + 1)
  simp only [List.getElem?_toArray] at z0 z1
  rw [List.getElem?_append_right (by omega), hml, Nat.sub_self] at z0
  rw [List.getElem?_append_right (by omega), hml, show bs.length + 1 - bs.length = 1 by omega] at z1
  simp only [List.getElem?_cons_zero, List.getElem?_cons_succ] at z0 z1
  have c1 := conv_byt (hH.byt hlen)
  have c2 := conv_byt hB
  have e1 : bs.length + 1 < bs.length + 2 := by omega
  have e2 : bs.length < bs.length + 2 := by omega
  clear hml
  go_enter Tryd.func30, Tryd.ntmps30
  go_wp2
  go_ret
  exact ⟨rfl, Chg.refl _ _⟩

def HeldM (w0 : World) (g : Nat) (b : List Nat) (w : World) : Prop := Chg No w0 w ∧ HandAt w g b

set_option maxHeartbeats 4000000 in
set_option maxRecDepth 100000 in
theorem ExprMatches_any (x : Ex) (A : Option Addr) (n c : Nat) (S : Nat → Prop) (w : World) (hlx : Sl w S A n c x.l) (okx : lenOk x) (l : List (List Nat)) (R : Option Addr) (cr : Nat) (hR : RowsAt w R l) (hn : l.length ≤ 9223372036854775807)
    (hlen : ∀ b ∈ l, b.length ≤ 140737488355328) (hd : Deb w) (hg : 0 < w.heap.size) (ht : Tab w) :
    Calls Tryd.prog 7 #[.agg #[.int .i64 x.k, .int .i64 x.f, .int .i64 x.t, .int .i64 x.a, .int .i64 x.b, .slice A n c], .slice R l.length cr] w fun e w' => e = .returned (.bool true) ∧ Chg No w w' := by
  obtain rfl := hlx.1
  have HG := Lib.hid (show Deb w ∧ 0 < w.heap.size ∧ Tab w from ⟨hd, hg, ht⟩)
  have HR := Lib.hid hR
  have HLEN := Lib.hid hlen
  clear hd hg ht hR hlen
  have hba := Blk.new w 25 #[.int .i64 x.k, .int .i64 x.f, .int .i64 x.t, .int .i64 x.a, .int .i64 x.b, .slice A x.l.length c]
  have hc0 : Chg No w (w.alloc (.cells #[.int .i64 x.k, .int .i64 x.f, .int .i64 x.t, .int .i64 x.a, .int .i64 x.b, .slice A x.l.length c] 25)) := (Chg.refl _ _).alloc _
  have htw := TwinExpr_any x A x.l.length c S _ (hlx.chgNo hc0) okx
  obtain ⟨a0, a1, a2, a3, a4, a5⟩ := ex_cells hba
  go_enter Tryd.func7, Tryd.ntmps7
  go_wp2_with fail
  refine htw.mono ?_
  rintro e w1 ⟨A2, c2, rfl, hM, hc1⟩
  clear htw a0 a1 a2 a3 a4 a5
  have hb1 := Blk.new w1 25 #[.int .i64 x.k, .int .i64 x.f, .int .i64 x.t, .int .i64 x.a, .int .i64 x.b, .slice A2 x.l.length c2]
  have k1 : Chg No w1 (w1.alloc (.cells #[.int .i64 x.k, .int .i64 x.f, .int .i64 x.t, .int .i64 x.a, .int .i64 x.b, .slice A2 x.l.length c2] 25)) := (Chg.refl No w1).alloc _
  replace hM := hM.chgNo k1
  replace hba := (hba.chg hc1 id).chg k1 id
  replace hlx := ((hlx.chgNo hc0).chgNo hc1).chgNo k1
  have hC := (hc0.trans hc1).trans k1
  go_wp2_with fail
  obtain ⟨W1, hW1⟩ : ∃ W1, (w1.alloc (.cells #[.int .i64 x.k, .int .i64 x.f, .int .i64 x.t, .int .i64 x.a, .int .i64 x.b, .slice A2 x.l.length c2] 25)) = W1 := ⟨_, rfl⟩
  obtain ⟨G, hG⟩ : ∃ G, w1.heap.size = G := ⟨_, rfl⟩
  obtain ⟨G0, hG0⟩ : ∃ G0, w.heap.size = G0 := ⟨_, rfl⟩
  obtain ⟨base, hbase⟩ : ∃ b, (w.alloc (.cells #[.int .i64 x.k, .int .i64 x.f, .int .i64 x.t, .int .i64 x.a, .int .i64 x.b, .slice A x.l.length c] 25)).heap.size = b := ⟨_, rfl⟩
  rw [hW1, hbase] at hM
  rw [hW1, hG0] at hba
  rw [hW1, hG] at hb1
  rw [hW1] at hlx hC ⊢
  rw [hG, hG0]
  replace HG := Lib.hid (show Deb W1 ∧ 0 < W1.heap.size ∧ Tab W1 from ⟨HG.out.1.chgNo hC, by have := HG.out.2.1; have := hC.size; omega, HG.out.2.2.chgNo hC⟩)
  replace HR := Lib.hid (HR.out.chgNo hC)
  clear hW1 hG hG0 hbase hc0 hc1 k1
  have KM : Hid (∀ w', Chg No W1 w' → w'.cell? ⟨G, 0, none⟩ = some (.int .i64 x.k) ∧ w'.cell? ⟨G, 1, none⟩ = some (.int .i64 x.f) ∧ w'.cell? ⟨G, 2, none⟩ = some (.int .i64 x.t) ∧ w'.cell? ⟨G, 3, none⟩ = some (.int .i64 x.a) ∧ w'.cell? ⟨G, 4, none⟩ = some (.int .i64 x.b) ∧ w'.cell? ⟨G, 5, none⟩ = some (.slice A2 x.l.length c2)) := Lib.hid fun w' h => ex_cells (hb1.chg h id)
  have KE : Hid (∀ w', Chg No W1 w' → w'.cell? ⟨G0, 0, none⟩ = some (.int .i64 x.k) ∧ w'.cell? ⟨G0, 1, none⟩ = some (.int .i64 x.f) ∧ w'.cell? ⟨G0, 2, none⟩ = some (.int .i64 x.t) ∧ w'.cell? ⟨G0, 3, none⟩ = some (.int .i64 x.a) ∧ w'.cell? ⟨G0, 4, none⟩ = some (.int .i64 x.b) ∧ w'.cell? ⟨G0, 5, none⟩ = some (.slice A x.l.length c)) := Lib.hid fun w' h => ex_cells (hba.chg h id)
  clear hb1 hba
  go_loopw [6] (fun v6 wr => ∃ i : Nat, i ≤ l.length ∧ v6 = .int .i64 (i : Int) ∧ Chg No W1 wr) (fun v _ => l.length - (intOf v).toNat)
  case atStart => exact ⟨0, Nat.zero_le _, rfl, Chg.refl _ _⟩
  case round =>
    obtain ⟨i, hi, rfl, hk⟩ := hrel
    by_cases hlt : i < l.length
    · obtain ⟨gr, o, B, cb, rfl, hgr, z0, hB⟩ := HR.out.at_ i hlt
      have hlb := HLEN.out _ (List.getElem_mem hlt)
      generalize l[i] = b at z0 hB hlb
      have HRR : Hid (∀ w', Chg No W1 w' → w'.cell? ⟨gr, o + i, none⟩ = some (.slice B b.length cb) ∧ Byt w' B b.length cb b) := Lib.hid fun w' h => ⟨(h.below.cell (p := ⟨gr, o + i, none⟩) hgr).trans z0, hB.chgNo h⟩
      clear z0 hB hgr
      obtain ⟨z0, hB⟩ := HRR.out wr hk
      go_wp2_with fail
      refine (Hand_any B _ cb b wr hB hlb).mono ?_
      rintro e w2 ⟨gh, rfl, hgh, hH, hc2⟩
      replace hk := hk.trans hc2
      clear z0 hgh hc2
      obtain ⟨a0, a1, a2, a3, a4, a5⟩ := KM.out _ hk
      have hq := Match_any x A2 x.l.length c2 _ w2 (hM.2.chgNo hk) _ _ _ b (hH.byt hlb) (HG.out.1.chgNo hk) (by have := HG.out.2.1; have := hk.size; omega)
      obtain ⟨⟨m1, e1⟩, hm1⟩ : ∃ q, matchP x b = q := ⟨_, rfl⟩
      have HM1 := Lib.hid hm1
      rw [hm1] at hq
      clear hm1
      go_wp2_with fail
      refine hq.mono ?_
      rintro e w3 ⟨rfl, hc3⟩
      replace hH := hH.chgNo hc3
      replace hk := hk.trans hc3
      clear hc3 a0 a1 a2 a3 a4 a5 hq
      obtain ⟨a0, a1, a2, a3, a4, a5⟩ := KM.out _ hk
      have hq := Longest_any x A2 x.l.length c2 _ w3 (hM.2.chgNo hk) _ _ _ b (hH.byt hlb) (HG.out.1.chgNo hk) (by have := HG.out.2.1; have := hk.size; omega)
      obtain ⟨⟨m2, e2⟩, hm2⟩ : ∃ q, longestP x b = q := ⟨_, rfl⟩
      have HM2 := Lib.hid hm2
      rw [hm2] at hq
      clear hm2
      go_wp2_with fail
      refine hq.mono ?_
      rintro e w4 ⟨rfl, hc4⟩
      replace hH := hH.chgNo hc4
      replace hk := hk.trans hc4
      clear hc4 a0 a1 a2 a3 a4 a5 hq
      obtain ⟨a0, a1, a2, a3, a4, a5⟩ := KM.out _ hk
      have hq := Live_any x A2 x.l.length c2 _ w4 (hM.2.chgNo hk) _ _ _ b (hH.byt hlb) (HG.out.1.chgNo hk) (by have := HG.out.2.1; have := hk.size; omega)
      obtain ⟨⟨m3, e3⟩, hm3⟩ : ∃ q, liveP x b = q := ⟨_, rfl⟩
      have HM3 := Lib.hid hm3
      rw [hm3] at hq
      clear hm3
      go_wp2_with fail
      refine hq.mono ?_
      rintro e w5 ⟨rfl, hc5⟩
      replace hH := hH.chgNo hc5
      replace hk := hk.trans hc5
      clear hc5 a0 a1 a2 a3 a4 a5 hq
      have KS : Hid (∀ w', HeldM W1 gh b w' → HeldM W1 gh b w' ∧ (w'.cell? ⟨G0, 0, none⟩ = some (.int .i64 x.k) ∧ w'.cell? ⟨G0, 1, none⟩ = some (.int .i64 x.f) ∧ w'.cell? ⟨G0, 2, none⟩ = some (.int .i64 x.t) ∧ w'.cell? ⟨G0, 3, none⟩ = some (.int .i64 x.a) ∧ w'.cell? ⟨G0, 4, none⟩ = some (.int .i64 x.b) ∧ w'.cell? ⟨G0, 5, none⟩ = some (.slice A x.l.length c)) ∧ w'.cell? ⟨gr, o + i, none⟩ = some (.slice B b.length cb)) := Lib.hid fun w' h => ⟨h, KE.out _ h.1, (HRR.out _ h.1).1⟩
      have hM5 : HeldM W1 gh b w5 := ⟨hk, hH⟩
      clear hk hH
      have HQ := fun w' (h : HeldM W1 gh b w') => (rMatch_any x A x.l.length c S w' (hlx.chgNo h.1) okx _ _ _ b (HRR.out w' h.1).2).mono fun e w'' ⟨he, hc⟩ => (⟨he, h.1.trans hc, h.2.chgNo hc⟩ : e = _ ∧ HeldM W1 gh b w'')
      simp only [HM1.out] at HQ
      have hD : HeldM W1 gh b w5.drew := ⟨hM5.1.drew, hM5.2⟩
      go_wp2_with fail
      go_region_held3 (fun w' => HeldM W1 gh b w' ∧ (w'.cell? ⟨G0, 0, none⟩ = some (.int .i64 x.k) ∧ w'.cell? ⟨G0, 1, none⟩ = some (.int .i64 x.f) ∧ w'.cell? ⟨G0, 2, none⟩ = some (.int .i64 x.t) ∧ w'.cell? ⟨G0, 3, none⟩ = some (.int .i64 x.a) ∧ w'.cell? ⟨G0, 4, none⟩ = some (.int .i64 x.b) ∧ w'.cell? ⟨G0, 5, none⟩ = some (.slice A x.l.length c)) ∧ w'.cell? ⟨gr, o + i, none⟩ = some (.slice B b.length cb)) ((refine KS.out _ ?_; with_reducible assumption)) (first | (go_at_call 27; (with_reducible refine (HQ _ (by assumption)).mono ?_); rintro e w6 ⟨rfl, hM6⟩))
      clear HQ hD hM5
      have HQ := fun w' (h : HeldM W1 gh b w') => (rLongest_any x A x.l.length c S w' (hlx.chgNo h.1) okx _ _ _ b (HRR.out w' h.1).2).mono fun e w'' ⟨he, hc⟩ => (⟨he, h.1.trans hc, h.2.chgNo hc⟩ : e = _ ∧ HeldM W1 gh b w'')
      simp only [HM2.out] at HQ
      have hD : HeldM W1 gh b w6.drew := ⟨hM6.1.drew, hM6.2⟩
      go_wp2_with fail
      go_region_held3 (fun w' => HeldM W1 gh b w' ∧ (w'.cell? ⟨G0, 0, none⟩ = some (.int .i64 x.k) ∧ w'.cell? ⟨G0, 1, none⟩ = some (.int .i64 x.f) ∧ w'.cell? ⟨G0, 2, none⟩ = some (.int .i64 x.t) ∧ w'.cell? ⟨G0, 3, none⟩ = some (.int .i64 x.a) ∧ w'.cell? ⟨G0, 4, none⟩ = some (.int .i64 x.b) ∧ w'.cell? ⟨G0, 5, none⟩ = some (.slice A x.l.length c)) ∧ w'.cell? ⟨gr, o + i, none⟩ = some (.slice B b.length cb)) ((refine KS.out _ ?_; with_reducible assumption)) (first | (go_at_call 28; (with_reducible refine (HQ _ (by assumption)).mono ?_); rintro e w7 ⟨rfl, hM7⟩))
      clear HQ hD hM6
      have HQ := fun w' (h : HeldM W1 gh b w') => (rLive_any x A x.l.length c S w' (hlx.chgNo h.1) okx _ _ _ b (HRR.out w' h.1).2).mono fun e w'' ⟨he, hc⟩ => (⟨he, h.1.trans hc, h.2.chgNo hc⟩ : e = _ ∧ HeldM W1 gh b w'')
      simp only [HM3.out] at HQ
      have hD : HeldM W1 gh b w7.drew := ⟨hM7.1.drew, hM7.2⟩
      go_wp2_with fail
      go_region_held3 (fun w' => HeldM W1 gh b w' ∧ (w'.cell? ⟨G0, 0, none⟩ = some (.int .i64 x.k) ∧ w'.cell? ⟨G0, 1, none⟩ = some (.int .i64 x.f) ∧ w'.cell? ⟨G0, 2, none⟩ = some (.int .i64 x.t) ∧ w'.cell? ⟨G0, 3, none⟩ = some (.int .i64 x.a) ∧ w'.cell? ⟨G0, 4, none⟩ = some (.int .i64 x.b) ∧ w'.cell? ⟨G0, 5, none⟩ = some (.slice A x.l.length c)) ∧ w'.cell? ⟨gr, o + i, none⟩ = some (.slice B b.length cb)) ((refine KS.out _ ?_; with_reducible assumption)) (first | (go_at_call 29; (with_reducible refine (HQ _ (by assumption)).mono ?_); rintro e w8 ⟨rfl, hM8⟩))
      clear HQ hD hM7
      obtain ⟨hk, hH⟩ := hM8
      obtain ⟨z0, hB⟩ := HRR.out _ hk
      have hq := Back_any gh B cb b w8 hH hB hlb
      go_wp2_with (go_at_call 30; refine hq.mono ?_; rintro e w9 ⟨rfl, hc9⟩)
      exact ⟨⟨i + 1, by omega, by go_num, hk.trans hc9⟩, by simp [intOf]; omega⟩
    · obtain rfl : i = l.length := by omega
      obtain ⟨a0, a1, a2, a3, a4, a5⟩ := KM.out _ hk
      obtain ⟨b0, b1, b2, b3, b4, b5⟩ := KE.out _ hk
      have hq := KeptExpr_any x base A2 c2 A x.l.length c S wr (hM.chgNo hk) (hlx.chgNo hk) okx
      obtain ⟨h1, h2, h3⟩ := HG.out
      have hkn := fun w' (h : Chg No W1 w') => known_any w' (h1.chgNo h) (by have := h.size; omega) (h3.chgNo h)
      go_wp2_with fail
      refine hq.mono ?_
      rintro e w2 ⟨rfl, hc2⟩
      replace hk := hk.trans hc2
      go_wp2_with fail
      refine (hkn _ hk).mono ?_
      rintro e w3 ⟨rfl, hc3⟩
      go_wp2
      go_ret
      exact ⟨rfl, hC.trans (hk.trans hc3)⟩
end Go.Proofs.YticipgjbgcdccaaDoor
namespace Go.Proofs.YticipgjbgcdccaaDoor
open Go.RowKit Go.ChangeShapes Go.WideShapes Go.ChangeAt

theorem laidOut : laidOutB Tryd.prog = true := by kernel_rfl
theorem bytes41 : Tryd.prog.bytesOf 5 = 1 := by kernel_rfl
theorem cells41 : Tryd.prog.cellsOf 41 = 1 := by kernel_rfl
theorem open_bytesW {H : Type} {enc : TypeId × Value → H} {W : World} {sp : Nat → Bool} {fuel : Nat} {cs : List Value} {x : DataW H × List MemPlace} (h : DataW.trod enc Tryd.prog W 0 sp true fuel 41 cs = some x) :
    ∃ B n c bs, cs = [.slice B n c] ∧ Byt W B n c bs ∧ ((∀ q ∈ x.1.weights Tryd.prog 41, q ≤ reachBytes) → bs.length ≤ 140737488355328) := by
  obtain ⟨B, n, c, bs, e, hB, _⟩ := open_bytes h
  refine ⟨B, n, c, bs, e, hB, fun hw => ?_⟩
  obtain rfl := hB.1
  rcases DataW.trod_slice Tryd.underlying41 h with ⟨e2, rfl⟩ | ⟨a, len, cap, elems, rest, m, hm, e2, rfl, _, hlc, hcm, hel, hget, _, _⟩
  · rw [e] at e2
    injection e2 with e2 _
    injection e2 with _ e2 _
    omega
  · rw [e] at e2
    injection e2 with e2 _
    injection e2 with _ e2 _
    simp only [DataW.weights, Tryd.underlying41, bytes41, List.mem_cons, List.mem_append] at hw
    have h1 := hw _ (.inl rfl)
    simp only [List.length_map, reachBytes] at h1
    omega
/-- rows of bytes that are handed in -/
theorem open_rows {H : Type} {enc : TypeId × Value → H} {W : World} {sp : Nat → Bool} {fuel : Nat} {A : Option Addr} {n c : Nat} {x : DataW H × List MemPlace} (h : DataW.trod enc Tryd.prog W 0 sp true fuel 49 [.slice A n c] = some x) :
    ∃ l : List (List Nat), n = l.length ∧ RowsAt W A l ∧ l.length ≤ 9223372036854775807 ∧ ((∀ q ∈ x.1.weights Tryd.prog 49, q ≤ reachBytes) → ∀ b ∈ l, b.length ≤ 140737488355328) := by
  rcases DataW.trod_slice Tryd.underlying49 h with ⟨e, rfl⟩ | ⟨a, len, cap, elems, rest, m, hm, e, rfl, _, hlc, hcm, hel, hget, _, _⟩
  · injection e with e _
    injection e with e1 e2 e3
    subst e1 e2 e3
    exact ⟨[], rfl, fun h => absurd rfl h, by simp, fun _ b hb => by simp at hb⟩
  · injection e with e _
    injection e with e1 e2 e3
    subst e1 e2 e3
    rw [cells41] at hget
    obtain ⟨l, hl, hp⟩ := list_of (P := fun i (y : List Nat) => ∃ (B : Option Addr) (cb : Nat), W.cell? (a.add i) = some (.slice B y.length cb) ∧ Byt W B y.length cb y ∧
        ((∀ (z : DataW H × List MemPlace), elems[i]? = some z → ∀ q ∈ z.1.weights Tryd.prog 41, q ≤ reachBytes) → y.length ≤ 140737488355328)) n fun i hi => by
      have h1 := hget i hi
      rw [List.getElem?_eq_getElem (by omega), Nat.mul_one] at h1
      obtain ⟨cs, h2, h3⟩ := Option.bind_eq_some_iff.1 h1
      obtain ⟨B, n', cb, bs, e, hB, hw⟩ := open_bytesW h3
      obtain rfl := hB.1
      obtain ⟨_, h4⟩ := cells_get h2
      have h5 := h4 0 (by omega)
      rw [e] at h5
      have ea : ∀ b : Addr, b.add 0 = b := fun b => by obtain ⟨g, o, s⟩ := b; simp [Addr.add]
      rw [ea] at h5
      exact ⟨bs, B, cb, h5, hB, fun hz => hw (hz _ (List.getElem?_eq_getElem (by omega)))⟩
    have hcm' : c ≤ 9223372036854775807 := by simpa [maxLen] using hcm
    refine ⟨l, hl.symm, fun hne => ?_, by omega, fun hw => ?_⟩
    · have h0 : 0 < l.length := List.length_pos_iff.2 hne
      obtain ⟨g, o, sp'⟩ := a
      obtain ⟨B0, cb0, hz, _, _⟩ := hp 0 h0
      have ea : ∀ b : Addr, b.add 0 = b := fun b => by obtain ⟨g, o, s⟩ := b; simp [Addr.add]
      rw [ea] at hz
      have hg : g < W.heap.size := World.block_lt_of_cell? _ _ hz
      have hsp : sp' = none := by
        unfold World.cell? at hz
        cases hh : W.heap[g]? with
        | none => simp [hh] at hz
        | some ob =>
          cases ob <;> simp [hh] at hz
          cases sp' with
          | none => rfl
          | some _ => simp at hz
      subst hsp
      refine ⟨g, o, rfl, hg, fun i hi => ?_⟩
      obtain ⟨B, cb, h1, h2, _⟩ := hp i hi
      have ea : (⟨g, o, none⟩ : Addr).add i = ⟨g, o + i, none⟩ := by unfold Addr.add; split <;> simp_all
      rw [ea] at h1
      exact ⟨B, cb, h1, h2⟩
    · simp only [DataW.weights, Tryd.underlying49, List.mem_cons, List.mem_append] at hw
      intro b hb
      obtain ⟨i, hi, rfl⟩ := List.getElem_of_mem hb
      obtain ⟨B, cb, _, _, h2⟩ := hp i hi
      exact h2 fun z hz q hq => hw q (.inr (.inl (weightsAll_mem (List.mem_map.2 ⟨z, List.mem_of_getElem? hz, rfl⟩) q hq)))
abbrev matchesArgs : Array Value := #[.agg #[.int .i64 0, .int .i64 0, .int .i64 0, .int .i64 0, .int .i64 0, .slice none 0 0], .slice none 0 0]
theorem matches_witness (os : Os) {H : Type} (enc : TypeId × Value → H) :
    (OpenSpec.ofChange Rows.exprMatchesSpec).preRow enc Tryd.prog Tryd.f7 Rows.exprMatchesRow.domain false Rows.exprMatchesRow.laid ((laidWorld os).forCall (fun _ _ => 0) ⟨#[], matchesArgs, []⟩).memory matchesArgs := by
  have hw : (DataW.whole enc Tryd.prog ((laidWorld os).forCall (fun _ _ => 0) ⟨#[], matchesArgs, []⟩).memory Tryd.f7.params.toList (OpenSpec.ofChange Rows.exprMatchesSpec).vars false matchesArgs.toList 8).map (fun x => (x.1, x.2.1)) =
      some ([.agg [.lit (.int .i64 0), .lit (.int .i64 0), .lit (.int .i64 0), .lit (.int .i64 0), .lit (.int .i64 0), .nil], .nil], []) := by kernel_rfl
  obtain ⟨⟨x1, x2, x3⟩, hx, hx1⟩ := Option.map_eq_some_iff.1 hw
  simp only [Prod.mk.injEq] at hx1
  obtain ⟨rfl, rfl⟩ := hx1
  exact OpenSpec.preRow_of_cond 8 hx (by kernel_rfl) (fun k hk => by cases hk) (by kernel_rfl) (laid_met os _)

set_option maxRecDepth 100000 in
set_option maxHeartbeats 2000000 in
theorem matches_lifted (os : Os) (started : os.Started) (H : Type) (enc : TypeId × Value → H) (F : Stop.Interp) :
    ReturnsInHanded {} Tryd.checked os 7 .any ((OpenSpec.ofChange Rows.exprMatchesSpec).preRow enc Tryd.prog Tryd.f7 Rows.exprMatchesRow.domain false Rows.exprMatchesRow.laid)
      (((OpenSpec.ofChange Rows.exprMatchesSpec).at F).post enc Tryd.prog Tryd.f7 false true false false) := by
  refine returnsInHanded_of_row (C := Tryd.checked) (s := OpenSpec.ofChange Rows.exprMatchesSpec) own started (by kernel_rfl) Tryd.func7
    (witness_row_atRef (enc := enc) (C := Tryd.checked) false (laidWorld os) matchesArgs rfl (by kernel_rfl) (by kernel_rfl) (by kernel_rfl) (matches_witness os enc)) ?_
  intro W base args ds gs before hval0 hW _ _ hsz0 hL _ _
  have hsz : (DataW.weightsEach Tryd.prog (Tryd.f7.params.toList ++ (OpenSpec.ofChange Rows.exprMatchesSpec).bare.plain.varTypes Tryd.prog) (ds ++ gs)).all (· ≤ reachBytes) = true := hsz0
  clear hsz0
  have hval : ∀ (j : Nat) t v, Tryd.f7.params[j]? = some t → args[j]? = some v → Value.okWide Tryd.prog W .any base t v := hval0
  have hW' := hW
  obtain ⟨p, q, hA0, hV0, rfl, _, _⟩ := hW
  have hA : DataW.TrodAll enc Tryd.prog W 0 (fun _ => true) true Tryd.f7.params.toList args.toList ds p := hA0
  rw [Tryd.params7] at hA hval hsz
  obtain ⟨v0, v4, d0, d4, p0, p4, rfl, rfl, rfl, h0, h4⟩ := trodAll_two hA
  obtain ⟨rfl, rfl⟩ := trodVars_none hV0
  obtain ⟨c0, e0, _⟩ := okWide_struct Tryd.underlying25 (hval 0 25 v0 rfl rfl)
  obtain ⟨B0, m0, cb0, rfl⟩ := okWide_slice Tryd.underlying49 (hval 1 49 v4 rfl rfl)
  clear hA0 hV0 hval0
  simp only [List.append_nil] at hW' hsz
  have hlt : ∀ x ∈ p0 ++ p4, x.block < W.heap.size := fun x hx => by simpa using hW'.lt x (by simpa using hx)
  obtain ⟨x, A, n, c, rfl, hsx, hwx⟩ := open_ex e0 h0
  have h4k := h4
  obtain ⟨fuel4, hf4⟩ := h4
  obtain ⟨l, hln, hls, hlm, hlw⟩ := open_rows hf4
  subst hln
  have hsz1 : (DataW.weightsEach Tryd.prog [25, 49] [d0, d4]).all (fun x => decide (x ≤ reachBytes)) = true := hsz
  simp only [DataW.weightsEach, List.append_nil, List.all_eq_true, decide_eq_true_eq, List.mem_append] at hsz1
  have hokx := hwx fun q hq => hsz1 q (.inl hq)
  have hlen := hlw fun q hq => hsz1 q (.inr hq)
  obtain ⟨t1, t2, t3⟩ := tabs_of_laid hL
  refine (ExprMatches_any x A n c _ W hsx hokx l B0 cb0 hls hlm hlen t1 t2 t3).mono ?_
  rintro e W' ⟨rfl, hc⟩
  have bel := hc.below
  have e1 : ((OpenSpec.ofChange Rows.exprMatchesSpec).at F).fn H ([d0, d4] ++ []) = { results := [.lit (.bool true)], args := [d0, d4] } := rfl
  refine ⟨_, rfl, _, _, _, [], p0 ++ p4, [], hW', ?_, ?_, ?_, bel.frame _, fun h => by cases h⟩
  · rw [e1]; exact trodAll_mk1 (shut_bool Tryd.underlying4 true)
  · rw [e1]
    exact trodAll_push (Below.trod laidOut (by kernel_rfl) (of_decide_eq_true (by kernel_rfl)) h0 bel fun x hx => hlt x (by simp [hx])) (trodAll_mk1 (Below.trod laidOut (by kernel_rfl) (of_decide_eq_true (by kernel_rfl)) h4k bel fun x hx => hlt x (by simp [hx])))
  · rw [e1]; rfl

theorem matches_said : Rows.ExprMatchesSaid :=
  OpenClaim.holds_of_cond 7 Tryd.f7 rfl rfl rfl rfl rfl rfl rfl ⟨rfl, rfl, rfl, rfl, rfl⟩ rfl rfl rfl rfl rfl (by kernel_rfl) Tryd.func7 (by kernel_rfl)
    (of_decide_eq_true (by kernel_rfl)) (by unfold Func.isWrapper; rw [if_neg (of_decide_eq_false (by kernel_rfl))]; exact ⟨rfl, rfl⟩)
    (fun os started H enc _ F0 => by rw [OpenClaim.pre_eq_preRow]; exact matches_lifted os started H enc F0)

theorem exprMatches_holds : Rows.ExprMatchesCardSaid :=
  Claim7.holds_tied_plain_at .later [] [.data, .data, .data] true (true, "ff01ccba15d25dd0e238923213c7e16af5c8880d8084b1916b336e3c37e050fc") true
    matches_said (fun _ h => by cases h) (by kernel_rfl) (fun _ h => by cases h) exprMatches_row_tie rfl ⟨rfl, rfl⟩ (by kernel_rfl) rfl
    (fun f fn hf hfn => by
      obtain rfl : f = 7 := Option.some.inj ((show Tryd.prog.funcNamed "graft/graftlaw2.ExprMatches" = some 7 by kernel_rfl).symm.trans hf) |>.symm
      obtain rfl : fn = Tryd.f7 := (Option.some.inj (Tryd.func7.symm.trans hfn)).symm
      exact ⟨by kernel_rfl, fun j t ht => by
        rw [Tryd.params7] at ht
        rcases j with _ | _ | j
        · obtain rfl : t = 25 := by simpa using ht.symm
          exact (show Tryd.prog.wantsStandIn 25 = false by kernel_rfl)
        · obtain rfl : t = 49 := by simpa using ht.symm
          exact (show Tryd.prog.wantsStandIn 49 = false by kernel_rfl)
        · simp at ht⟩)
    (by kernel_rfl)
#print axioms exprMatches_holds
end Go.Proofs.YticipgjbgcdccaaDoor
