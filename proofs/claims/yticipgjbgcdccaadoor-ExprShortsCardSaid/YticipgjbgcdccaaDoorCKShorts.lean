/- Package graftlaw2: ExprChecks: the walk.
   Package graftlaw2: ExprShorts: the walk.
   The statement ExprShorts: for every list of patterns that is handed in, the law answers true and leaves all as it was: the tied card, proved. -/
import Derived.Test.YticipgjbgcdccaaDoorZ9
import Derived.Test.YticipgjbgcdccaaDoorZ8
import Derived.Deep.RegionHeld3
import Derived.Test.YticipgjbgcdccaaDoorZ12
import Derived.Test.YticipgjbgcdccaaDoorZ10
import Derived.Test.YticipgjbgcdccaaDoorTie
import Derived.Test.YticipgjbgcdccaaDoorCards
import Derived.SevenTiedAt
set_option linter.unusedSimpArgs false
set_option linter.unusedVariables false
namespace Go.Proofs.YticipgjbgcdccaaDoor
open Go.RowKit

/-- a pattern that is at hand: its variable in block g, element i of the argument; and nothing that was there has changed -/
def TwoAt (w0 : World) (g : Nat) (x : Ex) (A : Option Addr) (c : Nat) (ga oa i : Nat) (A' : Option Addr) (c' : Nat) (w : World) : Prop :=
  Chg No w0 w ∧ (w.cell? ⟨g, 0, none⟩ = some (.int .i64 x.k) ∧ w.cell? ⟨g, 1, none⟩ = some (.int .i64 x.f) ∧ w.cell? ⟨g, 2, none⟩ = some (.int .i64 x.t) ∧ w.cell? ⟨g, 3, none⟩ = some (.int .i64 x.a) ∧ w.cell? ⟨g, 4, none⟩ = some (.int .i64 x.b) ∧ w.cell? ⟨g, 5, none⟩ = some (.slice A x.l.length c)) ∧
  (w.cell? ⟨ga, oa + i * 6, none⟩ = some (.int .i64 x.k) ∧ w.cell? ⟨ga, oa + i * 6 + 1, none⟩ = some (.int .i64 x.f) ∧ w.cell? ⟨ga, oa + i * 6 + 2, none⟩ = some (.int .i64 x.t) ∧ w.cell? ⟨ga, oa + i * 6 + 3, none⟩ = some (.int .i64 x.a) ∧ w.cell? ⟨ga, oa + i * 6 + 4, none⟩ = some (.int .i64 x.b) ∧ w.cell? ⟨ga, oa + i * 6 + 5, none⟩ = some (.slice A' x.l.length c'))
theorem TwoAt.chg {w0 w w' : World} {g : Nat} {x : Ex} {A : Option Addr} {c ga oa i : Nat} {A' : Option Addr} {c' : Nat} (h : TwoAt w0 g x A c ga oa i A' c' w) (hc : Chg No w w') : TwoAt w0 g x A c ga oa i A' c' w' := by
  have car : ∀ {p : Addr} {v : Value}, w.cell? p = some v → w'.cell? p = some v := fun h => (hc.below.cell (World.block_lt_of_cell? _ _ h)).trans h
  obtain ⟨h0, ⟨a0, a1, a2, a3, a4, a5⟩, b0, b1, b2, b3, b4, b5⟩ := h
  exact ⟨h0.trans hc, ⟨car a0, car a1, car a2, car a3, car a4, car a5⟩, car b0, car b1, car b2, car b3, car b4, car b5⟩
theorem TwoAt.new {w w1 : World} {x : Ex} {A : Option Addr} {c ga oa i : Nat} {A' : Option Addr} {c' : Nat} (h1 : Chg No w w1)
    (x0 : w.cell? ⟨ga, oa + i * 6, none⟩ = some (.int .i64 x.k)) (x1 : w.cell? ⟨ga, oa + i * 6 + 1, none⟩ = some (.int .i64 x.f)) (x2 : w.cell? ⟨ga, oa + i * 6 + 2, none⟩ = some (.int .i64 x.t)) (x3 : w.cell? ⟨ga, oa + i * 6 + 3, none⟩ = some (.int .i64 x.a)) (x4 : w.cell? ⟨ga, oa + i * 6 + 4, none⟩ = some (.int .i64 x.b)) (x5 : w.cell? ⟨ga, oa + i * 6 + 5, none⟩ = some (.slice A' x.l.length c')) :
    TwoAt w w1.heap.size x A c ga oa i A' c' (w1.alloc (.cells #[.int .i64 x.k, .int .i64 x.f, .int .i64 x.t, .int .i64 x.a, .int .i64 x.b, .slice A x.l.length c] 25)) := by
  have hc := h1.alloc (.cells #[.int .i64 x.k, .int .i64 x.f, .int .i64 x.t, .int .i64 x.a, .int .i64 x.b, .slice A x.l.length c] 25)
  have car : ∀ {p : Addr} {v : Value}, w.cell? p = some v → (w1.alloc (.cells #[.int .i64 x.k, .int .i64 x.f, .int .i64 x.t, .int .i64 x.a, .int .i64 x.b, .slice A x.l.length c] 25)).cell? p = some v := fun h => (hc.below.cell (World.block_lt_of_cell? _ _ h)).trans h
  exact ⟨hc, ex_cells (Blk.new w1 25 #[.int .i64 x.k, .int .i64 x.f, .int .i64 x.t, .int .i64 x.a, .int .i64 x.b, .slice A x.l.length c]), car x0, car x1, car x2, car x3, car x4, car x5⟩

def HeldC (w0 : World) (g : Nat) (x : Ex) (A : Option Addr) (c : Nat) (ga oa i : Nat) (A' : Option Addr) (c' : Nat) (w5 w : World) : Prop := TwoAt w0 g x A c ga oa i A' c' w ∧ Chg No w5 w
theorem posP_snd (x : Ex) : (posP x).2 = checkP x := by
  unfold posP
  split
  · rfl
  · rename_i h; simp at h; simp [h]

set_option maxHeartbeats 4000000 in
set_option maxRecDepth 100000 in
theorem ExprChecks_any (l : List Ex) (A : Option Addr) (n c : Nat) (S : Nat → Prop) (w : World) (hl : Sl w S A n c l) (hok : ∀ x ∈ l, lenOk x) (hd : Deb w) (hg : 0 < w.heap.size) (ht : Tab w) :
    Calls Tryd.prog 8 #[.slice A n c] w fun e w' => e = .returned (.bool true) ∧ Chg No w w' := by
  have hn := hl.1
  subst hn
  have hcap : l.length ≤ c ∧ c ≤ 9223372036854775807 := ⟨hl.2.1, hl.2.2.1⟩
  have HO := Lib.hid hok
  have HG := Lib.hid (show Deb w ∧ 0 < w.heap.size ∧ Tab w from ⟨hd, hg, ht⟩)
  clear hok hd hg ht
  go_enter Tryd.func8, Tryd.ntmps8
  go_wp2_with fail
  go_loopw [3] (fun v3 wr => ∃ i : Nat, i ≤ l.length ∧ v3 = .int .i64 (i : Int) ∧ Chg No w wr) (fun v _ => l.length - (intOf v).toNat)
  case atStart => exact ⟨0, Nat.zero_le _, rfl, Chg.refl No _⟩
  case round =>
    obtain ⟨i, hi, rfl, hc⟩ := hrel
    by_cases hlt : i < l.length
    · have hlenOk := HO.out _ (List.getElem_mem hlt)
      obtain ⟨ga, oa, A', c', rfl, hS, x0, x1, x2, x3, x4, x5, hx⟩ := (hl.chgNo hc).at_ i hlt
      generalize l[i] = x at hlenOk x0 x1 x2 x3 x4 x5 hx
      go_wp2_with fail
      refine (TwinExpr_any x A' _ c' S wr hx hlenOk).mono ?_
      rintro e w1 ⟨A2, c2, rfl, hM, hc1⟩
      have hT := TwoAt.new (A := A2) (c := c2) hc1 x0 x1 x2 x3 x4 x5
      have hM2 : MineAt (w1.alloc (.cells #[.int .i64 x.k, .int .i64 x.f, .int .i64 x.t, .int .i64 x.a, .int .i64 x.b, .slice A2 x.l.length c2] 25)) wr.heap.size x A2 c2 := hM.chgNo ((Chg.refl No w1).alloc _)
      have hch := check_any (w1.alloc (.cells #[.int .i64 x.k, .int .i64 x.f, .int .i64 x.t, .int .i64 x.a, .int .i64 x.b, .slice A2 x.l.length c2] 25)) x.k x.f x.t x.a x.b A2 x.l.length c2 x.l _ hM2.2
      rw [Ex.eta] at hch
      have hpoF := fun w' (h : Sl w' (fun _ => True) A2 x.l.length c2 x.l) => Positions_any x A2 x.l.length c2 _ w' h
      have hrpF := fun w' (h : Sl w' S A' x.l.length c' x.l) => rPositions_any x A' x.l.length c' S w' h hlenOk
      rw [posP_snd] at hpoF hrpF
      obtain ⟨E, hE⟩ : ∃ E, checkP x = E := ⟨_, rfl⟩
      obtain ⟨P, hP⟩ : ∃ P, (posP x).1 = P := ⟨_, rfl⟩
      rw [hE] at hch hpoF hrpF
      rw [hP] at hpoF hrpF
      clear hE hP
      clear x0 x1 x2 x3 x4 x5
      go_wp2_with fail
      refine hch.mono ?_
      rintro e w3 ⟨rfl, hc3⟩
      replace hT := hT.chg hc3
      replace hM2 := hM2.chgNo hc3
      obtain ⟨_, ⟨a0, a1, a2, a3, a4, a5⟩, _⟩ := id hT
      have hpo := hpoF w3 hM2.2
      go_wp2_with fail
      refine hpo.mono ?_
      rintro e w4 ⟨rfl, hc4⟩
      replace hT := hT.chg hc4
      replace hM2 := hM2.chgNo hc4
      clear a0 a1 a2 a3 a4 a5
      obtain ⟨hk4, ⟨a0, a1, a2, a3, a4, a5⟩, b0, b1, b2, b3, b4, b5⟩ := id hT
      have hrp := hrpF w4 (hx.chgNo hk4)
      go_wp2_with fail
      refine hrp.mono ?_
      rintro e w5 ⟨rfl, hc5⟩
      replace hT := hT.chg hc5
      replace hM2 := hM2.chgNo hc5
      clear a0 a1 a2 a3 a4 a5 b0 b1 b2 b3 b4 b5 hpoF hrpF hpo hrp hch
      have hm1 := fun w' (h : HeldC wr w1.heap.size x A2 c2 ga oa i A' c' w5 w') => (Empty_any x A2 x.l.length c2 _ w' (hM2.2.chgNo h.2)).mono fun e w'' ⟨he, hc⟩ => (⟨he, h.1.chg hc, h.2.trans hc⟩ : e = _ ∧ HeldC wr w1.heap.size x A2 c2 ga oa i A' c' w5 w'')
      have hm2 := fun w' (h : HeldC wr w1.heap.size x A2 c2 ga oa i A' c' w5 w') => (rEmpty_any x A' x.l.length c' S w' (hx.chgNo h.1.1) hlenOk).mono fun e w'' ⟨he, hc⟩ => (⟨he, h.1.chg hc, h.2.trans hc⟩ : e = _ ∧ HeldC wr w1.heap.size x A2 c2 ga oa i A' c' w5 w'')
      have hm3 := fun w' (h : HeldC wr w1.heap.size x A2 c2 ga oa i A' c' w5 w') => (KeptExpr_any x _ A2 c2 A' x.l.length c' S w' (hM2.chgNo h.2) (hx.chgNo h.1.1) hlenOk).mono fun e w'' ⟨he, hc⟩ => (⟨he, h.1.chg hc, h.2.trans hc⟩ : e = _ ∧ HeldC wr w1.heap.size x A2 c2 ga oa i A' c' w5 w'')
      have hH0 : HeldC wr w1.heap.size x A2 c2 ga oa i A' c' w5 w5.drew := ⟨hT.chg (Chg.refl No w5).drew, (Chg.refl No w5).drew⟩
      have mkS : ∀ w', HeldC wr w1.heap.size x A2 c2 ga oa i A' c' w5 w' → HeldC wr w1.heap.size x A2 c2 ga oa i A' c' w5 w' ∧ w'.cell? ⟨w1.heap.size, 0, none⟩ = some (.int .i64 x.k) ∧ w'.cell? ⟨w1.heap.size, 1, none⟩ = some (.int .i64 x.f) ∧ w'.cell? ⟨w1.heap.size, 2, none⟩ = some (.int .i64 x.t) ∧ w'.cell? ⟨w1.heap.size, 3, none⟩ = some (.int .i64 x.a) ∧ w'.cell? ⟨w1.heap.size, 4, none⟩ = some (.int .i64 x.b) ∧ w'.cell? ⟨w1.heap.size, 5, none⟩ = some (.slice A2 x.l.length c2) ∧
          w'.cell? ⟨ga, oa + i * 6, none⟩ = some (.int .i64 x.k) ∧ w'.cell? ⟨ga, oa + i * 6 + 1, none⟩ = some (.int .i64 x.f) ∧ w'.cell? ⟨ga, oa + i * 6 + 2, none⟩ = some (.int .i64 x.t) ∧ w'.cell? ⟨ga, oa + i * 6 + 3, none⟩ = some (.int .i64 x.a) ∧ w'.cell? ⟨ga, oa + i * 6 + 4, none⟩ = some (.int .i64 x.b) ∧ w'.cell? ⟨ga, oa + i * 6 + 5, none⟩ = some (.slice A' x.l.length c') := fun w' h => by
        obtain ⟨h0, ⟨a0, a1, a2, a3, a4, a5⟩, b0, b1, b2, b3, b4, b5⟩ := h.1
        exact ⟨h, a0, a1, a2, a3, a4, a5, b0, b1, b2, b3, b4, b5⟩
      have MKS := Lib.hid mkS
      clear mkS
      obtain ⟨B, hB⟩ : ∃ B, EmptyP x = B := ⟨_, rfl⟩
      rw [hB] at hm1 hm2
      clear hB
      go_wp2_with fail
      go_region_held3 (fun w' => HeldC wr w1.heap.size x A2 c2 ga oa i A' c' w5 w' ∧ w'.cell? ⟨w1.heap.size, 0, none⟩ = some (.int .i64 x.k) ∧ w'.cell? ⟨w1.heap.size, 1, none⟩ = some (.int .i64 x.f) ∧ w'.cell? ⟨w1.heap.size, 2, none⟩ = some (.int .i64 x.t) ∧ w'.cell? ⟨w1.heap.size, 3, none⟩ = some (.int .i64 x.a) ∧ w'.cell? ⟨w1.heap.size, 4, none⟩ = some (.int .i64 x.b) ∧ w'.cell? ⟨w1.heap.size, 5, none⟩ = some (.slice A2 x.l.length c2) ∧
          w'.cell? ⟨ga, oa + i * 6, none⟩ = some (.int .i64 x.k) ∧ w'.cell? ⟨ga, oa + i * 6 + 1, none⟩ = some (.int .i64 x.f) ∧ w'.cell? ⟨ga, oa + i * 6 + 2, none⟩ = some (.int .i64 x.t) ∧ w'.cell? ⟨ga, oa + i * 6 + 3, none⟩ = some (.int .i64 x.a) ∧ w'.cell? ⟨ga, oa + i * 6 + 4, none⟩ = some (.int .i64 x.b) ∧ w'.cell? ⟨ga, oa + i * 6 + 5, none⟩ = some (.slice A' x.l.length c')) (exact MKS.out _ (by assumption)) (first | (go_at_call 33; refine (hm1 _ (by assumption)).mono ?_; rintro e w2 ⟨rfl, hH⟩) | (go_at_call 34; refine (hm2 _ (by assumption)).mono ?_; rintro e w2 ⟨rfl, hH⟩) | (go_at_call 19; refine (hm3 _ (by assumption)).mono ?_; rintro e w2 ⟨rfl, hH⟩))
      have hW := hc.trans hH.1.1
      go_wp2
      exact ⟨⟨i + 1, by omega, by go_num, hW⟩, by simp [intOf]; omega⟩
    · obtain rfl : i = l.length := by omega
      obtain ⟨h1, h2, h3⟩ := HG.out
      have hkn := known_any wr (h1.chgNo hc) (by have := hc.size; omega) (h3.chgNo hc)
      go_wp2_with fail
      refine hkn.mono ?_
      rintro e w5 ⟨rfl, hc5⟩
      go_wp2
      go_ret
      exact ⟨rfl, hc.trans hc5⟩
end Go.Proofs.YticipgjbgcdccaaDoor
namespace Go.Proofs.YticipgjbgcdccaaDoor
open Go.RowKit

set_option maxHeartbeats 4000000 in
set_option maxRecDepth 100000 in
theorem ExprShorts_any (l : List Ex) (A : Option Addr) (n c : Nat) (S : Nat → Prop) (w : World) (hl : Sl w S A n c l) (hok : ∀ x ∈ l, lenOk x) (hd : Deb w) (hg : 0 < w.heap.size) (ht : Tab w) :
    Calls Tryd.prog 9 #[.slice A n c] w fun e w' => e = .returned (.bool true) ∧ Chg No w w' := by
  have hn := hl.1
  subst hn
  have hcap : l.length ≤ c ∧ c ≤ 9223372036854775807 := ⟨hl.2.1, hl.2.2.1⟩
  have HO := Lib.hid hok
  have HG := Lib.hid (show Deb w ∧ 0 < w.heap.size ∧ Tab w from ⟨hd, hg, ht⟩)
  clear hok hd hg ht
  go_enter Tryd.func9, Tryd.ntmps9
  go_wp2_with fail
  go_loopw [3] (fun v3 wr => ∃ i : Nat, i ≤ l.length ∧ v3 = .int .i64 (i : Int) ∧ Chg No w wr) (fun v _ => l.length - (intOf v).toNat)
  case atStart => exact ⟨0, Nat.zero_le _, rfl, Chg.refl No _⟩
  case round =>
    obtain ⟨i, hi, rfl, hc⟩ := hrel
    by_cases hlt : i < l.length
    · have hlenOk := HO.out _ (List.getElem_mem hlt)
      obtain ⟨ga, oa, A', c', rfl, hS, x0, x1, x2, x3, x4, x5, hx⟩ := (hl.chgNo hc).at_ i hlt
      generalize l[i] = x at hlenOk x0 x1 x2 x3 x4 x5 hx
      go_wp2_with fail
      refine (TwinExpr_any x A' _ c' S wr hx hlenOk).mono ?_
      rintro e w1 ⟨A2, c2, rfl, hM, hc1⟩
      have hT := TwoAt.new (A := A2) (c := c2) hc1 x0 x1 x2 x3 x4 x5
      have hM2 : MineAt (w1.alloc (.cells #[.int .i64 x.k, .int .i64 x.f, .int .i64 x.t, .int .i64 x.a, .int .i64 x.b, .slice A2 x.l.length c2] 25)) wr.heap.size x A2 c2 := hM.chgNo ((Chg.refl No w1).alloc _)
      have hsh := Shortest_any x A2 x.l.length c2 _ (w1.alloc (.cells #[.int .i64 x.k, .int .i64 x.f, .int .i64 x.t, .int .i64 x.a, .int .i64 x.b, .slice A2 x.l.length c2] 25)) hM2.2
      have hrsF := fun w' (h : Sl w' S A' x.l.length c' x.l) => rShortest_any x A' x.l.length c' S w' h hlenOk
      obtain ⟨E, hE⟩ : ∃ E, checkP x = E := ⟨_, rfl⟩
      obtain ⟨T, hT'⟩ : ∃ T, shortestP x = T := ⟨_, rfl⟩
      rw [hE, hT'] at hsh
      simp only [hE, hT'] at hrsF
      clear hE hT'
      clear x0 x1 x2 x3 x4 x5
      go_wp2_with fail
      refine hsh.mono ?_
      rintro e w5 ⟨B1, m1, cb1, rfl, hB1, hc5⟩
      replace hT := hT.chg hc5
      replace hM2 := hM2.chgNo hc5
      clear hsh
      obtain ⟨_, _, b0, b1, b2, b3, b4, b5⟩ := id hT
      have hrs := hrsF w5 (hx.chgNo hT.1)
      go_wp2_with fail
      refine hrs.mono ?_
      rintro e w6 ⟨B2, m2, cb2, rfl, hB2, hc6⟩
      replace hT := hT.chg hc6
      replace hM2 := hM2.chgNo hc6
      have HBX := Lib.hid (hB1.chgNo hc6)
      have HBY := Lib.hid hB2
      clear b0 b1 b2 b3 b4 b5 hrs hB1 hB2
      have hm3 := fun w' (h : HeldC wr w1.heap.size x A2 c2 ga oa i A' c' w6 w') => (KeptExpr_any x _ A2 c2 A' x.l.length c' S w' (hM2.chgNo h.2) (hx.chgNo h.1.1) hlenOk).mono fun e w'' ⟨he, hc⟩ => (⟨he, h.1.chg hc, h.2.trans hc⟩ : e = _ ∧ HeldC wr w1.heap.size x A2 c2 ga oa i A' c' w6 w'')
      have hH0 : HeldC wr w1.heap.size x A2 c2 ga oa i A' c' w6 w6.drew := ⟨hT.chg (Chg.refl No w6).drew, (Chg.refl No w6).drew⟩
      have mkS : ∀ w', HeldC wr w1.heap.size x A2 c2 ga oa i A' c' w6 w' → HeldC wr w1.heap.size x A2 c2 ga oa i A' c' w6 w' ∧ (convert 41 9 (.slice B1 m1 cb1)).run Tryd.prog w' = .ok (.string (baB T)) w' ∧ (convert 41 9 (.slice B2 m2 cb2)).run Tryd.prog w' = .ok (.string (baB T)) w' ∧ w'.cell? ⟨w1.heap.size, 0, none⟩ = some (.int .i64 x.k) ∧ w'.cell? ⟨w1.heap.size, 1, none⟩ = some (.int .i64 x.f) ∧ w'.cell? ⟨w1.heap.size, 2, none⟩ = some (.int .i64 x.t) ∧ w'.cell? ⟨w1.heap.size, 3, none⟩ = some (.int .i64 x.a) ∧ w'.cell? ⟨w1.heap.size, 4, none⟩ = some (.int .i64 x.b) ∧ w'.cell? ⟨w1.heap.size, 5, none⟩ = some (.slice A2 x.l.length c2) ∧
          w'.cell? ⟨ga, oa + i * 6, none⟩ = some (.int .i64 x.k) ∧ w'.cell? ⟨ga, oa + i * 6 + 1, none⟩ = some (.int .i64 x.f) ∧ w'.cell? ⟨ga, oa + i * 6 + 2, none⟩ = some (.int .i64 x.t) ∧ w'.cell? ⟨ga, oa + i * 6 + 3, none⟩ = some (.int .i64 x.a) ∧ w'.cell? ⟨ga, oa + i * 6 + 4, none⟩ = some (.int .i64 x.b) ∧ w'.cell? ⟨ga, oa + i * 6 + 5, none⟩ = some (.slice A' x.l.length c') := fun w' h => by
        obtain ⟨h0, ⟨a0, a1, a2, a3, a4, a5⟩, b0, b1, b2, b3, b4, b5⟩ := h.1
        exact ⟨h, conv_byt (HBX.out.chgNo h.2), conv_byt (HBY.out.chgNo h.2), a0, a1, a2, a3, a4, a5, b0, b1, b2, b3, b4, b5⟩
      have MKS := Lib.hid mkS
      clear mkS hrsF
      go_wp2_with fail
      go_region_held3 (fun w' => HeldC wr w1.heap.size x A2 c2 ga oa i A' c' w6 w' ∧ (convert 41 9 (.slice B1 m1 cb1)).run Tryd.prog w' = .ok (.string (baB T)) w' ∧ (convert 41 9 (.slice B2 m2 cb2)).run Tryd.prog w' = .ok (.string (baB T)) w' ∧ w'.cell? ⟨w1.heap.size, 0, none⟩ = some (.int .i64 x.k) ∧ w'.cell? ⟨w1.heap.size, 1, none⟩ = some (.int .i64 x.f) ∧ w'.cell? ⟨w1.heap.size, 2, none⟩ = some (.int .i64 x.t) ∧ w'.cell? ⟨w1.heap.size, 3, none⟩ = some (.int .i64 x.a) ∧ w'.cell? ⟨w1.heap.size, 4, none⟩ = some (.int .i64 x.b) ∧ w'.cell? ⟨w1.heap.size, 5, none⟩ = some (.slice A2 x.l.length c2) ∧
          w'.cell? ⟨ga, oa + i * 6, none⟩ = some (.int .i64 x.k) ∧ w'.cell? ⟨ga, oa + i * 6 + 1, none⟩ = some (.int .i64 x.f) ∧ w'.cell? ⟨ga, oa + i * 6 + 2, none⟩ = some (.int .i64 x.t) ∧ w'.cell? ⟨ga, oa + i * 6 + 3, none⟩ = some (.int .i64 x.a) ∧ w'.cell? ⟨ga, oa + i * 6 + 4, none⟩ = some (.int .i64 x.b) ∧ w'.cell? ⟨ga, oa + i * 6 + 5, none⟩ = some (.slice A' x.l.length c')) (exact MKS.out _ (by assumption)) (first | (go_at_call 19; refine (hm3 _ (by assumption)).mono ?_; rintro e w2 ⟨rfl, hH⟩))
      have hW := hc.trans hH.1.1
      go_wp2
      exact ⟨⟨i + 1, by omega, by go_num, hW⟩, by simp [intOf]; omega⟩
    · obtain rfl : i = l.length := by omega
      obtain ⟨h1, h2, h3⟩ := HG.out
      have hkn := known_any wr (h1.chgNo hc) (by have := hc.size; omega) (h3.chgNo hc)
      go_wp2_with fail
      refine hkn.mono ?_
      rintro e w5 ⟨rfl, hc5⟩
      go_wp2
      go_ret
      exact ⟨rfl, hc.trans hc5⟩
end Go.Proofs.YticipgjbgcdccaaDoor
namespace Go.Proofs.YticipgjbgcdccaaDoor
open Go.RowKit Go.ChangeShapes Go.WideShapes Go.ChangeAt

theorem laidOut : laidOutB Tryd.prog = true := by kernel_rfl
theorem shorts_witness (os : Os) {H : Type} (enc : TypeId × Value → H) :
    (OpenSpec.ofChange Rows.exprShortsSpec).preRow enc Tryd.prog Tryd.f9 Rows.exprShortsRow.domain false Rows.exprShortsRow.laid ((laidWorld os).forCall (fun _ _ => 0) ⟨#[], #[.slice none 0 0], []⟩).memory #[.slice none 0 0] := by
  have hw : (DataW.whole enc Tryd.prog ((laidWorld os).forCall (fun _ _ => 0) ⟨#[], #[.slice none 0 0], []⟩).memory Tryd.f9.params.toList (OpenSpec.ofChange Rows.exprShortsSpec).vars false #[Value.slice none 0 0].toList 8).map (fun x => (x.1, x.2.1)) =
      some ([.nil], []) := by kernel_rfl
  obtain ⟨⟨x1, x2, x3⟩, hx, hx1⟩ := Option.map_eq_some_iff.1 hw
  simp only [Prod.mk.injEq] at hx1
  obtain ⟨rfl, rfl⟩ := hx1
  exact OpenSpec.preRow_of_cond 8 hx (by kernel_rfl) (fun k hk => by cases hk) (by kernel_rfl) (laid_met os _)

set_option maxRecDepth 100000 in
set_option maxHeartbeats 2000000 in
theorem shorts_lifted (os : Os) (started : os.Started) (H : Type) (enc : TypeId × Value → H) (F : Stop.Interp) :
    ReturnsInHanded {} Tryd.checked os 9 .any ((OpenSpec.ofChange Rows.exprShortsSpec).preRow enc Tryd.prog Tryd.f9 Rows.exprShortsRow.domain false Rows.exprShortsRow.laid)
      (((OpenSpec.ofChange Rows.exprShortsSpec).at F).post enc Tryd.prog Tryd.f9 false true false false) := by
  refine returnsInHanded_of_row (C := Tryd.checked) (s := OpenSpec.ofChange Rows.exprShortsSpec) own started (by kernel_rfl) Tryd.func9
    (witness_row_atRef (enc := enc) (C := Tryd.checked) false (laidWorld os) #[.slice none 0 0] rfl (by kernel_rfl) (by kernel_rfl) (by kernel_rfl) (shorts_witness os enc)) ?_
  intro W base args ds gs before hval0 hW _ _ hsz0 hL _ _
  have hsz : (DataW.weightsEach Tryd.prog (Tryd.f9.params.toList ++ (OpenSpec.ofChange Rows.exprShortsSpec).bare.plain.varTypes Tryd.prog) (ds ++ gs)).all (· ≤ reachBytes) = true := hsz0
  clear hsz0
  have hval : ∀ (j : Nat) t v, Tryd.f9.params[j]? = some t → args[j]? = some v → Value.okWide Tryd.prog W .any base t v := hval0
  have hW' := hW
  obtain ⟨p, q, hA0, hV0, rfl, _, _⟩ := hW
  have hA : DataW.TrodAll enc Tryd.prog W 0 (fun _ => true) true Tryd.f9.params.toList args.toList ds p := hA0
  rw [Tryd.params9] at hA hval hsz
  obtain ⟨v0, d0, rfl, rfl, h0⟩ := trodAll_one hA
  obtain ⟨rfl, rfl⟩ := trodVars_none hV0
  obtain ⟨a0, lt, ct, rfl⟩ := okWide_slice Tryd.underlying23 (hval 0 23 v0 rfl rfl)
  have h0k := h0
  obtain ⟨fuel0, hf0⟩ := h0
  clear hA0 hV0 hval0
  simp only [List.append_nil] at hW' hsz
  have hlt : ∀ x ∈ p, x.block < W.heap.size := fun x hx => by simpa using hW'.lt x hx
  obtain ⟨A, n, c, l, e, hs, hw⟩ := (open_both fuel0).1 _ _ hf0
  injection e with e _
  injection e with e1 e2 e3
  subst e1 e2 e3
  have hsz1 : (DataW.weightsEach Tryd.prog [23] [d0]).all (fun x => decide (x ≤ reachBytes)) = true := hsz
  have hok := hw fun q hq => by
    simp only [DataW.weightsEach, List.append_nil, List.all_eq_true, decide_eq_true_eq] at hsz1
    exact hsz1 q hq
  obtain ⟨t1, t2, t3⟩ := tabs_of_laid hL
  refine (ExprShorts_any l a0 lt ct _ W hs hok.2 t1 t2 t3).mono ?_
  rintro e W' ⟨rfl, hc⟩
  have bel := hc.below
  have e1 : ((OpenSpec.ofChange Rows.exprShortsSpec).at F).fn H ([d0] ++ []) = { results := [.lit (.bool true)], args := [d0] } := rfl
  refine ⟨_, rfl, _, _, _, [], p, [], hW', ?_, ?_, ?_, bel.frame _, fun h => by cases h⟩
  · rw [e1]; exact trodAll_mk1 (shut_bool Tryd.underlying4 true)
  · rw [e1]; exact trodAll_mk1 (Below.trod laidOut (by kernel_rfl) (of_decide_eq_true (by kernel_rfl)) h0k bel (fun x hx => hlt x hx))
  · rw [e1]; rfl

theorem shorts_said : Rows.ExprShortsSaid :=
  OpenClaim.holds_of_cond 9 Tryd.f9 rfl rfl rfl rfl rfl rfl rfl ⟨rfl, rfl, rfl, rfl, rfl⟩ rfl rfl rfl rfl rfl (by kernel_rfl) Tryd.func9 (by kernel_rfl)
    (of_decide_eq_true (by kernel_rfl)) (by unfold Func.isWrapper; rw [if_neg (of_decide_eq_false (by kernel_rfl))]; exact ⟨rfl, rfl⟩)
    (fun os started H enc _ F0 => by rw [OpenClaim.pre_eq_preRow]; exact shorts_lifted os started H enc F0)

theorem exprShorts_holds : Rows.ExprShortsCardSaid :=
  Claim7.holds_tied_plain_at .later [] [.data, .data, .data] true (true, "ff01ccba15d25dd0e238923213c7e16af5c8880d8084b1916b336e3c37e050fc") true
    shorts_said (fun _ h => by cases h) (by kernel_rfl) (fun _ h => by cases h) exprShorts_row_tie rfl ⟨rfl, rfl⟩ (by kernel_rfl) rfl
    (fun f fn hf hfn => by
      obtain rfl : f = 9 := Option.some.inj ((show Tryd.prog.funcNamed "graft/graftlaw2.ExprShorts" = some 9 by kernel_rfl).symm.trans hf) |>.symm
      obtain rfl : fn = Tryd.f9 := (Option.some.inj (Tryd.func9.symm.trans hfn)).symm
      exact ⟨by kernel_rfl, fun j t ht => by
        rw [Tryd.params9] at ht
        have h3 : t = 23 := by
          rcases j with _ | j
          · simpa using ht.symm
          · simp at ht
        subst h3
        exact (show Tryd.prog.wantsStandIn 23 = false by kernel_rfl)⟩)
    (by kernel_rfl)
#print axioms exprShorts_holds
end Go.Proofs.YticipgjbgcdccaaDoor
