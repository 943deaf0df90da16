/- Package graftlaw2: ExprTexts: the walk.
   The statement ExprTexts: for every list of texts that is handed in, the law answers true and leaves all as it was: the tied card, proved. -/
import Derived.Test.YticipgjbgcdccaaDoorZ15
import Derived.Test.YticipgjbgcdccaaDoorZ13
import Derived.Test.YticipgjbgcdccaaDoorZ8
import Derived.Test.YticipgjbgcdccaaDoorZ10
import Derived.SliceStrings
import Derived.Test.YticipgjbgcdccaaDoorTie
import Derived.Test.YticipgjbgcdccaaDoorCards
import Derived.SevenTiedAt
set_option linter.unusedSimpArgs false
set_option linter.unusedVariables false
namespace Go.Proofs.YticipgjbgcdccaaDoor
open Go.RowKit

/-- strings in memory -/
def StrsAt (w : World) (A : Option Addr) (l : List ByteArray) : Prop := l ≠ [] → ∃ g o, A = some ⟨g, o, none⟩ ∧ g < w.heap.size ∧ ∀ (i : Nat) (h : i < l.length), w.cell? ⟨g, o + i, none⟩ = some (.string l[i])
theorem StrsAt.at_ {w : World} {A : Option Addr} {l : List ByteArray} (h : StrsAt w A l) {w' : World} (hc : Chg No w w') (i : Nat) (hi : i < l.length) : ∃ g o, A = some ⟨g, o, none⟩ ∧ w'.cell? ⟨g, o + i, none⟩ = some (.string l[i]) := by
  obtain ⟨g, o, h1, h2, h3⟩ := h (fun e => by rw [e] at hi; simp at hi)
  refine ⟨g, o, h1, ?_⟩
  rw [← h3 i hi]
  unfold World.cell?
  rw [hc.block g h2 id]

set_option maxHeartbeats 2000000 in
set_option maxRecDepth 100000 in
theorem ExprTexts_any (l : List ByteArray) (A : Option Addr) (c : Nat) (w : World) (hl : StrsAt w A l) (hn : l.length ≤ 9223372036854775807) (hd : Deb w) (hg : 0 < w.heap.size) (ht : Tab w) :
    Calls Tryd.prog 3 #[.slice A l.length c] w fun e w' => e = .returned (.bool true) ∧ Chg No w w' := by
  have HG : Hid (Deb w ∧ 0 < w.heap.size ∧ Tab w) := Lib.hid ⟨hd, hg, ht⟩
  have HL := Lib.hid hl
  clear hd hg ht hl
  go_enter Tryd.func3, Tryd.ntmps3
  go_wp2
  go_loopw [3] (fun v wr => ∃ i : Nat, i ≤ l.length ∧ v = .int .i64 (i : Int) ∧ Chg No w wr) (fun v _ => l.length - (intOf v).toNat)
  case atStart => exact ⟨0, by omega, rfl, Chg.refl _ _⟩
  case round =>
    obtain ⟨i, hi, rfl, hc⟩ := hrel
    by_cases hlt : i < l.length
    · obtain ⟨g, o, rfl, z0⟩ := HL.out.at_ hc i hlt
      obtain ⟨s, hs⟩ : ∃ s, l[i] = s := ⟨_, rfl⟩
      rw [hs] at z0
      have hp := parse_any s wr
      have hr := fun w' => rparse_any s w'
      unfold ParsePost at hp
      unfold RParsePost exV at hr
      obtain ⟨⟨X, C, Q⟩, hX⟩ : ∃ q, parseP s = q := ⟨_, rfl⟩
      rw [hX] at hp
      simp only [hX] at hr
      dsimp only at hp hr
      have hse : sameB X X = true := (sameB_iff X X).2 rfl
      have HSS := Lib.hid hs
      clear hs hX
      go_wp2_with fail
      refine hp.mono ?_
      rintro e w1 ⟨A1, n1, c1, rfl, hl1, hc1⟩
      have hb1 := (Blk.new w1 25 #[.int .i64 X.k, .int .i64 X.f, .int .i64 X.t, .int .i64 X.a, .int .i64 X.b, .slice A1 n1 c1]).alloc (.cells #[.int .i64 C, .int .i64 (Q : Int), .string ⟨#[]⟩] 28)
      have hf1 := Blk.new' (w := w1.alloc (.cells #[.int .i64 X.k, .int .i64 X.f, .int .i64 X.t, .int .i64 X.a, .int .i64 X.b, .slice A1 n1 c1] 25)) (g := w1.heap.size + 1) (t := 28) (cs := #[.int .i64 C, .int .i64 (Q : Int), .string ⟨#[]⟩]) (by simp)
      have k1 : Chg No w1 ((w1.alloc (.cells #[.int .i64 X.k, .int .i64 X.f, .int .i64 X.t, .int .i64 X.a, .int .i64 X.b, .slice A1 n1 c1] 25)).alloc (.cells #[.int .i64 C, .int .i64 (Q : Int), .string ⟨#[]⟩] 28)) := ((Chg.refl _ _).alloc _).alloc _
      have z1 := (HL.out.at_ ((hc.trans hc1).trans k1) i hlt)
      obtain ⟨g', o', e', z1⟩ := z1
      cases e'
      rw [HSS.out] at z1
      go_wp2_with fail
      refine (hr _).mono ?_
      rintro e w2 ⟨A2, n2, c2, rfl, hl2, hc2⟩
      have hb2 := hb1.chg hc2 id
      have hf2 := hf1.chg hc2 id
      have hl3 := (hl1.chgNo k1).chgNo hc2
      have kk := ((hc.trans hc1).trans k1).trans hc2
      have hb3 := (hb2.alloc (.cells #[.int .i64 X.k, .int .i64 X.f, .int .i64 X.t, .int .i64 X.a, .int .i64 X.b, .slice A2 n2 c2] 25)).alloc (.cells #[.int .i64 C, .int .i64 (Q : Int), .string ⟨#[]⟩] 28)
      have hf3 := (hf2.alloc (.cells #[.int .i64 X.k, .int .i64 X.f, .int .i64 X.t, .int .i64 X.a, .int .i64 X.b, .slice A2 n2 c2] 25)).alloc (.cells #[.int .i64 C, .int .i64 (Q : Int), .string ⟨#[]⟩] 28)
      have k3 : Chg No w2 ((w2.alloc (.cells #[.int .i64 X.k, .int .i64 X.f, .int .i64 X.t, .int .i64 X.a, .int .i64 X.b, .slice A2 n2 c2] 25)).alloc (.cells #[.int .i64 C, .int .i64 (Q : Int), .string ⟨#[]⟩] 28)) := ((Chg.refl _ _).alloc _).alloc _
      have hsa := SameExpr_any (SizeOf.sizeOf X + 1) X X (Nat.lt_succ_self _) A1 A2 n1 c1 n2 c2 _ _ _ (hl3.chgNo k3) (hl2.chgNo k3)
      rw [hse] at hsa
      have y0 := hb3.cell 0
      have y1 := hb3.cell 1
      have y2 := hb3.cell 2
      have y3 := hb3.cell 3
      have y4 := hb3.cell 4
      have y5 := hb3.cell 5
      have x0 := hf3.cell 0
      have x1 := hf3.cell 1
      have x2 := hf3.cell 2
      simp only [List.getElem?_toArray, List.getElem?_cons_zero, List.getElem?_cons_succ] at y0 y1 y2 y3 y4 y5 x0 x1 x2
      clear hb1 hf1 hb2 hf2 hb3 hf3 z0 z1
      go_wp2_with fail
      refine hsa.mono ?_
      rintro e w5 ⟨rfl, hc5⟩
      go_wp2
      exact ⟨⟨i + 1, by omega, by go_num, (kk.trans k3).trans hc5⟩, by simp [intOf]; omega⟩
    · obtain rfl : i = l.length := by omega
      obtain ⟨h1, h2, h3⟩ := HG.out
      have hkn := known_any wr (h1.chgNo hc) (by have := hc.size; omega) (h3.chgNo hc)
      go_wp2_with fail
      refine hkn.mono ?_
      rintro e w5 ⟨rfl, hc5⟩
      go_wp2
      go_ret
      exact ⟨rfl, hc.trans hc5⟩
end Go.Proofs.YticipgjbgcdccaaDoor
namespace Go.Proofs.YticipgjbgcdccaaDoor
open Go.RowKit Go.ChangeShapes Go.WideShapes Go.ChangeAt

theorem laidOut : laidOutB Tryd.prog = true := by kernel_rfl
theorem cells9 : Tryd.prog.cellsOf 9 = 1 := by kernel_rfl
/-- a list of texts that is handed in -/
theorem open_texts {H : Type} {enc : TypeId × Value → H} {W : World} {sp : Nat → Bool} {fuel : Nat} {x : DataW H × List MemPlace} {A : Option Addr} {n c : Nat} (h : DataW.trod enc Tryd.prog W 0 sp true fuel 22 [.slice A n c] = some x) :
    ∃ l : List ByteArray, n = l.length ∧ StrsAt W A l ∧ l.length ≤ 9223372036854775807 := by
  rcases open_strings Tryd.underlying22 Tryd.underlying9 cells9 h with ⟨e, _⟩ | ⟨a, len, cap, ss, e, _, hlc, hcm, hsl, _, hcell, _⟩
  · injection e with e _
    injection e with e1 e2 e3
    subst e1 e2 e3
    exact ⟨[], rfl, fun h => absurd rfl h, by simp⟩
  · injection e with e _
    injection e with e1 e2 e3
    subst e1 e2 e3
    have hlen : n ≤ ss.length := by rw [hsl]; split <;> omega
    refine ⟨ss.take n, by simp; omega, fun hne => ?_, by simp; unfold maxLen at hcm; omega⟩
    have h0 : 0 < ss.length := by
      rcases Nat.eq_zero_or_pos ss.length with q | q
      · exact absurd (by rw [List.length_eq_zero_iff.1 q]; simp) hne
      · exact q
    obtain ⟨g, o, sp'⟩ := a
    have ea : ∀ b : Addr, b.add 0 = b := fun b => by obtain ⟨g, o, s⟩ := b; simp [Addr.add]
    have hz := hcell 0 h0
    rw [ea] at hz
    have hg : g < W.heap.size := World.block_lt_of_cell? _ _ hz
    have hsp : sp' = none := by
      unfold World.cell? at hz
      cases hh : W.heap[g]? with
      | none => simp [hh] at hz
      | some ob =>
        cases ob <;> simp [hh] at hz
        cases sp' with
        | none => rfl
        | some _ => simp at hz
    subst hsp
    refine ⟨g, o, rfl, hg, fun i hi => ?_⟩
    have hi2 : i < ss.length := by simp at hi; omega
    have h1 := hcell i hi2
    have ea : (⟨g, o, none⟩ : Addr).add i = ⟨g, o + i, none⟩ := by unfold Addr.add; split <;> simp_all
    rw [ea] at h1
    rw [h1]
    simp [List.getD, List.getElem?_eq_getElem hi2]
theorem texts_witness (os : Os) {H : Type} (enc : TypeId × Value → H) :
    (OpenSpec.ofChange Rows.exprTextsSpec).preRow enc Tryd.prog Tryd.f3 Rows.exprTextsRow.domain false Rows.exprTextsRow.laid ((laidWorld os).forCall (fun _ _ => 0) ⟨#[], #[.slice none 0 0], []⟩).memory #[.slice none 0 0] := by
  have hw : (DataW.whole enc Tryd.prog ((laidWorld os).forCall (fun _ _ => 0) ⟨#[], #[.slice none 0 0], []⟩).memory Tryd.f3.params.toList (OpenSpec.ofChange Rows.exprTextsSpec).vars false #[Value.slice none 0 0].toList 8).map (fun x => (x.1, x.2.1)) =
      some ([.nil], []) := by kernel_rfl
  obtain ⟨⟨x1, x2, x3⟩, hx, hx1⟩ := Option.map_eq_some_iff.1 hw
  simp only [Prod.mk.injEq] at hx1
  obtain ⟨rfl, rfl⟩ := hx1
  exact OpenSpec.preRow_of_cond 8 hx (by kernel_rfl) (fun k hk => by cases hk) (by kernel_rfl) (laid_met os _)

set_option maxRecDepth 100000 in
set_option maxHeartbeats 2000000 in
theorem texts_lifted (os : Os) (started : os.Started) (H : Type) (enc : TypeId × Value → H) (F : Stop.Interp) :
    ReturnsInHanded {} Tryd.checked os 3 .any ((OpenSpec.ofChange Rows.exprTextsSpec).preRow enc Tryd.prog Tryd.f3 Rows.exprTextsRow.domain false Rows.exprTextsRow.laid)
      (((OpenSpec.ofChange Rows.exprTextsSpec).at F).post enc Tryd.prog Tryd.f3 false true false false) := by
  refine returnsInHanded_of_row (C := Tryd.checked) (s := OpenSpec.ofChange Rows.exprTextsSpec) own started (by kernel_rfl) Tryd.func3
    (witness_row_atRef (enc := enc) (C := Tryd.checked) false (laidWorld os) #[.slice none 0 0] rfl (by kernel_rfl) (by kernel_rfl) (by kernel_rfl) (texts_witness os enc)) ?_
  intro W base args ds gs before hval0 hW _ _ hsz0 hL _ _
  have _hsz : (DataW.weightsEach Tryd.prog (Tryd.f3.params.toList ++ (OpenSpec.ofChange Rows.exprTextsSpec).bare.plain.varTypes Tryd.prog) (ds ++ gs)).all (· ≤ reachBytes) = true := hsz0
  clear hsz0
  have hval : ∀ (j : Nat) t v, Tryd.f3.params[j]? = some t → args[j]? = some v → Value.okWide Tryd.prog W .any base t v := hval0
  have hW' := hW
  obtain ⟨p, q, hA0, hV0, rfl, _, _⟩ := hW
  have hA : DataW.TrodAll enc Tryd.prog W 0 (fun _ => true) true Tryd.f3.params.toList args.toList ds p := hA0
  rw [Tryd.params3] at hA hval
  obtain ⟨v0, d0, rfl, rfl, h0⟩ := trodAll_one hA
  obtain ⟨rfl, rfl⟩ := trodVars_none hV0
  obtain ⟨a0, lt, ct, rfl⟩ := okWide_slice Tryd.underlying22 (hval 0 22 v0 rfl rfl)
  have h0k := h0
  obtain ⟨fuel0, hf0⟩ := h0
  clear hA0 hV0 hval0
  simp only [List.append_nil] at hW'
  have hlt : ∀ x ∈ p, x.block < W.heap.size := fun x hx => by simpa using hW'.lt x hx
  obtain ⟨l, hln, hls, hlm⟩ := open_texts hf0
  obtain ⟨t1, t2, t3⟩ := tabs_of_laid hL
  subst hln
  refine (ExprTexts_any l a0 ct W hls hlm t1 t2 t3).mono ?_
  rintro e W' ⟨rfl, hc⟩
  have bel := hc.below
  have e1 : ((OpenSpec.ofChange Rows.exprTextsSpec).at F).fn H ([d0] ++ []) = { results := [.lit (.bool true)], args := [d0] } := rfl
  refine ⟨_, rfl, _, _, _, [], p, [], hW', ?_, ?_, ?_, bel.frame _, fun h => by cases h⟩
  · rw [e1]; exact trodAll_mk1 (shut_bool Tryd.underlying4 true)
  · rw [e1]; exact trodAll_mk1 (Below.trod laidOut (by kernel_rfl) (of_decide_eq_true (by kernel_rfl)) h0k bel (fun x hx => hlt x hx))
  · rw [e1]; rfl

theorem texts_said : Rows.ExprTextsSaid :=
  OpenClaim.holds_of_cond 3 Tryd.f3 rfl rfl rfl rfl rfl rfl rfl ⟨rfl, rfl, rfl, rfl, rfl⟩ rfl rfl rfl rfl rfl (by kernel_rfl) Tryd.func3 (by kernel_rfl)
    (of_decide_eq_true (by kernel_rfl)) (by unfold Func.isWrapper; rw [if_neg (of_decide_eq_false (by kernel_rfl))]; exact ⟨rfl, rfl⟩)
    (fun os started H enc _ F0 => by rw [OpenClaim.pre_eq_preRow]; exact texts_lifted os started H enc F0)

theorem exprTexts_holds : Rows.ExprTextsCardSaid :=
  Claim7.holds_tied_plain_at .later [] [.data, .data, .data] true (true, "ff01ccba15d25dd0e238923213c7e16af5c8880d8084b1916b336e3c37e050fc") true
    texts_said (fun _ h => by cases h) (by kernel_rfl) (fun _ h => by cases h) exprTexts_row_tie rfl ⟨rfl, rfl⟩ (by kernel_rfl) rfl
    (fun f fn hf hfn => by
      obtain rfl : f = 3 := Option.some.inj ((show Tryd.prog.funcNamed "graft/graftlaw2.ExprTexts" = some 3 by kernel_rfl).symm.trans hf) |>.symm
      obtain rfl : fn = Tryd.f3 := (Option.some.inj (Tryd.func3.symm.trans hfn)).symm
      exact ⟨by kernel_rfl, fun j t ht => by
        rw [Tryd.params3] at ht
        have h3 : t = 22 := by
          rcases j with _ | j
          · simpa using ht.symm
          · simp at ht
        subst h3
        exact (show Tryd.prog.wantsStandIn 22 = false by kernel_rfl)⟩)
    (by kernel_rfl)
#print axioms exprTexts_holds
end Go.Proofs.YticipgjbgcdccaaDoor
