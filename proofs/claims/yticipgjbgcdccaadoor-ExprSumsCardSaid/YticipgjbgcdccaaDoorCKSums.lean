/- Bytes and single patterns that are handed in: opened. No condition: lemmas.
   Package graftlaw2: repeats: contract.
   Package graftlaw2: ExprSums: the walk. Printed by gen_su.py.
   The statement ExprSums: for any two patterns, numbers and bytes that are handed in, the law answers true and leaves all as it was: the tied card, proved. -/
import Derived.Test.YticipgjbgcdccaaDoorZ10
import Derived.Test.YticipgjbgcdccaaDoorZ8
import Derived.Test.YticipgjbgcdccaaDoorZ11
import Derived.Deep.RegionHeld3
import Derived.Test.YticipgjbgcdccaaDoorTie
import Derived.Test.YticipgjbgcdccaaDoorCards
import Derived.SevenTiedAt
set_option linter.unusedSimpArgs false
set_option linter.unusedVariables false
namespace Go.Proofs.YticipgjbgcdccaaDoor
open Go.RowKit Go.ChangeShapes Go.WideShapes Go.ChangeAt

theorem cells5 : Tryd.prog.cellsOf 5 = 1 := by kernel_rfl
theorem open_bytes {H : Type} {enc : TypeId × Value → H} {W : World} {sp : Nat → Bool} {fuel : Nat} {cs : List Value} {x : DataW H × List MemPlace} (h : DataW.trod enc Tryd.prog W 0 sp true fuel 41 cs = some x) :
    ∃ B n c bs, cs = [.slice B n c] ∧ Byt W B n c bs ∧ (B = none → c = 0) := by
  rcases DataW.trod_slice Tryd.underlying41 h with ⟨rfl, rfl⟩ | ⟨a, len, cap, elems, rest, n, hn, rfl, rfl, _, hlc, hcm, hel, hget, _, _⟩
  · exact ⟨none, 0, 0, [], rfl, ⟨rfl, Nat.le_refl _, by omega, fun h => absurd rfl h⟩, fun _ => rfl⟩
  · rw [cells5] at hget
    obtain ⟨l, hl, hp⟩ := list_of (P := fun i (y : Nat) => W.cell? (a.add i) = some (.int .u8 (y : Int)) ∧ y < 256) len fun i hi => by
      have h1 := hget i hi
      rw [List.getElem?_eq_getElem (by omega), Nat.mul_one] at h1
      obtain ⟨cs, h2, h3⟩ := Option.bind_eq_some_iff.1 h1
      obtain ⟨y, e, _, hw⟩ := DataW.trod_int Tryd.underlying5 h3
      have hw : 0 ≤ y ∧ y ≤ 255 := by simpa [Lit.wf, IntKind.min, IntKind.max, IntKind.signed, IntKind.bits] using hw
      obtain ⟨_, h4⟩ := cells_get h2
      have h5 := h4 0 (by omega)
      rw [e] at h5
      refine ⟨y.toNat, ?_, by omega⟩
      have ea : ∀ b : Addr, b.add 0 = b := fun b => by obtain ⟨g, o, s⟩ := b; simp [Addr.add]
      rw [ea] at h5
      rw [Int.toNat_of_nonneg hw.1, h5]; rfl
    have hcm' : cap ≤ 9223372036854775807 := by simpa [maxLen] using hcm
    refine ⟨some a, len, cap, l, rfl, ⟨hl.symm, by omega, hcm', fun hne => ?_⟩, fun h => by cases h⟩
    have h0 : 0 < l.length := List.length_pos_iff.2 hne
    obtain ⟨g, o, sp'⟩ := a
    have hz : W.cell? ⟨g, o, sp'⟩ = some (.int .u8 (l[0] : Int)) := by
      have := (hp 0 h0).1
      have ea : ∀ b : Addr, b.add 0 = b := fun b => by obtain ⟨g, o, s⟩ := b; simp [Addr.add]
      rw [ea] at this
      exact this
    have hg : g < W.heap.size := World.block_lt_of_cell? _ _ hz
    have hsp : sp' = none := by
      unfold World.cell? at hz
      cases hh : W.heap[g]? with
      | none => simp [hh] at hz
      | some ob =>
        cases ob <;> simp [hh] at hz
        cases sp' with
        | none => rfl
        | some _ => simp at hz
    subst hsp
    refine ⟨g, o, rfl, hg, fun i x hi => ?_⟩
    obtain ⟨hi1, hi2⟩ := List.getElem?_eq_some_iff.1 hi
    have h1 := hp i hi1
    rw [hi2] at h1
    have ea : (⟨g, o, none⟩ : Addr).add i = ⟨g, o + i, none⟩ := by unfold Addr.add; split <;> simp_all
    rw [ea] at h1
    exact h1

theorem trodAll_five {H : Type} {enc : TypeId × Value → H} {P : Program} {w : World} {base : Nat} {spare : Nat → Bool} {held : Bool} {t t' t'' t3 t4 : TypeId} {args : Array Value} {ds : List (DataW H)} {ps : List MemPlace} (h : DataW.TrodAll enc P w base spare held [t, t', t'', t3, t4] args.toList ds ps) :
    ∃ v v' v'' v3 v4 d d' d'' d3 d4 p p' p'' p3 p4, args = #[v, v', v'', v3, v4] ∧ ds = [d, d', d'', d3, d4] ∧ ps = p ++ (p' ++ (p'' ++ (p3 ++ p4))) ∧ DataW.Trod enc P w base spare held t v d p ∧ DataW.Trod enc P w base spare held t' v' d' p' ∧ DataW.Trod enc P w base spare held t'' v'' d'' p'' ∧ DataW.Trod enc P w base spare held t3 v3 d3 p3 ∧ DataW.Trod enc P w base spare held t4 v4 d4 p4 := by
  obtain ⟨v, vs, d, ds', p, q, hargs, rfl, rfl, hd, hrest⟩ := trodAll_cons h
  obtain ⟨v', vs', d', ds'', p', q', rfl, rfl, rfl, hd', hrest'⟩ := trodAll_cons hrest
  obtain ⟨v'', vs'', d'', ds''', p'', q'', rfl, rfl, rfl, hd'', hrest''⟩ := trodAll_cons hrest'
  obtain ⟨v3, vs3, d3, ds3, p3, q3, rfl, rfl, rfl, hd3, hrest3⟩ := trodAll_cons hrest''
  obtain ⟨v4, vs4, d4, ds4, p4, q4, rfl, rfl, rfl, hd4, hrest4⟩ := trodAll_cons hrest3
  obtain ⟨rfl, rfl, rfl⟩ := trodAll_nil hrest4
  exact ⟨v, v', v'', v3, v4, d, d', d'', d3, d4, p, p', p'', p3, p4, by cases args; simp_all, rfl, by simp, hd, hd', hd'', hd3, hd4⟩

theorem trodAll_push {H : Type} {enc : TypeId × Value → H} {P : Program} {w : World} {base : Nat} {spare : Nat → Bool} {held : Bool} {t : TypeId} {ts : List TypeId} {v : Value} {vs : List Value} {d : DataW H} {ds : List (DataW H)} {p p' : List MemPlace} (h : DataW.Trod enc P w base spare held t v d p) (hs : DataW.TrodAll enc P w base spare held ts vs ds p') : DataW.TrodAll enc P w base spare held (t :: ts) (v :: vs) (d :: ds) (p ++ p') := ⟨p, p', h, hs, rfl⟩
/-- a pattern that is handed in by value -/
theorem open_ex {H : Type} {enc : TypeId × Value → H} {W : World} {sp : Nat → Bool} {v : Value} {d : DataW H} {p : List MemPlace} {cs : Array Value} (hv : v = .agg cs) (h : DataW.Trod enc Tryd.prog W 0 sp true 25 v d p) :
    ∃ (y : Ex) (A : Option Addr) (n c : Nat), v = .agg #[.int .i64 y.k, .int .i64 y.f, .int .i64 y.t, .int .i64 y.a, .int .i64 y.b, .slice A n c] ∧ Sl W (Old W) A n c y.l ∧ ((∀ q ∈ d.weights Tryd.prog 25, q ≤ reachBytes) → lenOk y) := by
  subst hv
  obtain ⟨fuel, h⟩ := h
  obtain ⟨y, A, n, c, e, h1, h2⟩ := (open_both fuel).2 _ _ h
  refine ⟨y, A, n, c, ?_, h1, h2⟩
  congr 1
  exact Array.toList_inj.1 e
end Go.Proofs.YticipgjbgcdccaaDoor
namespace Go.Proofs.YticipgjbgcdccaaDoor
open Go.RowKit

/-- an argument's variable in block g: its cells, and nothing that was there has changed -/
def HeldA (w0 : World) (g : Nat) (x : Ex) (A : Option Addr) (n c : Nat) (w : World) : Prop :=
  Chg No w0 w ∧ w.cell? ⟨g, 0, none⟩ = some (.int .i64 x.k) ∧ w.cell? ⟨g, 1, none⟩ = some (.int .i64 x.f) ∧ w.cell? ⟨g, 2, none⟩ = some (.int .i64 x.t) ∧ w.cell? ⟨g, 3, none⟩ = some (.int .i64 x.a) ∧ w.cell? ⟨g, 4, none⟩ = some (.int .i64 x.b) ∧ w.cell? ⟨g, 5, none⟩ = some (.slice A n c)
theorem heldA {w0 w : World} {g : Nat} {x : Ex} {A : Option Addr} {n c : Nat} (hb : Blk w0 g 25 #[.int .i64 x.k, .int .i64 x.f, .int .i64 x.t, .int .i64 x.a, .int .i64 x.b, .slice A n c]) (hc : Chg No w0 w) : HeldA w0 g x A n c w := ⟨hc, ex_cells (hb.chg hc id)⟩

theorem Byt.dropA {w : World} {a : Addr} {m cb : Nat} {bs : List Nat} (h : Byt w (some a) m cb bs) {k : Nat} (hk : k ≤ bs.length) : Byt w (some (a.add k)) (bs.length - k) (cb - k) (bs.drop k) := by
  by_cases hne : bs.drop k = []
  · obtain ⟨h1, h2, h3, h4⟩ := h
    exact ⟨by rw [List.length_drop], by rw [List.length_drop]; omega, by omega, fun h => absurd hne h⟩
  · obtain ⟨g, o, e, _⟩ := h.2.2.2 (by rintro rfl; simp at hne)
    injection e with e
    subst e
    have := h.drop hk (o + k) fun _ => rfl
    have e : (⟨g, o, none⟩ : Addr).add k = ⟨g, o + k, none⟩ := by unfold Addr.add; split <;> simp_all
    rw [e]; exact this
theorem Byt.gone {w : World} {B B' : Option Addr} {m cb : Nat} {bs : List Nat} (h : Byt w B m cb bs) {k n c : Nat} (hk : bs.length ≤ k) (hn : n = 0) (hc : c ≤ 9223372036854775807) : Byt w B' n c (bs.drop k) := by
  have e : bs.drop k = [] := List.drop_eq_nil_of_le hk
  rw [e]
  exact ⟨by rw [hn]; rfl, by simp, hc, fun h => absurd rfl h⟩

theorem rep_FL {mn M F L : Int} (h0 : 0 ≤ mn) (h1 : mn ≤ 4) (hM : M = -1 ∨ mn ≤ M ∧ M ≤ 8) (hM0 : M ≠ 0) (hF : F = if mn - 1 < 0 then 0 else mn - 1) (hL : L = if M = -1 then -1 else M - 1) : 0 ≤ F ∧ F ≤ 1000 ∧ (L = -1 ∨ F ≤ L ∧ L ≤ 1000) ∧ copiesP F L ≤ copiesP mn M := by
  have hF1 : 0 ≤ F ∧ F ≤ mn ∧ (F = 0 ∨ F = mn - 1) := by rw [hF]; split <;> omega
  clear hF
  rcases hM with rfl | ⟨h2, h3⟩
  · rw [if_pos rfl] at hL
    subst hL
    unfold copiesP
    rw [if_pos (by omega), if_pos (by omega)]
    omega
  · rw [if_neg (by omega)] at hL
    subst hL
    unfold copiesP
    rw [if_neg (by omega), if_neg (by omega)]
    omega

set_option maxHeartbeats 8000000 in
set_option maxRecDepth 100000 in
theorem repeats_any (x : Ex) (mn more : Int) (A : Option Addr) (n c : Nat) (S : Nat → Prop) (w : World) (hl : Sl w S A n c x.l) (hck : checkP x = 0) (hf : flatB x = true) (h0 : 0 ≤ mn) (h1 : mn ≤ 4) (h2 : 0 ≤ more) (h3 : more ≤ 4)
    (B : Option Addr) (m cb : Nat) (bs : List Nat) (hB : Byt w B m cb bs) (hBn : B = none → cb = 0) (hlen : bs.length ≤ 40) (hd : Deb w) (hg : 0 < w.heap.size) :
    Calls Tryd.prog 23 #[.agg #[.int .i64 x.k, .int .i64 x.f, .int .i64 x.t, .int .i64 x.a, .int .i64 x.b, .slice A n c], .int .i64 mn, .int .i64 more, .slice B m cb] w fun e w' => e = .returned (.bool true) ∧ Chg No w w' := by
  obtain ⟨rfl, hcb1, hcb2, hB4⟩ := hB
  have HB := Lib.hid (show Byt w B bs.length cb bs from ⟨rfl, hcb1, hcb2, hB4⟩)
  have HBN := Lib.hid hBn
  clear hB4 hBn
  have hb := Blk.new w 25 #[.int .i64 x.k, .int .i64 x.f, .int .i64 x.t, .int .i64 x.a, .int .i64 x.b, .slice A n c]
  have hc0 : Chg No w (w.alloc (.cells #[.int .i64 x.k, .int .i64 x.f, .int .i64 x.t, .int .i64 x.a, .int .i64 x.b, .slice A n c] 25)) := (Chg.refl _ _).alloc _
  obtain ⟨M, hM⟩ : ∃ M : Int, M = if more = 4 then -1 else mn + more := ⟨_, rfl⟩
  obtain ⟨L, hL⟩ : ∃ L : Int, L = if more = 4 then -1 else mn + more - 1 := ⟨_, rfl⟩
  obtain ⟨F, hF⟩ : ∃ F : Int, F = if mn - 1 < 0 then 0 else mn - 1 := ⟨_, rfl⟩
  have hM1 : M = -1 ∨ mn ≤ M ∧ M ≤ 8 := by rw [hM]; split <;> omega
  have hLM : L = if M = -1 then -1 else M - 1 := by rw [hL, hM]; split <;> split <;> omega
  have HM := Lib.hid hM
  have HL := Lib.hid hL
  have HF := Lib.hid hF
  have HLM := Lib.hid hLM
  clear hM hL hF hLM
  -- the calls, at later worlds
  have hrep := rep_err x hck mn M h0 (by omega) (by omega)
  have hmt := fun (a b : Int) (w' : World) (hc : Chg No w w') => lawTimes_any x a b A n c S w' (hl.chgNo hc) hf
  have hHd := fun (B' : Option Addr) (m' cb' : Nat) (bs' : List Nat) (w' : World) (h : Byt w B' m' cb' bs') (hl' : bs'.length ≤ 40) (hc : Chg No w w') => Hand_any B' m' cb' bs' w' (h.chgNo hc) (by omega)
  have hMa := fun (y : Ex) (A' : Option Addr) (n' c' : Nat) (w' : World) (hy : Sl w' (fun _ => True) A' n' c' y.l) (g : Nat) (bs' : List Nat) (hh : HandAt w' g bs') (hl' : bs'.length ≤ 40) (hc : Chg No w w') => Match_any y A' n' c' _ w' hy (some ⟨g, 0, none⟩) bs'.length (bs'.length + 2) bs' (hh.byt (by omega)) (hd.chgNo hc) (by have := hc.size; omega)
  have hTw := fun (w' : World) (hc : Chg No w w') => TwinExpr_any x A n c S w' (hl.chgNo hc) (lenOk_nodes x (flatB_nodes hf))
  have hRl : (matchP (repX x mn M) bs).2 = checkP (repX x mn M) := by
    rw [matchP_snd]; unfold askedP
    split
    · rfl
    · rename_i q; rw [if_neg (by omega)]; simp at q; exact q.symm
  have HRL := Lib.hid hRl
  clear hRl hd
  obtain ⟨y0, y1, y2, y3, y4, y5⟩ := ex_cells hb
  go_enter Tryd.func23, Tryd.ntmps23
  go_upto_if 26 with fail
  go_cut [9, 10] (fun s9 s10 wx => IsV s9 (.int .i64 M) ∧ IsV s10 (.int .i64 L) ∧ (w.alloc (.cells #[.int .i64 x.k, .int .i64 x.f, .int .i64 x.t, .int .i64 x.a, .int .i64 x.b, .slice A n c] 25)) = wx)
  case first =>
    go_wp2_with fail
    all_goals (go_meet; refine ⟨congrArg (Value.int IntKind.i64) ?_, congrArg (Value.int IntKind.i64) ?_, rfl⟩)
    all_goals (first | rw [HM.out] | rw [HL.out])
    all_goals
      first
      | have q : (more == 4) = true := by assumption
        rw [if_pos (by simpa using q)]
      | have q : (more == 4) = false := by assumption
        rw [if_neg (by simpa using q)]
  case rest =>
    obtain ⟨q1, q2, rfl⟩ := hcut
    unfold IsV at q1 q2
    subst q1 q2
    go_upto_if 30 with fail
    go_cut [11] (fun s11 wx => IsV s11 (.int .i64 F) ∧ (w.alloc (.cells #[.int .i64 x.k, .int .i64 x.f, .int .i64 x.t, .int .i64 x.a, .int .i64 x.b, .slice A n c] 25)) = wx)
    case first =>
      go_wp2_with fail
      all_goals (go_meet; refine ⟨congrArg (Value.int IntKind.i64) ?_, rfl⟩; rw [HF.out]; split <;> omega)
    case rest =>
      obtain ⟨q1, rfl⟩ := hcut
      unfold IsV at q1
      subst q1
      clear HM HL y0 y1 y2 y3 y4 y5
      obtain ⟨_, y0, y1, y2, y3, y4, y5⟩ := heldA hb (Chg.refl No _)
      go_wp2_with fail
      refine (hmt mn M _ hc0).mono ?_
      rintro e w1 ⟨A1, n1, c1, rfl, hs1, hc1⟩
      have k1 := hc0.trans hc1
      go_wp2_with fail
      refine (hHd B bs.length cb bs w1 HB.out hlen k1).mono ?_
      rintro e w2 ⟨g1, rfl, _, hh1, hc2⟩
      have k2 := k1.trans hc2
      have hma := hMa (repX x mn M) A1 n1 c1 w2 (hs1.chgNo hc2) g1 bs hh1 hlen k2
      obtain ⟨R, hR⟩ : ∃ R, matchP (repX x mn M) bs = R := ⟨_, rfl⟩
      have hRL := HRL.out
      rw [hR] at hma hRL
      obtain ⟨R1, R2⟩ := R
      simp only at hma hRL
      have HR := Lib.hid hR
      clear hR
      go_wp2_with fail
      refine hma.mono ?_
      rintro e w3 ⟨rfl, hc3⟩
      have k3 := k2.trans hc3
      by_cases hR0 : R2 = 0
      · subst hR0
        have hck2 := hRL.symm
        have hx0 : ∀ k, askedP x (bs.take k).length = 0 := fun k => by unfold askedP; rw [if_neg (by rw [hck]; simp), if_neg (by rw [List.length_take]; omega)]
        have hless : M ≠ 0 → ∀ k, askedP (repX x F L) (bs.drop k).length = 0 := fun hM0 k => by
          obtain ⟨f1, f2, f3, f4⟩ := rep_FL h0 h1 hM1 hM0 HF.out HLM.out
          have h := rep_less x hck mn M F L h0 (by omega) (by omega) f1 f2 f3 f4 hck2
          unfold askedP; rw [if_neg (by rw [h]; simp), if_neg (by rw [List.length_drop]; omega)]
        have HMain : Hid (R1 = true ↔ (mn = 0 ∧ bs = []) ∨ (M ≠ 0 ∧ ∃ k, k ≤ bs.length ∧ (matchP x (bs.take k)).1 = true ∧ ¬ (k = 0 ∧ 0 < bs.length ∧ M < 0 ∧ mn = 0) ∧ (matchP (repX x F L) (bs.drop k)).1 = true)) := Lib.hid (by
          have h1 : askedP (repX x mn M) bs.length = 0 := by rw [← matchP_snd, HR.out]
          have h2 := matchP_lang h1
          rw [HR.out] at h2
          have hF := HF.out
          have hL := HLM.out
          rw [h2, Lang_rep_step x mn M h0 (by omega) bs, ← hF, ← hL]
          constructor
          · rintro (h | ⟨hM0, k, hk, g1, g2, g3⟩)
            · exact .inl h
            · exact .inr ⟨hM0, k, hk, (matchP_lang (hx0 k)).2 g1, g2, (matchP_lang (hless hM0 k)).2 g3⟩
          · rintro (h | ⟨hM0, k, hk, g1, g2, g3⟩)
            · exact .inl h
            · exact .inr ⟨hM0, k, hk, (matchP_lang (hx0 k)).1 g1, g2, (matchP_lang (hless hM0 k)).1 g3⟩)
        have HV : Hid (∀ k, (matchP x (bs.take k)).2 = 0 ∧ (M ≠ 0 → (matchP (repX x F L) (bs.drop k)).2 = 0)) := Lib.hid fun k => ⟨by rw [matchP_snd]; exact hx0 k, fun hM0 => by rw [matchP_snd]; exact hless hM0 k⟩
        clear hx0 hless
        clear HRL HR hRL hck2 hrep
        have hwant : ∃ W0 : Bool, ((mn == 0) && ((bs.length : Int) == 0)) = W0 := ⟨_, rfl⟩
        obtain ⟨W0, hW0⟩ := hwant
        obtain ⟨z1, hz1⟩ : ∃ z : Bool, (mn == 0) = z := ⟨_, rfl⟩
        obtain ⟨z2, hz2⟩ : ∃ z : Bool, ((bs.length : Int) == 0) = z := ⟨_, rfl⟩
        rw [hz1, hz2] at hW0
        have HW0 := Lib.hid hW0
        clear hW0
        go_upto_region 12 with fail
        go_cut [14] (fun s14 wx => IsV s14 (.bool W0) ∧ w3 = wx)
        case first =>
          go_wp2_with fail
          all_goals (go_meet; refine ⟨congrArg Value.bool ?_, rfl⟩; rw [← HW0.out]; simp [*])
        case rest =>
          obtain ⟨q1, rfl⟩ := hcut
          unfold IsV at q1
          subst q1
          have hW0 := HW0.out
          have HS : Hid (W0 = true ↔ (mn = 0 ∧ bs = []) ∨ ∃ j, j < 0 ∧ (matchP x (bs.take j)).1 = true ∧ ¬ (j = 0 ∧ 0 < bs.length ∧ M < 0 ∧ mn = 0) ∧ (matchP (repX x F L) (bs.drop j)).1 = true) := Lib.hid (by
            rw [← hW0, ← hz1, ← hz2]
            simp)
          have k3A : Chg No (w.alloc (.cells #[.int .i64 x.k, .int .i64 x.f, .int .i64 x.t, .int .i64 x.a, .int .i64 x.b, .slice A n c] 25)) w3 := (hc1.trans hc2).trans hc3
          clear hW0 HW0 hz1 hz2 hma hh1 hs1
          go_wp2_with fail
          go_loopw [14, 15] (fun v14 v15 wr => ∃ (k : Nat) (V : Bool), k ≤ bs.length + 1 ∧ v15 = .int .i64 (k : Int) ∧ v14 = .bool V ∧ Hid (V = true ↔ (mn = 0 ∧ bs = []) ∨ ∃ j, j < k ∧ (matchP x (bs.take j)).1 = true ∧ ¬ (j = 0 ∧ 0 < bs.length ∧ M < 0 ∧ mn = 0) ∧ (matchP (repX x F L) (bs.drop j)).1 = true) ∧ (k ≠ 0 → M ≠ 0) ∧
            Chg No (w.alloc (.cells #[.int .i64 x.k, .int .i64 x.f, .int .i64 x.t, .int .i64 x.a, .int .i64 x.b, .slice A n c] 25)) wr) (fun _ v _ => bs.length + 1 - (intOf v).toNat)
          case atStart => exact ⟨0, W0, Nat.zero_le _, rfl, rfl, HS, fun h => absurd rfl h, k3A⟩
          case round =>
            clear HS k3A hc1 hc2 hc3 k1 k2 k3
            obtain ⟨k, V, hk, rfl, rfl, HV1, hkM, hcA⟩ := hrel
            have hcw := hc0.trans hcA
            have hbr := hb.chg hcA id
            by_cases hM0 : M = 0
            · obtain rfl : k = 0 := by
                rcases Nat.eq_zero_or_pos k with q | q
                · exact q
                · exact absurd hM0 (hkM (by omega))
              subst hM0
              have HE : Hid (R1 = V) := Lib.hid (by
                have h1 := HMain.out
                have h2 := HV1.out
                rw [Bool.eq_iff_iff, h1, h2]
                simp)
              clear hkM
              go_wp2
              go_ret
              exact ⟨by rw [HE.out]; simp, hcw⟩
            · have eM : (M != 0) = true := by simpa using hM0
              by_cases hlt : k ≤ bs.length
              · have hlt' : (k : Int) ≤ (bs.length : Int) := by omega
                obtain ⟨v1, v2⟩ := HV.out k
                have v2 := v2 hM0
                have KS : Hid (∀ w', Chg No wr w' → HeldA wr w.heap.size x A n c w') := Lib.hid fun w' h => heldA hbr h
                have hkc : k ≤ cb := by omega
                have hkl : (bs.take k).length = k := by rw [List.length_take]; omega
                have hTw2 : ∀ w', HeldA wr w.heap.size x A n c w' → Calls Tryd.prog 16 #[.agg #[.int .i64 x.k, .int .i64 x.f, .int .i64 x.t, .int .i64 x.a, .int .i64 x.b, .slice A n c]] w' fun e w'' => ∃ A2 c2, e = .returned (.agg #[.int .i64 x.k, .int .i64 x.f, .int .i64 x.t, .int .i64 x.a, .int .i64 x.b, .slice A2 x.l.length c2]) ∧ Sl w'' (fun _ => True) A2 x.l.length c2 x.l ∧ HeldA wr w.heap.size x A n c w'' ∧ Chg No w' w'' := fun w' h =>
                  (hTw w' (hcw.trans h.1)).mono fun e w'' ⟨A2, c2, he, hm, hcc⟩ => ⟨A2, c2, he, hm.2, KS.out _ (h.1.trans hcc), hcc⟩
                have hHd2 : ∀ w', HeldA wr w.heap.size x A n c w' → Calls Tryd.prog 22 #[.slice B k cb] w' fun e w'' => ∃ g, e = .returned (.slice (some ⟨g, 0, none⟩) k (k + 2)) ∧ HandAt w'' g (bs.take k) ∧ HeldA wr w.heap.size x A n c w'' ∧ Chg No w' w'' := fun w' h =>
                  (hHd B k cb (bs.take k) w' (HB.out.take hlt) (by omega) (hcw.trans h.1)).mono fun e w'' ⟨g, he, _, hh, hcc⟩ => ⟨g, by rw [he, hkl], hh, KS.out _ (h.1.trans hcc), hcc⟩
                have hMa2 : ∀ (A' : Option Addr) (n' c' : Nat) (w' : World) (_ : Sl w' (fun _ => True) A' n' c' x.l) (g : Nat) (_ : HandAt w' g (bs.take k)) (_ : HeldA wr w.heap.size x A n c w'), Calls Tryd.prog 21 #[.agg #[.int .i64 x.k, .int .i64 x.f, .int .i64 x.t, .int .i64 x.a, .int .i64 x.b, .slice A' n' c'], .slice (some ⟨g, 0, none⟩) k (k + 2)] w' fun e w'' => e = .returned (.tuple #[.bool (matchP x (bs.take k)).1, .int .i64 (matchP x (bs.take k)).2]) ∧ HeldA wr w.heap.size x A n c w'' := fun A' n' c' w' hy g hh h => by
                  have := (hMa x A' n' c' w' hy g (bs.take k) hh (by omega) (hcw.trans h.1)).mono (R' := fun e w'' => e = .returned (.tuple #[.bool (matchP x (bs.take k)).1, .int .i64 (matchP x (bs.take k)).2]) ∧ HeldA wr w.heap.size x A n c w'') fun e w'' ⟨he, hcc⟩ => ⟨he, KS.out _ (h.1.trans hcc)⟩
                  rw [hkl] at this
                  exact this
                have hH0 : HeldA wr w.heap.size x A n c wr.drew := KS.out _ (Chg.refl No wr).drew
                obtain ⟨U, hU⟩ : ∃ U, matchP x (bs.take k) = U := ⟨_, rfl⟩
                rw [hU] at v1 hMa2
                obtain ⟨U1, U2⟩ := U
                simp only at v1 hMa2
                subst v1
                have HU := Lib.hid hU
                clear hU hkM
                go_wp2_with fail
                go_region_held3 (fun w' => HeldA wr w.heap.size x A n c w' ∧ w'.cell? ⟨w.heap.size, 0, none⟩ = some (.int .i64 x.k) ∧ w'.cell? ⟨w.heap.size, 1, none⟩ = some (.int .i64 x.f) ∧ w'.cell? ⟨w.heap.size, 2, none⟩ = some (.int .i64 x.t) ∧ w'.cell? ⟨w.heap.size, 3, none⟩ = some (.int .i64 x.a) ∧ w'.cell? ⟨w.heap.size, 4, none⟩ = some (.int .i64 x.b) ∧ w'.cell? ⟨w.heap.size, 5, none⟩ = some (.slice A n c)) (exact ⟨by assumption, And.right (show HeldA wr w.heap.size x A n c _ by assumption)⟩)
                  (first | (go_at_call 16; refine (hTw2 _ (by assumption)).mono ?_; rintro e w4 ⟨A2, c2, rfl, hM, hH1, hcx⟩) | (go_at_call 22; refine (hHd2 _ (by assumption)).mono ?_; rintro e w5 ⟨g, rfl, hh, hH2, hcx2⟩; have hM5 := hM.chgNo hcx2) | (go_at_call 21; refine (hMa2 A2 _ c2 _ hM5 g hh (by assumption)).mono ?_; rintro e w6 ⟨rfl, hH3⟩))
                have hck6 := hcA.trans hH3.1
                have hcw6 := hcw.trans hH3.1
                clear hTw2 hHd2 hMa2 hH0 hM hM5 hH1 hH2 hcx hcx2 hh
                have hU1 : (matchP x (bs.take k)).1 = U1 := by rw [HU.out]
                cases U1 with
                | false =>
                  have HN : Hid (V = true ↔ (mn = 0 ∧ bs = []) ∨ ∃ j, j < k + 1 ∧ (matchP x (bs.take j)).1 = true ∧ ¬ (j = 0 ∧ 0 < bs.length ∧ M < 0 ∧ mn = 0) ∧ (matchP (repX x F L) (bs.drop j)).1 = true) := Lib.hid (by
                    rw [HV1.out]
                    constructor
                    · rintro (h | ⟨j, hj, h⟩)
                      · exact .inl h
                      · exact .inr ⟨j, by omega, h⟩
                    · rintro (h | ⟨j, hj, h⟩)
                      · exact .inl h
                      · rcases Nat.lt_or_ge j k with q | q
                        · exact .inr ⟨j, q, h⟩
                        · obtain rfl : j = k := by omega
                          rw [hU1] at h; exact absurd h.1 (by simp))
                  clear hU1
                  go_wp2
                  exact ⟨⟨k + 1, V, by omega, by go_num, rfl, HN, fun _ => hM0, hck6⟩, by simp [intOf]; omega⟩
                | true =>
                  obtain ⟨e1, he1⟩ : ∃ e : Bool, ((k : Int) == 0) = e := ⟨_, rfl⟩
                  obtain ⟨e2, he2⟩ : ∃ e : Bool, decide (0 < bs.length) = e := ⟨_, rfl⟩
                  obtain ⟨e3, he3⟩ : ∃ e : Bool, decide (M < 0) = e := ⟨_, rfl⟩
                  obtain ⟨e4, he4⟩ : ∃ e : Bool, (mn == 0) = e := ⟨_, rfl⟩
                  obtain ⟨E, hE⟩ : ∃ E : Bool, (e1 && e2 && e3 && e4) = E := ⟨_, rfl⟩
                  have HSK : Hid (E = true ↔ (k = 0 ∧ 0 < bs.length ∧ M < 0 ∧ mn = 0)) := Lib.hid (by
                    rw [← hE, ← he1, ← he2, ← he3, ← he4]
                    simp [and_assoc])
                  have HE := Lib.hid hE
                  have HU1 := Lib.hid hU1
                  clear hE hU1
                  go_upto_region 17 with fail
                  go_cut [98] (fun s98 wx => IsV s98 (.bool E) ∧ w6 = wx)
                  case first =>
                    go_wp2_with fail
                    all_goals (go_meet; refine ⟨congrArg Value.bool ?_, rfl⟩; rw [← HE.out]; simp [*])
                  case rest =>
                    obtain ⟨q1, rfl⟩ := hcut
                    unfold IsV at q1
                    subst q1
                    clear he1 he2 he3 he4 HE
                    cases E with
                    | true =>
                      have hsk := HSK.out.1 rfl
                      have HN : Hid (V = true ↔ (mn = 0 ∧ bs = []) ∨ ∃ j, j < k + 1 ∧ (matchP x (bs.take j)).1 = true ∧ ¬ (j = 0 ∧ 0 < bs.length ∧ M < 0 ∧ mn = 0) ∧ (matchP (repX x F L) (bs.drop j)).1 = true) := Lib.hid (by
                        rw [HV1.out]
                        constructor
                        · rintro (h | ⟨j, hj, h⟩)
                          · exact .inl h
                          · exact .inr ⟨j, by omega, h⟩
                        · rintro (h | ⟨j, hj, h⟩)
                          · exact .inl h
                          · rcases Nat.lt_or_ge j k with q | q
                            · exact .inr ⟨j, q, h⟩
                            · obtain rfl : j = k := by omega
                              exact absurd hsk h.2.1)
                      clear hsk
                      go_wp2
                      exact ⟨⟨k + 1, V, by omega, by go_num, rfl, HN, fun _ => hM0, hck6⟩, by simp [intOf]; omega⟩
                    | false =>
                      have hsk : ¬ (k = 0 ∧ 0 < bs.length ∧ M < 0 ∧ mn = 0) := fun h => by have := HSK.out.2 h; cases this
                      have hN0 : (V = true ∨ (matchP (repX x F L) (bs.drop k)).1 = true) ↔ (mn = 0 ∧ bs = []) ∨ ∃ j, j < k + 1 ∧ (matchP x (bs.take j)).1 = true ∧ ¬ (j = 0 ∧ 0 < bs.length ∧ M < 0 ∧ mn = 0) ∧ (matchP (repX x F L) (bs.drop j)).1 = true := by
                        rw [HV1.out]
                        constructor
                        · rintro ((h | ⟨j, hj, h⟩) | h)
                          · exact .inl h
                          · exact .inr ⟨j, by omega, h⟩
                          · exact .inr ⟨k, by omega, HU1.out, hsk, h⟩
                        · rintro (h | ⟨j, hj, h⟩)
                          · exact .inl (.inl h)
                          · rcases Nat.lt_or_ge j k with q | q
                            · exact .inl (.inr ⟨j, q, h⟩)
                            · obtain rfl : j = k := by omega
                              exact .inr h.2.2
                      obtain ⟨D, hD⟩ : ∃ D, matchP (repX x F L) (bs.drop k) = D := ⟨_, rfl⟩
                      rw [hD] at hN0 v2
                      obtain ⟨D1, D2⟩ := D
                      simp only at hN0 v2
                      subst v2
                      have HN0 := Lib.hid hN0
                      have HD := Lib.hid hD
                      have hbr6 := hbr.chg hH3.1 id
                      have KS6 : Hid (∀ w', Chg No w6 w' → HeldA w6 w.heap.size x A n c w') := Lib.hid fun w' h => heldA hbr6 h
                      have hH6 : HeldA w6 w.heap.size x A n c w6.drew := KS6.out _ (Chg.refl No w6).drew
                      have hdl : (bs.drop k).length = bs.length - k := List.length_drop
                      have hmt2 : ∀ w', HeldA w6 w.heap.size x A n c w' → Calls Tryd.prog 59 #[.agg #[.int .i64 x.k, .int .i64 x.f, .int .i64 x.t, .int .i64 x.a, .int .i64 x.b, .slice A n c], .int .i64 F, .int .i64 L] w' fun e w'' => ∃ A2 n2 c2, e = .returned (.agg #[.int .i64 4, .int .i64 0, .int .i64 0, .int .i64 F, .int .i64 L, .slice A2 n2 c2]) ∧ Sl w'' (fun _ => True) A2 n2 c2 [x] ∧ HeldA w6 w.heap.size x A n c w'' ∧ Chg No w' w'' := fun w' h =>
                        (hmt F L w' (hcw6.trans h.1)).mono fun e w'' ⟨A2, n2, c2, he, hm, hcc⟩ => ⟨A2, n2, c2, he, hm, KS6.out _ (h.1.trans hcc), hcc⟩
                      have hHd2 : ∀ (B' : Option Addr) (m' cb' : Nat) w', Byt w B' m' cb' (bs.drop k) → HeldA w6 w.heap.size x A n c w' → Calls Tryd.prog 22 #[.slice B' m' cb'] w' fun e w'' => ∃ g, e = .returned (.slice (some ⟨g, 0, none⟩) m' (m' + 2)) ∧ HandAt w'' g (bs.drop k) ∧ HeldA w6 w.heap.size x A n c w'' ∧ Chg No w' w'' := fun B' m' cb' w' hB' h =>
                        (hHd B' m' cb' (bs.drop k) w' hB' (by omega) (hcw6.trans h.1)).mono fun e w'' ⟨g, he, _, hh, hcc⟩ => ⟨g, by rw [he, hB'.1], hh, KS6.out _ (h.1.trans hcc), hcc⟩
                      have hMa2 : ∀ (A' : Option Addr) (n' c' : Nat) (w' : World) (_ : Sl w' (fun _ => True) A' n' c' [x]) (g m' : Nat) (_ : m' = bs.length - k) (_ : HandAt w' g (bs.drop k)) (_ : HeldA w6 w.heap.size x A n c w'), Calls Tryd.prog 21 #[.agg #[.int .i64 4, .int .i64 0, .int .i64 0, .int .i64 F, .int .i64 L, .slice A' n' c'], .slice (some ⟨g, 0, none⟩) m' (m' + 2)] w' fun e w'' => e = .returned (.tuple #[.bool D1, .int .i64 0]) ∧ HeldA w6 w.heap.size x A n c w'' := fun A' n' c' w' hy g m' hm' hh h => by
                        subst hm'
                        have := (hMa (repX x F L) A' n' c' w' hy g (bs.drop k) hh (by omega) (hcw6.trans h.1)).mono (R' := fun e w'' => e = .returned (.tuple #[.bool (matchP (repX x F L) (bs.drop k)).1, .int .i64 (matchP (repX x F L) (bs.drop k)).2]) ∧ HeldA w6 w.heap.size x A n c w'') fun e w'' ⟨he, hcc⟩ => ⟨he, KS6.out _ (h.1.trans hcc)⟩
                        rw [hdl, hD] at this
                        exact this
                      clear hN0 hD hdl hsk
                      have HBW := HB.out
                      by_cases hcbk : cb = k
                      · subst hcbk
                        have hz0 : bs.length - cb = 0 := by omega
                        have HZ0 := Lib.hid hz0
                        clear hz0
                        go_wp2_with fail
                        go_region_held3 (fun w' => HeldA w6 w.heap.size x A n c w' ∧ w'.cell? ⟨w.heap.size, 0, none⟩ = some (.int .i64 x.k) ∧ w'.cell? ⟨w.heap.size, 1, none⟩ = some (.int .i64 x.f) ∧ w'.cell? ⟨w.heap.size, 2, none⟩ = some (.int .i64 x.t) ∧ w'.cell? ⟨w.heap.size, 3, none⟩ = some (.int .i64 x.a) ∧ w'.cell? ⟨w.heap.size, 4, none⟩ = some (.int .i64 x.b) ∧ w'.cell? ⟨w.heap.size, 5, none⟩ = some (.slice A n c)) (exact ⟨by assumption, And.right (show HeldA w6 w.heap.size x A n c _ by assumption)⟩)
                          (first | (go_at_call 59; refine (hmt2 _ (by assumption)).mono ?_; rintro e w7 ⟨A2, n2, c2, rfl, hM, hH7, hcx7⟩) | (go_at_call 22; refine (hHd2 _ _ _ _ (HBW.gone hcb1 rfl (by omega)) (by assumption)).mono ?_; rintro e w8 ⟨g8, rfl, hh8, hH8, hcx8⟩; have hM8 := hM.chgNo hcx8) | (go_at_call 21; refine (hMa2 A2 n2 c2 _ hM8 g8 _ (HZ0.out.symm) hh8 (by assumption)).mono ?_; rintro e w9 ⟨rfl, hH9⟩))
                        have hck9 := hck6.trans hH9.1
                        have HVD : Hid ((V || D1) = true ↔ (mn = 0 ∧ bs = []) ∨ ∃ j, j < cb + 1 ∧ (matchP x (bs.take j)).1 = true ∧ ¬ (j = 0 ∧ 0 < bs.length ∧ M < 0 ∧ mn = 0) ∧ (matchP (repX x F L) (bs.drop j)).1 = true) := Lib.hid (by rw [Bool.or_eq_true]; exact HN0.out)
                        clear hmt2 hHd2 hMa2 hH6 hM hM8 hH7 hH8 hcx7 hcx8 hh8
                        cases V <;> cases D1
                        all_goals
                          go_wp2
                          exact ⟨⟨cb + 1, _, by omega, by go_num, rfl, HVD, fun _ => hM0, hck9⟩, by simp [intOf]; omega⟩
                      · obtain ⟨a, rfl⟩ : ∃ a, B = some a := by
                          cases B with
                          | none => exact absurd (HBN.out rfl) (by omega)
                          | some a => exact ⟨a, rfl⟩
                        go_wp2_with fail
                        go_region_held3 (fun w' => HeldA w6 w.heap.size x A n c w' ∧ w'.cell? ⟨w.heap.size, 0, none⟩ = some (.int .i64 x.k) ∧ w'.cell? ⟨w.heap.size, 1, none⟩ = some (.int .i64 x.f) ∧ w'.cell? ⟨w.heap.size, 2, none⟩ = some (.int .i64 x.t) ∧ w'.cell? ⟨w.heap.size, 3, none⟩ = some (.int .i64 x.a) ∧ w'.cell? ⟨w.heap.size, 4, none⟩ = some (.int .i64 x.b) ∧ w'.cell? ⟨w.heap.size, 5, none⟩ = some (.slice A n c)) (exact ⟨by assumption, And.right (show HeldA w6 w.heap.size x A n c _ by assumption)⟩)
                          (first | (go_at_call 59; refine (hmt2 _ (by assumption)).mono ?_; rintro e w7 ⟨A2, n2, c2, rfl, hM, hH7, hcx7⟩) | (go_at_call 22; refine (hHd2 _ _ _ _ (HBW.dropA hlt) (by assumption)).mono ?_; rintro e w8 ⟨g8, rfl, hh8, hH8, hcx8⟩; have hM8 := hM.chgNo hcx8) | (go_at_call 21; refine (hMa2 A2 n2 c2 _ hM8 g8 _ (rfl) hh8 (by assumption)).mono ?_; rintro e w9 ⟨rfl, hH9⟩))
                        have hck9 := hck6.trans hH9.1
                        have HVD : Hid ((V || D1) = true ↔ (mn = 0 ∧ bs = []) ∨ ∃ j, j < k + 1 ∧ (matchP x (bs.take j)).1 = true ∧ ¬ (j = 0 ∧ 0 < bs.length ∧ M < 0 ∧ mn = 0) ∧ (matchP (repX x F L) (bs.drop j)).1 = true) := Lib.hid (by rw [Bool.or_eq_true]; exact HN0.out)
                        clear hmt2 hHd2 hMa2 hH6 hM hM8 hH7 hH8 hcx7 hcx8 hh8
                        cases V <;> cases D1
                        all_goals
                          go_wp2
                          exact ⟨⟨k + 1, _, by omega, by go_num, rfl, HVD, fun _ => hM0, hck9⟩, by simp [intOf]; omega⟩
              · obtain rfl : k = bs.length + 1 := by omega
                have HE : Hid (R1 = V) := Lib.hid (by
                  have h1 := HMain.out
                  have h2 := HV1.out
                  rw [Bool.eq_iff_iff, h1, h2]
                  constructor
                  · rintro (h | ⟨_, j, hj, h⟩)
                    · exact .inl h
                    · exact .inr ⟨j, by omega, h⟩
                  · rintro (h | ⟨j, hj, h⟩)
                    · exact .inl h
                    · exact .inr ⟨hM0, j, by omega, h⟩)
                clear hkM
                have hgt : ¬ ((bs.length : Int) + 1 ≤ (bs.length : Int)) := by omega
                go_wp2
                go_ret
                exact ⟨by rw [HE.out]; simp, hcw⟩
      · have e1 : (R2 != 0) = true := by simpa using hR0
        have hsome : R2 = 21 ∨ R2 = 5 ∨ R2 = 2 := by omega
        clear hRL HRL HR hrep HLM hM1
        rcases hsome with rfl | rfl | rfl
        all_goals
          go_wp2
          go_ret
          exact ⟨rfl, k3⟩
end Go.Proofs.YticipgjbgcdccaaDoor
namespace Go.Proofs.YticipgjbgcdccaaDoor
open Go.RowKit

theorem checkP_flat {x : Ex} (h : checkP x = 0) : flatB x = true := by
  rw [checkP_guard] at h
  unfold flatB
  split at h
  · exact absurd h ‹_›
  · rename_i q; simpa using q
theorem Sl.two {w : World} {g : Nat} {x y : Ex} {A C : Option Addr} {n n' c c' : Nat} (hb : Blk w g 25 #[.int .i64 x.k, .int .i64 x.f, .int .i64 x.t, .int .i64 x.a, .int .i64 x.b, .slice A n c, .int .i64 y.k, .int .i64 y.f, .int .i64 y.t, .int .i64 y.a, .int .i64 y.b, .slice C n' c'])
    (hx : Sl w (fun _ => True) A n c x.l) (hy : Sl w (fun _ => True) C n' c' y.l) : Sl w (fun _ => True) (some ⟨g, 0, none⟩) 2 2 [x, y] := by
  refine ⟨rfl, by simp, by omega, fun _ => ⟨g, 0, rfl, trivial, hb.lt, ?_⟩⟩
  have z : ∀ (i : Nat) v, (#[Value.int .i64 x.k, .int .i64 x.f, .int .i64 x.t, .int .i64 x.a, .int .i64 x.b, .slice A n c, .int .i64 y.k, .int .i64 y.f, .int .i64 y.t, .int .i64 y.a, .int .i64 y.b, .slice C n' c'] : Array Value)[i]? = some v → w.cell? ⟨g, i, none⟩ = some v := fun i v h => (hb.cell i).trans h
  unfold LsAt LsAt LsAt
  refine ⟨?_, ?_, trivial⟩
  · cases x with
    | mk k f t a b l =>
      obtain ⟨h1, h2, h3, h4⟩ := hx
      have h1 : n = l.length := h1
      subst h1
      unfold ExAt
      exact ⟨z 0 _ rfl, z 1 _ rfl, z 2 _ rfl, z 3 _ rfl, z 4 _ rfl, A, c, z 5 _ rfl, h2, h3, h4⟩
  · cases y with
    | mk k f t a b l =>
      obtain ⟨h1, h2, h3, h4⟩ := hy
      have h1 : n' = l.length := h1
      subst h1
      unfold ExAt
      exact ⟨z 6 _ rfl, z 7 _ rfl, z 8 _ rfl, z 9 _ rfl, z 10 _ rfl, C, c', z 11 _ rfl, h2, h3, h4⟩

/-- TwinExpr, Hand, Match, of things that lay in memory at w0 -/
theorem TwB {w0 : World} {x : Ex} {A : Option Addr} {n c : Nat} {S : Nat → Prop} (hl : Sl w0 S A n c x.l) (hsm : lenOk x) (w' : World) (h : Chg No w0 w') :
    Calls Tryd.prog 16 #[.agg #[.int .i64 x.k, .int .i64 x.f, .int .i64 x.t, .int .i64 x.a, .int .i64 x.b, .slice A n c]] w' fun e w'' => ∃ A2 c2, e = .returned (.agg #[.int .i64 x.k, .int .i64 x.f, .int .i64 x.t, .int .i64 x.a, .int .i64 x.b, .slice A2 x.l.length c2]) ∧ Sl w'' (fun _ => True) A2 x.l.length c2 x.l ∧ Chg No w0 w'' ∧ Chg No w' w'' :=
  (TwinExpr_any x A n c S w' (hl.chgNo h) hsm).mono fun _ _ ⟨A2, c2, he, hm, hc⟩ => ⟨A2, c2, he, hm.2, h.trans hc, hc⟩
/-- TwinExpr of a right pattern: what it gives lies in new rows -/
theorem TwC {w0 : World} {x : Ex} {A : Option Addr} {n c : Nat} {S : Nat → Prop} (hx : checkP x = 0) (hl : Sl w0 S A n c x.l) (hsm : lenOk x) (w' : World) (h : Chg No w0 w') :
    Calls Tryd.prog 16 #[.agg #[.int .i64 x.k, .int .i64 x.f, .int .i64 x.t, .int .i64 x.a, .int .i64 x.b, .slice A n c]] w' fun e w'' => ∃ A2 c2, e = .returned (.agg #[.int .i64 x.k, .int .i64 x.f, .int .i64 x.t, .int .i64 x.a, .int .i64 x.b, .slice A2 x.l.length c2]) ∧ Sl w'' (fun k => w'.heap.size ≤ k ∧ k < w''.heap.size) A2 x.l.length c2 x.l ∧ Chg No w0 w'' ∧ Chg No w' w'' :=
  (TwinExpr_any x A n c S w' (hl.chgNo h) hsm).mono fun _ _ ⟨A2, c2, he, hm, hc⟩ => ⟨A2, c2, he, (((hm.1 (checkP_flat hx)).sl).keep (fun _ _ _ => rfl) (fun _ hk hl => ⟨hk, hl⟩) (Nat.le_refl _)), h.trans hc, hc⟩
theorem HdB {w0 : World} {B : Option Addr} {m cb : Nat} {bs : List Nat} (hB : Byt w0 B m cb bs) (hlen : bs.length ≤ 40) (w' : World) (h : Chg No w0 w') :
    Calls Tryd.prog 22 #[.slice B m cb] w' fun e w'' => ∃ g, e = .returned (.slice (some ⟨g, 0, none⟩) m (m + 2)) ∧ HandAt w'' g bs ∧ Chg No w0 w'' ∧ Chg No w' w'' :=
  (Hand_any B m cb bs w' (hB.chgNo h) (by omega)).mono fun _ _ ⟨g, he, _, hh, hc⟩ => ⟨g, by rw [he, hB.1], hh, h.trans hc, hc⟩
theorem MaB {w0 : World} (hd : Deb w0) (hg : 0 < w0.heap.size) (x : Ex) (A : Option Addr) (n c : Nat) (w' : World) (hs : Sl w' (fun _ => True) A n c x.l) (g m : Nat) (bs : List Nat) (hm : m = bs.length) (hh : HandAt w' g bs) (hlen : bs.length ≤ 40) (h : Chg No w0 w') :
    Calls Tryd.prog 21 #[.agg #[.int .i64 x.k, .int .i64 x.f, .int .i64 x.t, .int .i64 x.a, .int .i64 x.b, .slice A n c], .slice (some ⟨g, 0, none⟩) m (m + 2)] w' fun e w'' => e = .returned (.tuple #[.bool (matchP x bs).1, .int .i64 (matchP x bs).2]) ∧ Chg No w0 w'' ∧ Chg No w' w'' := by
  subst hm
  exact (Match_any x A n c _ w' hs (some ⟨g, 0, none⟩) bs.length (bs.length + 2) bs (hh.byt (by omega)) (hd.chgNo h) (by have := h.size; omega)).mono fun _ _ ⟨he, hc⟩ => ⟨he, h.trans hc, hc⟩
theorem matchP_zero {x : Ex} (h : checkP x = 0) {bs : List Nat} (hl : bs.length ≤ 40) : (matchP x bs).2 = 0 := by
  rw [matchP_snd]; unfold askedP; rw [if_neg (by rw [h]; simp), if_neg (by omega)]
theorem asked_zero {x : Ex} (h : checkP x = 0) {bs : List Nat} (hl : bs.length ≤ 40) : askedP x bs.length = 0 := by
  unfold askedP; rw [if_neg (by rw [h]; simp), if_neg (by omega)]

def altE (x y : Ex) : Ex := .mk 3 0 0 0 0 [x, y]
def seqE (x y : Ex) : Ex := .mk 2 0 0 0 0 [x, y]
theorem either_law {x y : Ex} (hx : checkP x = 0) (hy : checkP y = 0) {bs : List Nat} (hl : bs.length ≤ 40) (hg : (matchP (altE x y) bs).2 = 0) : (matchP (altE x y) bs).1 = ((matchP x bs).1 || (matchP y bs).1) := by
  rw [matchP_snd] at hg
  rw [Bool.eq_iff_iff, matchP_lang hg, Bool.or_eq_true, matchP_lang (asked_zero hx hl), matchP_lang (asked_zero hy hl)]
  exact Lang_alt x y bs
theorem whole_law {x y : Ex} (hx : checkP x = 0) (hy : checkP y = 0) {bs : List Nat} (hl : bs.length ≤ 40) (hg : (matchP (seqE x y) bs).2 = 0) : (matchP (seqE x y) bs).1 = true ↔ ∃ k, k ≤ bs.length ∧ (matchP x (bs.take k)).1 = true ∧ (matchP y (bs.drop k)).1 = true := by
  rw [matchP_snd] at hg
  rw [matchP_lang hg]
  refine (Lang_seq x y bs).trans ?_
  constructor
  · rintro ⟨k, hk, h1, h2⟩
    exact ⟨k, hk, (matchP_lang (asked_zero hx (by rw [List.length_take]; omega))).2 h1, (matchP_lang (asked_zero hy (by rw [List.length_drop]; omega))).2 h2⟩
  · rintro ⟨k, hk, h1, h2⟩
    exact ⟨k, hk, (matchP_lang (asked_zero hx (by rw [List.length_take]; omega))).1 h1, (matchP_lang (asked_zero hy (by rw [List.length_drop]; omega))).1 h2⟩
/-- Match of a right pattern on few bytes -/
theorem MaZ {w0 : World} (hd : Deb w0) (hg : 0 < w0.heap.size) {x : Ex} (hx : checkP x = 0) (A : Option Addr) (n c : Nat) (S : Nat → Prop) (w' : World) (hs : Sl w' S A n c x.l) (g m : Nat) (bs : List Nat) (hm : m = bs.length) (hh : HandAt w' g bs) (hlen : bs.length ≤ 40) (h : Chg No w0 w') (U : Bool) (hU : (matchP x bs).1 = U) :
    Calls Tryd.prog 21 #[.agg #[.int .i64 x.k, .int .i64 x.f, .int .i64 x.t, .int .i64 x.a, .int .i64 x.b, .slice A n c], .slice (some ⟨g, 0, none⟩) m (m + 2)] w' fun e w'' => e = .returned (.tuple #[.bool U, .int .i64 0]) ∧ Chg No w0 w'' ∧ Chg No w' w'' :=
  (MaB hd hg x A n c w' (hs.mono fun _ _ => trivial) g m bs hm hh hlen h).mono fun _ _ ⟨he, hc⟩ => ⟨by rw [he, hU, matchP_zero hx hlen], hc⟩

/-- Match of a pattern of two on few bytes -/
theorem MaK (k : Int) (x y : Ex) {w0 : World} (hd : Deb w0) (hg : 0 < w0.heap.size) {A : Option Addr} (hs0 : Sl w0 (fun _ => True) A 2 2 [x, y]) (Z : Bool) (E : Int) (bs : List Nat) (hZ : matchP (.mk k 0 0 0 0 [x, y]) bs = (Z, E)) (hlen : bs.length ≤ 40) (w' : World) (g : Nat) (hh : HandAt w' g bs) (h : Chg No w0 w') :
    Calls Tryd.prog 21 #[.agg #[.int .i64 k, .int .i64 0, .int .i64 0, .int .i64 0, .int .i64 0, .slice A 2 2], .slice (some ⟨g, 0, none⟩) bs.length (bs.length + 2)] w' fun e w'' => e = .returned (.tuple #[.bool Z, .int .i64 E]) ∧ Chg No w0 w'' ∧ Chg No w' w'' :=
  (MaB hd hg (.mk k 0 0 0 0 [x, y]) A 2 2 w' (hs0.chgNo h) g bs.length bs rfl hh hlen h).mono fun _ _ ⟨he, hc⟩ => ⟨by rw [he, hZ], hc⟩

theorem ex_open {w : World} {g : Nat} {v0 v1 v2 v3 v4 v5 : Value} (h : Blk w g 25 #[v0, v1, v2, v3, v4, v5]) : w.cell? ⟨g, 0, none⟩ = some v0 ∧ w.cell? ⟨g, 1, none⟩ = some v1 ∧ w.cell? ⟨g, 2, none⟩ = some v2 ∧ w.cell? ⟨g, 3, none⟩ = some v3 ∧ w.cell? ⟨g, 4, none⟩ = some v4 ∧ w.cell? ⟨g, 5, none⟩ = some v5 ∧
    w.frozen? ⟨g, 0, none⟩ = false ∧ w.frozen? ⟨g, 1, none⟩ = false ∧ w.frozen? ⟨g, 2, none⟩ = false ∧ w.frozen? ⟨g, 3, none⟩ = false ∧ w.frozen? ⟨g, 4, none⟩ = false ∧ w.frozen? ⟨g, 5, none⟩ = false :=
  ⟨h.cell 0, h.cell 1, h.cell 2, h.cell 3, h.cell 4, h.cell 5, h.frozen 0, h.frozen 1, h.frozen 2, h.frozen 3, h.frozen 4, h.frozen 5⟩
/-- behind 'api.Expr{Kind: .., List: []api.Expr{TwinExpr(a), TwinExpr(c)}}' -/
def BothAt (w0 : World) (x y : Ex) (k : Int) (v : Value) (w : World) : Prop :=
  ∃ g gs, v = .pointer (some ⟨g, 0, none⟩) ∧ Chg No w0 w ∧ w0.heap.size ≤ g ∧ Blk w g 25 #[.int .i64 k, .int .i64 0, .int .i64 0, .int .i64 0, .int .i64 0, .slice (some ⟨gs, 0, none⟩) 2 2] ∧ Sl w (fun _ => True) (some ⟨gs, 0, none⟩) 2 2 [x, y]

/-- the row of the two, laid behind the box or ahead of it -/
theorem both1 {w0 w6 : World} {x y : Ex} {k : Int} {A5 A6 : Option Addr} {c5 c6 : Nat} {S5 S6 : Nat → Prop} (hc : Chg No w0 w6) (h5 : Sl w6 S5 A5 x.l.length c5 x.l) (h6 : Sl w6 S6 A6 y.l.length c6 y.l) :
    BothAt w0 x y k (.pointer (some ⟨w6.heap.size + 1, 0, none⟩)) ((w6.alloc (.cells #[.int .i64 x.k, .int .i64 x.f, .int .i64 x.t, .int .i64 x.a, .int .i64 x.b, .slice A5 x.l.length c5, .int .i64 y.k, .int .i64 y.f, .int .i64 y.t, .int .i64 y.a, .int .i64 y.b, .slice A6 y.l.length c6] 25)).alloc (.cells #[.int .i64 k, .int .i64 0, .int .i64 0, .int .i64 0, .int .i64 0, .slice (some ⟨w6.heap.size, 0, none⟩) 2 2] 25)) := by
  have hz := hc.size
  refine ⟨w6.heap.size + 1, w6.heap.size, rfl, (hc.alloc _).alloc _, by omega, Blk.new' (by simp), ?_⟩
  exact Sl.two ((Blk.new w6 _ _).alloc _) (((h5.mono fun _ _ => trivial).alloc _).alloc _) (((h6.mono fun _ _ => trivial).alloc _).alloc _)
theorem both2 {w0 w6 : World} {x y : Ex} {k : Int} {A5 A6 : Option Addr} {c5 c6 : Nat} {S5 S6 : Nat → Prop} (hc : Chg No w0 w6) (h5 : Sl w6 S5 A5 x.l.length c5 x.l) (h6 : Sl w6 S6 A6 y.l.length c6 y.l) :
    BothAt w0 x y k (.pointer (some ⟨w6.heap.size, 0, none⟩)) ((w6.alloc (.cells #[.int .i64 k, .int .i64 0, .int .i64 0, .int .i64 0, .int .i64 0, .slice (some ⟨w6.heap.size + 1, 0, none⟩) 2 2] 25)).alloc (.cells #[.int .i64 x.k, .int .i64 x.f, .int .i64 x.t, .int .i64 x.a, .int .i64 x.b, .slice A5 x.l.length c5, .int .i64 y.k, .int .i64 y.f, .int .i64 y.t, .int .i64 y.a, .int .i64 y.b, .slice A6 y.l.length c6] 25)) := by
  have hz := hc.size
  refine ⟨w6.heap.size, w6.heap.size + 1, rfl, (hc.alloc _).alloc _, by omega, (Blk.new w6 _ _).alloc _, ?_⟩
  exact Sl.two (Blk.new' (by simp)) (((h5.mono fun _ _ => trivial).alloc _).alloc _) (((h6.mono fun _ _ => trivial).alloc _).alloc _)
theorem both3 {w0 w6 : World} {x y : Ex} {k : Int} {g : Nat} {A5 A6 : Option Addr} {c5 c6 : Nat} {S5 S6 : Nat → Prop} (hc : Chg No w0 w6) (hg : w0.heap.size ≤ g) (hb : Blk w6 g 25 #[.int .i64 0, .int .i64 0, .int .i64 0, .int .i64 0, .int .i64 0, .slice none 0 0]) (h5 : Sl w6 S5 A5 x.l.length c5 x.l) (n5 : ¬ S5 g) (h6 : Sl w6 S6 A6 y.l.length c6 y.l) (n6 : ¬ S6 g) :
    BothAt w0 x y k (.pointer (some ⟨g, 0, none⟩)) (((((((w6.setCell ⟨g, 0, none⟩ (.int .i64 k)).setCell ⟨g, 1, none⟩ (.int .i64 0)).setCell ⟨g, 2, none⟩ (.int .i64 0)).setCell ⟨g, 3, none⟩ (.int .i64 0)).setCell ⟨g, 4, none⟩ (.int .i64 0)).setCell ⟨g, 5, none⟩ (.slice (some ⟨w6.heap.size, 0, none⟩) 2 2)).alloc (.cells #[.int .i64 x.k, .int .i64 x.f, .int .i64 x.t, .int .i64 x.a, .int .i64 x.b, .slice A5 x.l.length c5, .int .i64 y.k, .int .i64 y.f, .int .i64 y.t, .int .i64 y.a, .int .i64 y.b, .slice A6 y.l.length c6] 25)) := by
  have hz := hc.size
  have b7 := (((((hb.set_ 0 (.int .i64 k)).set_ 1 (.int .i64 0)).set_ 2 (.int .i64 0)).set_ 3 (.int .i64 0)).set_ 4 (.int .i64 0)).set_ 5 (.slice (some ⟨w6.heap.size, 0, none⟩) 2 2)
  have c7 : Chg (fun j => j = g) w6 ((((((w6.setCell ⟨g, 0, none⟩ (.int .i64 k)).setCell ⟨g, 1, none⟩ (.int .i64 0)).setCell ⟨g, 2, none⟩ (.int .i64 0)).setCell ⟨g, 3, none⟩ (.int .i64 0)).setCell ⟨g, 4, none⟩ (.int .i64 0)).setCell ⟨g, 5, none⟩ (.slice (some ⟨w6.heap.size, 0, none⟩) 2 2)) := by
    iterate 6 with_reducible refine Chg.setCell (S := fun j => j = g) ?_ _ (fun _ => rfl)
    exact Chg.refl _ _
  have z7 : ((((((w6.setCell ⟨g, 0, none⟩ (.int .i64 k)).setCell ⟨g, 1, none⟩ (.int .i64 0)).setCell ⟨g, 2, none⟩ (.int .i64 0)).setCell ⟨g, 3, none⟩ (.int .i64 0)).setCell ⟨g, 4, none⟩ (.int .i64 0)).setCell ⟨g, 5, none⟩ (.slice (some ⟨w6.heap.size, 0, none⟩) 2 2)).heap.size = w6.heap.size := by simp
  generalize ((((((w6.setCell ⟨g, 0, none⟩ (.int .i64 k)).setCell ⟨g, 1, none⟩ (.int .i64 0)).setCell ⟨g, 2, none⟩ (.int .i64 0)).setCell ⟨g, 3, none⟩ (.int .i64 0)).setCell ⟨g, 4, none⟩ (.int .i64 0)).setCell ⟨g, 5, none⟩ (.slice (some ⟨w6.heap.size, 0, none⟩) 2 2)) = w7 at b7 c7 z7 ⊢
  have h5' := h5.chg c7 fun j hj e => n5 (e ▸ hj)
  have h6' := h6.chg c7 fun j hj e => n6 (e ▸ hj)
  refine ⟨g, w6.heap.size, rfl, (hc.then_ c7 fun j hj e => absurd e (by omega)).alloc _, hg, Blk.alloc (by simpa using b7) _, ?_⟩
  exact Sl.two (Blk.new' z7) ((h5'.mono fun _ _ => trivial).alloc _) ((h6'.mono fun _ _ => trivial).alloc _)

set_option maxHeartbeats 8000000 in
set_option maxRecDepth 100000 in
theorem ExprSums_any (x y : Ex) (mn more : Int) (A C : Option Addr) (n n' c c' : Nat) (S : Nat → Prop) (w : World) (hlx : Sl w S A n c x.l) (hly : Sl w S C n' c' y.l) (okx : lenOk x) (oky : lenOk y)
    (B : Option Addr) (m cb : Nat) (bs0 : List Nat) (hB : Byt w B m cb bs0) (hBn : B = none → cb = 0) (hd : Deb w) (hg : 0 < w.heap.size) (ht : Tab w) :
    Calls Tryd.prog 6 #[.agg #[.int .i64 x.k, .int .i64 x.f, .int .i64 x.t, .int .i64 x.a, .int .i64 x.b, .slice A n c], .agg #[.int .i64 y.k, .int .i64 y.f, .int .i64 y.t, .int .i64 y.a, .int .i64 y.b, .slice C n' c'], .int .i64 mn, .int .i64 more, .slice B m cb] w fun e w' => e = .returned (.bool true) ∧ Chg No w w' := by
  obtain ⟨rfl, hcb1, hcb2, hB4⟩ := hB
  have HB0 := Lib.hid (show Byt w B bs0.length cb bs0 from ⟨rfl, hcb1, hcb2, hB4⟩)
  have HBN := Lib.hid hBn
  clear hB4 hBn
  have hba := (Blk.new w 25 #[.int .i64 x.k, .int .i64 x.f, .int .i64 x.t, .int .i64 x.a, .int .i64 x.b, .slice A n c]).alloc (.cells #[.int .i64 y.k, .int .i64 y.f, .int .i64 y.t, .int .i64 y.a, .int .i64 y.b, .slice C n' c'] 25)
  have hbc := Blk.new' (w := w.alloc (.cells #[.int .i64 x.k, .int .i64 x.f, .int .i64 x.t, .int .i64 x.a, .int .i64 x.b, .slice A n c] 25)) (g := w.heap.size + 1) (t := 25) (cs := #[.int .i64 y.k, .int .i64 y.f, .int .i64 y.t, .int .i64 y.a, .int .i64 y.b, .slice C n' c']) (by simp)
  have hc0 : Chg No w ((w.alloc (.cells #[.int .i64 x.k, .int .i64 x.f, .int .i64 x.t, .int .i64 x.a, .int .i64 x.b, .slice A n c] 25)).alloc (.cells #[.int .i64 y.k, .int .i64 y.f, .int .i64 y.t, .int .i64 y.a, .int .i64 y.b, .slice C n' c'] 25)) := ((Chg.refl _ _).alloc _).alloc _
  obtain ⟨bs, hbs⟩ : ∃ bs, bs = bs0.take 40 := ⟨_, rfl⟩
  have hlen : bs.length ≤ 40 := by rw [hbs, List.length_take]; omega
  have hl40 : bs.length = min 40 bs0.length := by rw [hbs, List.length_take]
  have HB := Lib.hid (show Byt w B bs.length cb bs by
    by_cases q : bs0.length ≤ 40
    · rw [show bs = bs0 by rw [hbs, List.take_of_length_le q]]; exact HB0.out
    · have := HB0.out.take (k := 40) (by omega)
      rw [hbs]
      rw [show (bs0.take 40).length = 40 by rw [List.length_take]; omega]; exact this)
  have hcb : bs.length ≤ cb := HB.out.2.1
  have HL40 := Lib.hid hl40
  clear hbs hl40
  go_enter Tryd.func6, Tryd.ntmps6
  go_upto_if 28 with fail
  go_cut [4] (fun s4 wx => IsV s4 (.slice B bs.length cb) ∧ Chg No w wx ∧ Blk wx (w.heap.size) 25 #[.int .i64 x.k, .int .i64 x.f, .int .i64 x.t, .int .i64 x.a, .int .i64 x.b, .slice A n c] ∧ Blk wx (w.heap.size + 1) 25 #[.int .i64 y.k, .int .i64 y.f, .int .i64 y.t, .int .i64 y.a, .int .i64 y.b, .slice C n' c'])
  case first =>
    by_cases q : 40 < bs0.length
    · have q2 : bs.length = 40 := by rw [HL40.out]; omega
      have Q2 := Lib.hid q2
      have q3 : 40 ≤ cb := by omega
      clear q2
      go_wp2_with fail
      all_goals first
        | (go_meet; exact ⟨by unfold IsV; rw [Q2.out], hc0, hba, hbc⟩)
        | (exfalso; omega)
    · have q2 : bs.length = bs0.length := by rw [HL40.out]; omega
      have Q2 := Lib.hid q2
      clear q2
      go_wp2_with fail
      all_goals first
        | (go_meet; exact ⟨by unfold IsV; rw [Q2.out], hc0, hba, hbc⟩)
        | (exfalso; omega)
  case rest =>
    obtain ⟨q1, hcc, hba, hbc⟩ := hcut
    unfold IsV at q1
    subst q1
    clear HB0 HL40 hcb1
    have hd := hd.chgNo hcc
    have hg : 0 < wc.heap.size := by have := hcc.size; omega
    have ht := ht.chgNo hcc
    have hlx := hlx.chgNo hcc
    have hly := hly.chgNo hcc
    have HB := Lib.hid (HB.out.chgNo hcc)
    obtain ⟨a0, a1, a2, a3, a4, a5⟩ := ex_cells hba
    obtain ⟨E1, hE1⟩ : ∃ E, checkP x = E := ⟨_, rfl⟩
    obtain ⟨E2, hE2⟩ : ∃ E, checkP y = E := ⟨_, rfl⟩
    have HE1 := Lib.hid hE1
    have HE2 := Lib.hid hE2
    clear hE1 hE2
    go_wp2_with fail
    refine (TwB hlx okx wc (Chg.refl No wc)).mono ?_
    rintro e w1 ⟨A1, c1, rfl, hs1, hC1, hN1⟩
    have hch := check_any w1 x.k x.f x.t x.a x.b A1 x.l.length c1 x.l _ hs1
    rw [Ex.eta, HE1.out] at hch
    go_wp2_with fail
    refine hch.mono ?_
    rintro e w2 ⟨rfl, hN2⟩
    have hC2 := hC1.trans hN2
    clear a0 a1 a2 a3 a4 a5 hch
    obtain ⟨a0, a1, a2, a3, a4, a5⟩ := ex_cells (hbc.chg hC2 id)
    by_cases hx0 : E1 = 0
    · subst hx0
      go_wp2_with fail
      refine (TwB hly oky w2 hC2).mono ?_
      rintro e w3 ⟨A3, c3, rfl, hs3, hC3, hN3⟩
      have hch := check_any w3 y.k y.f y.t y.a y.b A3 y.l.length c3 y.l _ hs3
      rw [Ex.eta, HE2.out] at hch
      go_wp2_with fail
      refine hch.mono ?_
      rintro e w4 ⟨rfl, hN4⟩
      have hC4 := hC3.trans hN4
      clear a0 a1 a2 a3 a4 a5 hch
      by_cases hy0 : E2 = 0
      · subst hy0
        have hx := HE1.out
        have hy := HE2.out
        have HX := Lib.hid hx
        have HY := Lib.hid hy
        have hba := hba.chg hC4 id
        have hbc := hbc.chg hC4 id
        have hd := hd.chgNo hC4
        have hg : 0 < w4.heap.size := by have := hC4.size; omega
        have ht := ht.chgNo hC4
        have hlx := hlx.chgNo hC4
        have hly := hly.chgNo hC4
        have HB := Lib.hid (HB.out.chgNo hC4)
        have hcw := hcc.trans hC4
        clear hC1 hN1 hN2 hC2 hC3 hN3 hN4 hC4 hs1 hs3 hx hy HE1 HE2
        have KS : Hid (∀ w', Chg No w4 w' → Chg No w4 w' ∧ (w'.cell? ⟨w.heap.size, 0, none⟩ = some (.int .i64 x.k) ∧ w'.cell? ⟨w.heap.size, 1, none⟩ = some (.int .i64 x.f) ∧ w'.cell? ⟨w.heap.size, 2, none⟩ = some (.int .i64 x.t) ∧ w'.cell? ⟨w.heap.size, 3, none⟩ = some (.int .i64 x.a) ∧ w'.cell? ⟨w.heap.size, 4, none⟩ = some (.int .i64 x.b) ∧ w'.cell? ⟨w.heap.size, 5, none⟩ = some (.slice A n c)) ∧ (w'.cell? ⟨w.heap.size + 1, 0, none⟩ = some (.int .i64 y.k) ∧ w'.cell? ⟨w.heap.size + 1, 1, none⟩ = some (.int .i64 y.f) ∧ w'.cell? ⟨w.heap.size + 1, 2, none⟩ = some (.int .i64 y.t) ∧ w'.cell? ⟨w.heap.size + 1, 3, none⟩ = some (.int .i64 y.a) ∧ w'.cell? ⟨w.heap.size + 1, 4, none⟩ = some (.int .i64 y.b) ∧ w'.cell? ⟨w.heap.size + 1, 5, none⟩ = some (.slice C n' c'))) := Lib.hid fun w' h => ⟨h, ex_cells (hba.chg h id), ex_cells (hbc.chg h id)⟩
        have hD0 : Chg No w4 w4.drew := (Chg.refl No w4).drew
        have TX := TwC HX.out hlx okx
        have TY := TwC HY.out hly oky
        go_wp2_with fail
        have hZ4 := (Blk.new w4 25 #[.int .i64 0, .int .i64 0, .int .i64 0, .int .i64 0, .int .i64 0, .slice none 0 0]).chg ((Chg.refl No _).drew) id
        have hZC : Chg No w4 (w4.alloc (.cells #[.int .i64 0, .int .i64 0, .int .i64 0, .int .i64 0, .int .i64 0, .slice none 0 0] 25)).drew := ((Chg.refl _ _).alloc _).drew
        go_cut [11] (fun s11 wx => BothAt w4 x y 3 s11 wx)
        case first =>
          go_region_held3 (fun w' => Chg No w4 w' ∧ (w'.cell? ⟨w.heap.size, 0, none⟩ = some (.int .i64 x.k) ∧ w'.cell? ⟨w.heap.size, 1, none⟩ = some (.int .i64 x.f) ∧ w'.cell? ⟨w.heap.size, 2, none⟩ = some (.int .i64 x.t) ∧ w'.cell? ⟨w.heap.size, 3, none⟩ = some (.int .i64 x.a) ∧ w'.cell? ⟨w.heap.size, 4, none⟩ = some (.int .i64 x.b) ∧ w'.cell? ⟨w.heap.size, 5, none⟩ = some (.slice A n c)) ∧ (w'.cell? ⟨w.heap.size + 1, 0, none⟩ = some (.int .i64 y.k) ∧ w'.cell? ⟨w.heap.size + 1, 1, none⟩ = some (.int .i64 y.f) ∧ w'.cell? ⟨w.heap.size + 1, 2, none⟩ = some (.int .i64 y.t) ∧ w'.cell? ⟨w.heap.size + 1, 3, none⟩ = some (.int .i64 y.a) ∧ w'.cell? ⟨w.heap.size + 1, 4, none⟩ = some (.int .i64 y.b) ∧ w'.cell? ⟨w.heap.size + 1, 5, none⟩ = some (.slice C n' c'))) ((refine KS.out _ ?_; repeat' (first | with_reducible assumption | with_reducible refine Chg.setCell ?_ _ ?_ | with_reducible refine Chg.alloc ?_ _ | with_reducible refine Chg.drew ?_ | with_reducible exact Chg.refl _ _ | (intro hh; exfalso; dsimp only at hh; omega))))
            (first | (go_at_call 16; (with_reducible refine (TX w4.drew hD0).mono ?_); rintro e w5 ⟨A5, c5, rfl, hs5, hC5, hN5⟩; have hZ5 := Blk.new w5 25 #[.int .i64 0, .int .i64 0, .int .i64 0, .int .i64 0, .int .i64 0, .slice none 0 0]; have sz5 := hC5.size) | (go_at_call 16; (with_reducible refine (TX _ hZC).mono ?_); rintro e w5 ⟨A5, c5, rfl, hs5, hC5, hN5⟩; have hX5 := hZ4.chg hN5 id; have hl5 := hX5.lt; have sz5 := hC5.size) | (go_at_call 16; (with_reducible refine (TY w5 hC5).mono ?_); rintro e w6 ⟨A6, c6, rfl, hs6, hC6, hN6⟩; have hs56 := hs5.chgNo hN6; have sz6 := hC6.size; try (have hX6 := hX5.chg hN6 id; have hl6 := hX6.lt; obtain ⟨p0, p1, p2, p3, p4, p5, q0, q1, q2, q3, q4, q5⟩ := ex_open hX6; have hB6 := hX6.alloc (.cells #[.int .i64 x.k, .int .i64 x.f, .int .i64 x.t, .int .i64 x.a, .int .i64 x.b, .slice A5 x.l.length c5, .int .i64 y.k, .int .i64 y.f, .int .i64 y.t, .int .i64 y.a, .int .i64 y.b, .slice A6 y.l.length c6] 25); obtain ⟨r0, r1, r2, r3, r4, r5, s0, s1, s2, s3, s4, s5⟩ := ex_open hB6)) | (go_at_call 16; (with_reducible refine (TY _ (hC5.alloc _)).mono ?_); rintro e w6 ⟨A6, c6, rfl, hs6, hC6, hN6⟩; have hs56 := (hs5.alloc _).chgNo hN6; have sz6 := hC6.size; have hY6 := hZ5.chg hN6 id; have hl6 := hY6.lt; obtain ⟨p0, p1, p2, p3, p4, p5, q0, q1, q2, q3, q4, q5⟩ := ex_open hY6; have hB6 := hY6.alloc (.cells #[.int .i64 x.k, .int .i64 x.f, .int .i64 x.t, .int .i64 x.a, .int .i64 x.b, .slice A5 x.l.length c5, .int .i64 y.k, .int .i64 y.f, .int .i64 y.t, .int .i64 y.a, .int .i64 y.b, .slice A6 y.l.length c6] 25); obtain ⟨r0, r1, r2, r3, r4, r5, s0, s1, s2, s3, s4, s5⟩ := ex_open hB6))
          all_goals
            go_wp2
            go_meet
            have hz4 : w4.drew.heap.size = w4.heap.size := rfl
            first
            | with_reducible exact both1 hC6 hs56 hs6
            | with_reducible exact both2 hC6 hs56 hs6
            | ((refine both3 hC6 (by omega) hX6 hs56 ?_ hs6 ?_) <;> (first | omega | (intro hh; have h1 := hh.1; have h2 := hh.2; (try simp at h1 h2); (try omega))))
            | ((refine both3 hC6 (by omega) hY6 hs56 ?_ hs6 ?_) <;> (first | omega | (intro hh; have h1 := hh.1; have h2 := hh.2; (try simp at h1 h2); (try omega))))
        case rest =>
          obtain ⟨G1, s1, h11, k5, hG1, hB1, hS1⟩ := hcut
          subst h11
          clear KS hD0 TX TY hZ4 hZC
          replace hcw := hcw.trans k5
          replace hba := hba.chg k5 id
          replace hbc := hbc.chg k5 id
          replace hd := hd.chgNo k5
          replace hg : 0 < wc.heap.size := by have := k5.size; omega
          replace ht := ht.chgNo k5
          replace hlx := hlx.chgNo k5
          replace hly := hly.chgNo k5
          replace HB := Lib.hid (HB.out.chgNo k5)
          clear k5
          have KS : Hid (∀ w', Chg No wc w' → Chg No wc w' ∧ (w'.cell? ⟨w.heap.size, 0, none⟩ = some (.int .i64 x.k) ∧ w'.cell? ⟨w.heap.size, 1, none⟩ = some (.int .i64 x.f) ∧ w'.cell? ⟨w.heap.size, 2, none⟩ = some (.int .i64 x.t) ∧ w'.cell? ⟨w.heap.size, 3, none⟩ = some (.int .i64 x.a) ∧ w'.cell? ⟨w.heap.size, 4, none⟩ = some (.int .i64 x.b) ∧ w'.cell? ⟨w.heap.size, 5, none⟩ = some (.slice A n c)) ∧ (w'.cell? ⟨w.heap.size + 1, 0, none⟩ = some (.int .i64 y.k) ∧ w'.cell? ⟨w.heap.size + 1, 1, none⟩ = some (.int .i64 y.f) ∧ w'.cell? ⟨w.heap.size + 1, 2, none⟩ = some (.int .i64 y.t) ∧ w'.cell? ⟨w.heap.size + 1, 3, none⟩ = some (.int .i64 y.a) ∧ w'.cell? ⟨w.heap.size + 1, 4, none⟩ = some (.int .i64 y.b) ∧ w'.cell? ⟨w.heap.size + 1, 5, none⟩ = some (.slice C n' c'))) := Lib.hid fun w' h => ⟨h, ex_cells (hba.chg h id), ex_cells (hbc.chg h id)⟩
          have hD0 : Chg No wc wc.drew := (Chg.refl No wc).drew
          have TX := TwC HX.out hlx okx
          have TY := TwC HY.out hly oky
          go_wp2_with fail
          have hZ4 := (Blk.new wc 25 #[.int .i64 0, .int .i64 0, .int .i64 0, .int .i64 0, .int .i64 0, .slice none 0 0]).chg ((Chg.refl No _).drew) id
          have hZC : Chg No wc (wc.alloc (.cells #[.int .i64 0, .int .i64 0, .int .i64 0, .int .i64 0, .int .i64 0, .slice none 0 0] 25)).drew := ((Chg.refl _ _).alloc _).drew
          go_cut [12] (fun s12 wx => BothAt wc x y 2 s12 wx)
          case first =>
            go_region_held3 (fun w' => Chg No wc w' ∧ (w'.cell? ⟨w.heap.size, 0, none⟩ = some (.int .i64 x.k) ∧ w'.cell? ⟨w.heap.size, 1, none⟩ = some (.int .i64 x.f) ∧ w'.cell? ⟨w.heap.size, 2, none⟩ = some (.int .i64 x.t) ∧ w'.cell? ⟨w.heap.size, 3, none⟩ = some (.int .i64 x.a) ∧ w'.cell? ⟨w.heap.size, 4, none⟩ = some (.int .i64 x.b) ∧ w'.cell? ⟨w.heap.size, 5, none⟩ = some (.slice A n c)) ∧ (w'.cell? ⟨w.heap.size + 1, 0, none⟩ = some (.int .i64 y.k) ∧ w'.cell? ⟨w.heap.size + 1, 1, none⟩ = some (.int .i64 y.f) ∧ w'.cell? ⟨w.heap.size + 1, 2, none⟩ = some (.int .i64 y.t) ∧ w'.cell? ⟨w.heap.size + 1, 3, none⟩ = some (.int .i64 y.a) ∧ w'.cell? ⟨w.heap.size + 1, 4, none⟩ = some (.int .i64 y.b) ∧ w'.cell? ⟨w.heap.size + 1, 5, none⟩ = some (.slice C n' c'))) ((refine KS.out _ ?_; repeat' (first | with_reducible assumption | with_reducible refine Chg.setCell ?_ _ ?_ | with_reducible refine Chg.alloc ?_ _ | with_reducible refine Chg.drew ?_ | with_reducible exact Chg.refl _ _ | (intro hh; exfalso; dsimp only at hh; omega))))
              (first | (go_at_call 16; (with_reducible refine (TX wc.drew hD0).mono ?_); rintro e w5 ⟨A5, c5, rfl, hs5, hC5, hN5⟩; have hZ5 := Blk.new w5 25 #[.int .i64 0, .int .i64 0, .int .i64 0, .int .i64 0, .int .i64 0, .slice none 0 0]; have sz5 := hC5.size) | (go_at_call 16; (with_reducible refine (TX _ hZC).mono ?_); rintro e w5 ⟨A5, c5, rfl, hs5, hC5, hN5⟩; have hX5 := hZ4.chg hN5 id; have hl5 := hX5.lt; have sz5 := hC5.size) | (go_at_call 16; (with_reducible refine (TY w5 hC5).mono ?_); rintro e w6 ⟨A6, c6, rfl, hs6, hC6, hN6⟩; have hs56 := hs5.chgNo hN6; have sz6 := hC6.size; try (have hX6 := hX5.chg hN6 id; have hl6 := hX6.lt; obtain ⟨p0, p1, p2, p3, p4, p5, q0, q1, q2, q3, q4, q5⟩ := ex_open hX6; have hB6 := hX6.alloc (.cells #[.int .i64 x.k, .int .i64 x.f, .int .i64 x.t, .int .i64 x.a, .int .i64 x.b, .slice A5 x.l.length c5, .int .i64 y.k, .int .i64 y.f, .int .i64 y.t, .int .i64 y.a, .int .i64 y.b, .slice A6 y.l.length c6] 25); obtain ⟨r0, r1, r2, r3, r4, r5, s0, s1, s2, s3, s4, s5⟩ := ex_open hB6)) | (go_at_call 16; (with_reducible refine (TY _ (hC5.alloc _)).mono ?_); rintro e w6 ⟨A6, c6, rfl, hs6, hC6, hN6⟩; have hs56 := (hs5.alloc _).chgNo hN6; have sz6 := hC6.size; have hY6 := hZ5.chg hN6 id; have hl6 := hY6.lt; obtain ⟨p0, p1, p2, p3, p4, p5, q0, q1, q2, q3, q4, q5⟩ := ex_open hY6; have hB6 := hY6.alloc (.cells #[.int .i64 x.k, .int .i64 x.f, .int .i64 x.t, .int .i64 x.a, .int .i64 x.b, .slice A5 x.l.length c5, .int .i64 y.k, .int .i64 y.f, .int .i64 y.t, .int .i64 y.a, .int .i64 y.b, .slice A6 y.l.length c6] 25); obtain ⟨r0, r1, r2, r3, r4, r5, s0, s1, s2, s3, s4, s5⟩ := ex_open hB6))
            all_goals
              go_wp2
              go_meet
              have hz4 : wc.drew.heap.size = wc.heap.size := rfl
              first
              | with_reducible exact both1 hC6 hs56 hs6
              | with_reducible exact both2 hC6 hs56 hs6
              | ((refine both3 hC6 (by omega) hX6 hs56 ?_ hs6 ?_) <;> (first | omega | (intro hh; have h1 := hh.1; have h2 := hh.2; (try simp at h1 h2); (try omega))))
              | ((refine both3 hC6 (by omega) hY6 hs56 ?_ hs6 ?_) <;> (first | omega | (intro hh; have h1 := hh.1; have h2 := hh.2; (try simp at h1 h2); (try omega))))
          case rest =>
            obtain ⟨G2, s2, h12, k6, hG2, hB2, hS2⟩ := hcut
            subst h12
            clear KS hD0 TX TY hZ4 hZC
            have hB1 := hB1.chg k6 id
            have hS1 := hS1.chgNo k6
            replace hcw := hcw.trans k6
            replace hba := hba.chg k6 id
            replace hbc := hbc.chg k6 id
            replace hd := hd.chgNo k6
            replace hg : 0 < wc.heap.size := by have := k6.size; omega
            replace ht := ht.chgNo k6
            replace hlx := hlx.chgNo k6
            replace hly := hly.chgNo k6
            replace HB := Lib.hid (HB.out.chgNo k6)
            clear k6
            obtain ⟨X1, hX1⟩ : ∃ b, (matchP x bs).1 = b := ⟨_, rfl⟩
            obtain ⟨Y1, hY1⟩ : ∃ b, (matchP y bs).1 = b := ⟨_, rfl⟩
            have HX1 := Lib.hid hX1
            have HY1 := Lib.hid hY1
            clear hX1 hY1
            obtain ⟨a0, a1, a2, a3, a4, a5⟩ := ex_cells hba
            go_wp2_with fail
            refine (TwC HX.out hlx okx wc (Chg.refl No wc)).mono ?_
            rintro e w1 ⟨A1, c1, rfl, hs1, hC1, hN1⟩
            go_wp2_with fail
            refine (HdB HB.out hlen w1 hC1).mono ?_
            rintro e w2 ⟨g2, rfl, hh2, hC2, hN2⟩
            go_wp2_with fail
            refine (MaZ hd hg HX.out A1 x.l.length c1 _ w2 (hs1.chgNo hN2) g2 bs.length bs rfl hh2 hlen hC2 X1 HX1.out).mono ?_
            rintro e w3 ⟨rfl, hC3, hN3⟩
            clear a0 a1 a2 a3 a4 a5 hs1 hC1 hN1 hh2 hC2 hN2 hN3
            obtain ⟨a0, a1, a2, a3, a4, a5⟩ := ex_cells (hbc.chg hC3 id)
            go_wp2_with fail
            refine (TwC HY.out hly oky w3 hC3).mono ?_
            rintro e w4 ⟨A4, c4, rfl, hs4, hC4, hN4⟩
            go_wp2_with fail
            refine (HdB HB.out hlen w4 hC4).mono ?_
            rintro e w5 ⟨g5, rfl, hh5, hC5, hN5⟩
            go_wp2_with fail
            refine (MaZ hd hg HY.out A4 y.l.length c4 _ w5 (hs4.chgNo hN5) g5 bs.length bs rfl hh5 hlen hC5 Y1 HY1.out).mono ?_
            rintro e w6 ⟨rfl, hC6, hN6⟩
            clear a0 a1 a2 a3 a4 a5 hs4 hC4 hN4 hh5 hC5 hN5 hN6 hC3
            replace hcw := hcw.trans hC6
            have hB1 := hB1.chg hC6 id
            have hS1 := hS1.chgNo hC6
            have hB2 := hB2.chg hC6 id
            have hS2 := hS2.chgNo hC6
            replace hba := hba.chg hC6 id
            replace hbc := hbc.chg hC6 id
            replace hd := hd.chgNo hC6
            replace hg : 0 < w6.heap.size := by have := hC6.size; omega
            replace ht := ht.chgNo hC6
            replace hlx := hlx.chgNo hC6
            replace hly := hly.chgNo hC6
            replace HB := Lib.hid (HB.out.chgNo hC6)
            clear hC6
            obtain ⟨⟨Z3, E3⟩, hZ3⟩ : ∃ q, matchP (.mk 3 0 0 0 0 [x, y]) bs = q := ⟨_, rfl⟩
            have HZ3 := Lib.hid hZ3
            have HL3 : Hid (E3 = 0 → Z3 = (X1 || Y1)) := Lib.hid fun q => by
              have := either_law HX.out HY.out hlen (by unfold altE; rw [hZ3]; exact q)
              unfold altE at this
              rw [hZ3, HX1.out, HY1.out] at this
              exact this
            clear hZ3
            go_wp2_with fail
            have hD9 : Chg No w6 w6.drew := (Chg.refl No w6).drew
            have KS9 : Hid (∀ w', Chg No w6 w' → Chg No w6 w' ∧ (w'.cell? ⟨G1, 0, none⟩ = some (.int .i64 3) ∧ w'.cell? ⟨G1, 1, none⟩ = some (.int .i64 0) ∧ w'.cell? ⟨G1, 2, none⟩ = some (.int .i64 0) ∧ w'.cell? ⟨G1, 3, none⟩ = some (.int .i64 0) ∧ w'.cell? ⟨G1, 4, none⟩ = some (.int .i64 0) ∧ w'.cell? ⟨G1, 5, none⟩ = some (.slice (some ⟨s1, 0, none⟩) 2 2))) := Lib.hid fun w' h => ⟨h, ex_cells (hB1.chg h id)⟩
            have HH9 := HdB HB.out hlen w6.drew hD9
            have MM9 := MaK 3 x y hd hg hS1 Z3 E3 bs HZ3.out hlen
            go_region_held3 (fun w' => Chg No w6 w' ∧ (w'.cell? ⟨G1, 0, none⟩ = some (.int .i64 3) ∧ w'.cell? ⟨G1, 1, none⟩ = some (.int .i64 0) ∧ w'.cell? ⟨G1, 2, none⟩ = some (.int .i64 0) ∧ w'.cell? ⟨G1, 3, none⟩ = some (.int .i64 0) ∧ w'.cell? ⟨G1, 4, none⟩ = some (.int .i64 0) ∧ w'.cell? ⟨G1, 5, none⟩ = some (.slice (some ⟨s1, 0, none⟩) 2 2))) ((refine KS9.out _ ?_; with_reducible assumption)) (first | (go_at_call 22; (with_reducible refine HH9.mono ?_); rintro e wh ⟨gh, rfl, hhh, hCh, hNh⟩) | (go_at_call 21; (with_reducible refine (MM9 wh gh hhh hCh).mono ?_); rintro e wm ⟨rfl, hCm, hNm⟩))
            clear HH9 MM9 KS9 hD9 hhh hCh hNh hNm
            go_upto_region 12 with fail
            go_cut [92] (fun s92 wx => IsV s92 (.bool false) ∧ Chg No w6 wx)
            case first =>
              by_cases q : E3 = 0
              · have q2 := HL3.out q
                subst q q2
                cases X1 <;> cases Y1
                all_goals
                  go_wp2_with fail
                  go_meet
                  exact ⟨rfl, hCm⟩
              · have f1 : (E3 == 0) = false := by simpa using q
                go_wp2_with fail
                go_meet
                exact ⟨rfl, hCm⟩
            case rest =>
              obtain ⟨h92, k9⟩ := hcut
              unfold IsV at h92
              subst h92
              clear HL3
              replace hcw := hcw.trans k9
              replace hba := hba.chg k9 id
              replace hbc := hbc.chg k9 id
              replace hB2 := hB2.chg k9 id
              replace hS2 := hS2.chgNo k9
              replace hd := hd.chgNo k9
              replace hg : 0 < wc.heap.size := by have := k9.size; omega
              replace ht := ht.chgNo k9
              replace hlx := hlx.chgNo k9
              replace hly := hly.chgNo k9
              replace HB := Lib.hid (HB.out.chgNo k9)
              clear k9 hB1 hS1
              obtain ⟨⟨Z4, E4⟩, hZ4⟩ : ∃ q, matchP (.mk 2 0 0 0 0 [x, y]) bs = q := ⟨_, rfl⟩
              have HZ4 := Lib.hid hZ4
              have HL4 : Hid (E4 = 0 → (Z4 = true ↔ ∃ k, k ≤ bs.length ∧ (matchP x (bs.take k)).1 = true ∧ (matchP y (bs.drop k)).1 = true)) := Lib.hid fun q => by
                have := whole_law HX.out HY.out hlen (by unfold seqE; rw [hZ4]; exact q)
                unfold seqE at this
                rw [hZ4] at this
                exact this
              clear hZ4
              go_wp2_with fail
              have hD14 : Chg No wc wc.drew := (Chg.refl No wc).drew
              have KS14 : Hid (∀ w', Chg No wc w' → Chg No wc w' ∧ (w'.cell? ⟨G2, 0, none⟩ = some (.int .i64 2) ∧ w'.cell? ⟨G2, 1, none⟩ = some (.int .i64 0) ∧ w'.cell? ⟨G2, 2, none⟩ = some (.int .i64 0) ∧ w'.cell? ⟨G2, 3, none⟩ = some (.int .i64 0) ∧ w'.cell? ⟨G2, 4, none⟩ = some (.int .i64 0) ∧ w'.cell? ⟨G2, 5, none⟩ = some (.slice (some ⟨s2, 0, none⟩) 2 2))) := Lib.hid fun w' h => ⟨h, ex_cells (hB2.chg h id)⟩
              have HH14 := HdB HB.out hlen wc.drew hD14
              have MM14 := MaK 2 x y hd hg hS2 Z4 E4 bs HZ4.out hlen
              go_region_held3 (fun w' => Chg No wc w' ∧ (w'.cell? ⟨G2, 0, none⟩ = some (.int .i64 2) ∧ w'.cell? ⟨G2, 1, none⟩ = some (.int .i64 0) ∧ w'.cell? ⟨G2, 2, none⟩ = some (.int .i64 0) ∧ w'.cell? ⟨G2, 3, none⟩ = some (.int .i64 0) ∧ w'.cell? ⟨G2, 4, none⟩ = some (.int .i64 0) ∧ w'.cell? ⟨G2, 5, none⟩ = some (.slice (some ⟨s2, 0, none⟩) 2 2))) ((refine KS14.out _ ?_; with_reducible assumption)) (first | (go_at_call 22; (with_reducible refine HH14.mono ?_); rintro e wh ⟨gh, rfl, hhh, hCh, hNh⟩) | (go_at_call 21; (with_reducible refine (MM14 wh gh hhh hCh).mono ?_); rintro e wm ⟨rfl, hCm, hNm⟩))
              clear HH14 MM14 KS14 hD14 hhh hCh hNh hNm
              obtain ⟨d4, hd4⟩ : ∃ d : Bool, (E4 == 0) = d := ⟨_, rfl⟩
              go_upto_if 101 with fail
              go_cut [20] (fun s20 wx => Chg No wc wx)
              case first =>
                cases d4
                rotate_left
                · have HQ := Lib.hid (HL4.out (by simpa using hd4))
                  clear hd4
                  clear HL4
                  replace hcw := hcw.trans hCm
                  replace hba := hba.chg hCm id
                  replace hbc := hbc.chg hCm id
                  replace hd := hd.chgNo hCm
                  replace hg : 0 < wm.heap.size := by have := hCm.size; omega
                  replace hlx := hlx.chgNo hCm
                  replace hly := hly.chgNo hCm
                  replace HB := Lib.hid (HB.out.chgNo hCm)
                  go_wp2_with fail
                  go_loopw [20, 21] (fun v20 v21 wr => ∃ (k : Nat) (V : Bool), k ≤ bs.length + 1 ∧ v21 = .int .i64 (k : Int) ∧ v20 = .bool V ∧ Hid (V = true ↔ ∃ j, j < k ∧ (matchP x (bs.take j)).1 = true ∧ (matchP y (bs.drop j)).1 = true) ∧ Chg No wm wr) (fun _ v _ => bs.length + 1 - (intOf v).toNat)
                  case atStart => exact ⟨0, false, Nat.zero_le _, rfl, rfl, Lib.hid (by constructor; (intro h; cases h); (rintro ⟨j, hj, _⟩; omega)), Chg.refl _ _⟩
                  case round =>
                    obtain ⟨k, V, hk, rfl, rfl, HV1, hcA⟩ := hrel
                    by_cases hlt : k ≤ bs.length
                    · have hlt' : (k : Int) ≤ (bs.length : Int) := by omega
                      have hkc : k ≤ cb := by omega
                      have hbaR := hba.chg hcA id
                      have hbcR := hbc.chg hcA id
                      have HBR := Lib.hid (HB.out.chgNo hcA)
                      have hdR := hd.chgNo hcA
                      have hgR : 0 < wr.heap.size := by have := hcA.size; omega
                      have TX := TwC HX.out (hlx.chgNo hcA) okx wr.drew (Chg.refl No wr).drew
                      have KS : Hid (∀ w', Chg No wr w' → Chg No wr w' ∧ (w'.cell? ⟨w.heap.size, 0, none⟩ = some (.int .i64 x.k) ∧ w'.cell? ⟨w.heap.size, 1, none⟩ = some (.int .i64 x.f) ∧ w'.cell? ⟨w.heap.size, 2, none⟩ = some (.int .i64 x.t) ∧ w'.cell? ⟨w.heap.size, 3, none⟩ = some (.int .i64 x.a) ∧ w'.cell? ⟨w.heap.size, 4, none⟩ = some (.int .i64 x.b) ∧ w'.cell? ⟨w.heap.size, 5, none⟩ = some (.slice A n c))) := Lib.hid fun w' h => ⟨h, ex_cells (hbaR.chg h id)⟩
                      obtain ⟨U, hU⟩ : ∃ U, (matchP x (bs.take k)).1 = U := ⟨_, rfl⟩
                      obtain ⟨D, hD⟩ : ∃ D, (matchP y (bs.drop k)).1 = D := ⟨_, rfl⟩
                      have HU := Lib.hid hU
                      have HD := Lib.hid hD
                      clear hU hD
                      have HKL := Lib.hid (show k = (bs.take k).length by rw [List.length_take]; omega)
                      have HKD := Lib.hid (show bs.length - k = (bs.drop k).length by rw [List.length_drop])
                      have hlk : (bs.take k).length ≤ 40 := by rw [List.length_take]; omega
                      have hld : (bs.drop k).length ≤ 40 := by rw [List.length_drop]; omega
                      have HVD : Hid ((V || (U && D)) = true ↔ ∃ j, j < k + 1 ∧ (matchP x (bs.take j)).1 = true ∧ (matchP y (bs.drop j)).1 = true) := Lib.hid (by
                        rw [Bool.or_eq_true, Bool.and_eq_true, HV1.out]
                        constructor
                        · rintro (⟨j, hj, h⟩ | ⟨h1, h2⟩)
                          · exact ⟨j, by omega, h⟩
                          · exact ⟨k, by omega, HU.out.trans h1, HD.out.trans h2⟩
                        · rintro ⟨j, hj, h1, h2⟩
                          by_cases e : j = k
                          · subst e
                            exact .inr ⟨HU.out.symm.trans h1, HD.out.symm.trans h2⟩
                          · exact .inl ⟨j, by omega, h1, h2⟩)
                      go_wp2_with fail
                      go_region_held3 (fun w' => Chg No wr w' ∧ (w'.cell? ⟨w.heap.size, 0, none⟩ = some (.int .i64 x.k) ∧ w'.cell? ⟨w.heap.size, 1, none⟩ = some (.int .i64 x.f) ∧ w'.cell? ⟨w.heap.size, 2, none⟩ = some (.int .i64 x.t) ∧ w'.cell? ⟨w.heap.size, 3, none⟩ = some (.int .i64 x.a) ∧ w'.cell? ⟨w.heap.size, 4, none⟩ = some (.int .i64 x.b) ∧ w'.cell? ⟨w.heap.size, 5, none⟩ = some (.slice A n c))) ((refine KS.out _ ?_; first | with_reducible assumption | exact (Chg.refl No wr).drew)) (first | (go_at_call 16; (with_reducible refine TX.mono ?_); rintro e w5 ⟨A5, c5, rfl, hs5, hC5, hN5⟩) | (go_at_call 22; (with_reducible refine (HdB (HBR.out.take hlt) hlk w5 hC5).mono ?_); rintro e w6 ⟨g6, rfl, hh6, hC6, hN6⟩; have hs6 := hs5.chgNo hN6) | (go_at_call 21; (with_reducible refine (MaZ hdR hgR HX.out A5 x.l.length c5 _ w6 hs6 g6 k (bs.take k) HKL.out hh6 hlk hC6 U HU.out).mono ?_); rintro e w7 ⟨rfl, hC7, hN7⟩))
                      have hc7 := hcA.trans hC7
                      clear TX KS hs5 hC5 hN5 hh6 hC6 hN6 hs6 hN7
                      replace HBR := Lib.hid (HBR.out.chgNo hC7)
                      replace hbcR := hbcR.chg hC7 id
                      replace hdR := hdR.chgNo hC7
                      replace hgR : 0 < w7.heap.size := by have := hC7.size; omega
                      have TY := TwC HY.out ((hly.chgNo hcA).chgNo hC7) oky w7.drew (Chg.refl No w7).drew
                      have KS : Hid (∀ w', Chg No w7 w' → Chg No w7 w' ∧ (w'.cell? ⟨w.heap.size + 1, 0, none⟩ = some (.int .i64 y.k) ∧ w'.cell? ⟨w.heap.size + 1, 1, none⟩ = some (.int .i64 y.f) ∧ w'.cell? ⟨w.heap.size + 1, 2, none⟩ = some (.int .i64 y.t) ∧ w'.cell? ⟨w.heap.size + 1, 3, none⟩ = some (.int .i64 y.a) ∧ w'.cell? ⟨w.heap.size + 1, 4, none⟩ = some (.int .i64 y.b) ∧ w'.cell? ⟨w.heap.size + 1, 5, none⟩ = some (.slice C n' c'))) := Lib.hid fun w' h => ⟨h, ex_cells (hbcR.chg h id)⟩
                      clear hC7
                      by_cases hcbk : cb = k
                      · subst hcbk
                        have HZ0 := Lib.hid (show 0 = (bs.drop cb).length by rw [List.length_drop]; omega)
                        have HBD := HBR.out
                        go_wp2_with fail
                        go_region_held3 (fun w' => Chg No w7 w' ∧ (w'.cell? ⟨w.heap.size + 1, 0, none⟩ = some (.int .i64 y.k) ∧ w'.cell? ⟨w.heap.size + 1, 1, none⟩ = some (.int .i64 y.f) ∧ w'.cell? ⟨w.heap.size + 1, 2, none⟩ = some (.int .i64 y.t) ∧ w'.cell? ⟨w.heap.size + 1, 3, none⟩ = some (.int .i64 y.a) ∧ w'.cell? ⟨w.heap.size + 1, 4, none⟩ = some (.int .i64 y.b) ∧ w'.cell? ⟨w.heap.size + 1, 5, none⟩ = some (.slice C n' c'))) ((refine KS.out _ ?_; first | with_reducible assumption | exact (Chg.refl No w7).drew)) (first | (go_at_call 16; (with_reducible refine TY.mono ?_); rintro e w8 ⟨A8, c8, rfl, hs8, hC8, hN8⟩) | (go_at_call 22; refine (HdB (HBD.gone (k := cb) hcb rfl (by omega)) hld w8 hC8).mono ?_; rintro e w9 ⟨g9, rfl, hh9, hC9, hN9⟩; have hs9 := hs8.chgNo hN9) | (go_at_call 21; refine (MaZ hdR hgR HY.out A8 y.l.length c8 _ w9 hs9 g9 _ (bs.drop cb) HZ0.out hh9 hld hC9 D HD.out).mono ?_; rintro e w10 ⟨rfl, hC10, hN10⟩))
                        have hck9 := hc7.trans hC10
                        clear TY KS hs8 hC8 hN8 hh9 hC9 hN9 hs9 hN10 hc7 hcA
                        cases V <;> cases U <;> cases D
                        all_goals
                          go_wp2
                          exact ⟨⟨cb + 1, _, by omega, by go_num, rfl, HVD, hck9⟩, by simp [intOf]; omega⟩
                      · obtain ⟨a, rfl⟩ : ∃ a, B = some a := by
                          cases B with
                          | none => exact absurd (HBN.out rfl) (by omega)
                          | some a => exact ⟨a, rfl⟩
                        have HBD := HBR.out
                        go_wp2_with fail
                        go_region_held3 (fun w' => Chg No w7 w' ∧ (w'.cell? ⟨w.heap.size + 1, 0, none⟩ = some (.int .i64 y.k) ∧ w'.cell? ⟨w.heap.size + 1, 1, none⟩ = some (.int .i64 y.f) ∧ w'.cell? ⟨w.heap.size + 1, 2, none⟩ = some (.int .i64 y.t) ∧ w'.cell? ⟨w.heap.size + 1, 3, none⟩ = some (.int .i64 y.a) ∧ w'.cell? ⟨w.heap.size + 1, 4, none⟩ = some (.int .i64 y.b) ∧ w'.cell? ⟨w.heap.size + 1, 5, none⟩ = some (.slice C n' c'))) ((refine KS.out _ ?_; first | with_reducible assumption | exact (Chg.refl No w7).drew)) (first | (go_at_call 16; (with_reducible refine TY.mono ?_); rintro e w8 ⟨A8, c8, rfl, hs8, hC8, hN8⟩) | (go_at_call 22; refine (HdB (HBD.dropA hlt) hld w8 hC8).mono ?_; rintro e w9 ⟨g9, rfl, hh9, hC9, hN9⟩; have hs9 := hs8.chgNo hN9) | (go_at_call 21; refine (MaZ hdR hgR HY.out A8 y.l.length c8 _ w9 hs9 g9 _ (bs.drop k) HKD.out hh9 hld hC9 D HD.out).mono ?_; rintro e w10 ⟨rfl, hC10, hN10⟩))
                        have hck9 := hc7.trans hC10
                        clear TY KS hs8 hC8 hN8 hh9 hC9 hN9 hs9 hN10 hc7 hcA
                        cases V <;> cases U <;> cases D
                        all_goals
                          go_wp2
                          exact ⟨⟨k + 1, _, by omega, by go_num, rfl, HVD, hck9⟩, by simp [intOf]; omega⟩
                    · obtain rfl : k = bs.length + 1 := by omega
                      have hVZ : Z4 = V := by
                        have h1 := HQ.out
                        have h2 := HV1.out
                        rw [Bool.eq_iff_iff, h1, h2]
                        constructor
                        · rintro ⟨j, hj, h⟩
                          exact ⟨j, by omega, h⟩
                        · rintro ⟨j, hj, h⟩
                          exact ⟨j, by omega, h⟩
                      subst hVZ
                      have hgt : ¬ ((bs.length : Int) + 1 ≤ (bs.length : Int)) := by omega
                      cases Z4
                      all_goals
                        go_wp2_with fail
                        go_meet
                        exact hCm.trans hcA
                · clear hd4
                  go_wp2_with fail
                  go_meet
                  exact hCm
              case rest =>
                replace hcw := hcw.trans hcut
                clear HL4 hB2 hS2 hd4
                replace hba := hba.chg hcut id
                replace hd := hd.chgNo hcut
                replace hg : 0 < wc.heap.size := by have := hcut.size; omega
                replace ht := ht.chgNo hcut
                replace hlx := hlx.chgNo hcut
                replace HB := Lib.hid (HB.out.chgNo hcut)
                clear hcut hCm hbc
                have hD25 : Chg No wc wc.drew := (Chg.refl No wc).drew
                have KS : Hid (∀ w', Chg No wc w' → Chg No wc w' ∧ (w'.cell? ⟨w.heap.size, 0, none⟩ = some (.int .i64 x.k) ∧ w'.cell? ⟨w.heap.size, 1, none⟩ = some (.int .i64 x.f) ∧ w'.cell? ⟨w.heap.size, 2, none⟩ = some (.int .i64 x.t) ∧ w'.cell? ⟨w.heap.size, 3, none⟩ = some (.int .i64 x.a) ∧ w'.cell? ⟨w.heap.size, 4, none⟩ = some (.int .i64 x.b) ∧ w'.cell? ⟨w.heap.size, 5, none⟩ = some (.slice A n c))) := Lib.hid fun w' h => ⟨h, ex_cells (hba.chg h id)⟩
                obtain ⟨m1, m2⟩ := smallP_bd mn
                obtain ⟨m3, m4⟩ := smallP_bd more
                have HR := repeats_any x (smallP mn) (smallP more) A n c _ wc.drew (hlx.chgNo hD25) HX.out (checkP_flat HX.out) m1 m2 m3 m4 B bs.length cb bs (HB.out.chgNo hD25) HBN.out hlen (hd.chgNo hD25) (by have := hD25.size; omega)
                go_wp2_with fail
                go_region_held3 (fun w' => Chg No wc w' ∧ (w'.cell? ⟨w.heap.size, 0, none⟩ = some (.int .i64 x.k) ∧ w'.cell? ⟨w.heap.size, 1, none⟩ = some (.int .i64 x.f) ∧ w'.cell? ⟨w.heap.size, 2, none⟩ = some (.int .i64 x.t) ∧ w'.cell? ⟨w.heap.size, 3, none⟩ = some (.int .i64 x.a) ∧ w'.cell? ⟨w.heap.size, 4, none⟩ = some (.int .i64 x.b) ∧ w'.cell? ⟨w.heap.size, 5, none⟩ = some (.slice A n c))) ((refine KS.out _ ?_; with_reducible assumption)) (first | (go_at_call 24; refine (small_any _ _).mono ?_; rintro e w5 ⟨rfl, rfl⟩) | (go_at_call 23; (with_reducible refine HR.mono ?_); rintro e w6 ⟨rfl, hC6⟩; have hc6 := hD25.trans hC6) | (go_at_call 15; (with_reducible refine (known_any w6 (hd.chgNo hc6) (by have := hc6.size; omega) (ht.chgNo hc6)).mono ?_); rintro e w7 ⟨rfl, hC7⟩; have hc7 := hc6.trans hC7))
                go_wp2
                go_ret
                exact ⟨rfl, hcw.trans hc7⟩
      · have e1 : (E2 != 0) = true := by simpa using hy0
        have hkn := known_any w4 (hd.chgNo hC4) (by have := hC4.size; omega) (ht.chgNo hC4)
        go_wp2_with fail
        refine hkn.mono ?_
        rintro e w5 ⟨rfl, hC5⟩
        go_wp2
        go_ret
        exact ⟨rfl, (hcc.trans hC4).trans hC5⟩
    · have e1 : (E1 != 0) = true := by simpa using hx0
      have hkn := known_any w2 (hd.chgNo hC2) (by have := hC2.size; omega) (ht.chgNo hC2)
      go_wp2_with fail
      refine hkn.mono ?_
      rintro e w5 ⟨rfl, hC5⟩
      go_wp2
      go_ret
      exact ⟨rfl, (hcc.trans hC2).trans hC5⟩
end Go.Proofs.YticipgjbgcdccaaDoor
namespace Go.Proofs.YticipgjbgcdccaaDoor
open Go.RowKit Go.ChangeShapes Go.WideShapes Go.ChangeAt

theorem laidOut : laidOutB Tryd.prog = true := by kernel_rfl
abbrev sumsArgs : Array Value := #[.agg #[.int .i64 0, .int .i64 0, .int .i64 0, .int .i64 0, .int .i64 0, .slice none 0 0], .agg #[.int .i64 0, .int .i64 0, .int .i64 0, .int .i64 0, .int .i64 0, .slice none 0 0], .int .i64 0, .int .i64 0, .slice none 0 0]
theorem sums_witness (os : Os) {H : Type} (enc : TypeId × Value → H) :
    (OpenSpec.ofChange Rows.exprSumsSpec).preRow enc Tryd.prog Tryd.f6 Rows.exprSumsRow.domain false Rows.exprSumsRow.laid ((laidWorld os).forCall (fun _ _ => 0) ⟨#[], sumsArgs, []⟩).memory sumsArgs := by
  have hw : (DataW.whole enc Tryd.prog ((laidWorld os).forCall (fun _ _ => 0) ⟨#[], sumsArgs, []⟩).memory Tryd.f6.params.toList (OpenSpec.ofChange Rows.exprSumsSpec).vars false sumsArgs.toList 8).map (fun x => (x.1, x.2.1)) =
      some ([.agg [.lit (.int .i64 0), .lit (.int .i64 0), .lit (.int .i64 0), .lit (.int .i64 0), .lit (.int .i64 0), .nil], .agg [.lit (.int .i64 0), .lit (.int .i64 0), .lit (.int .i64 0), .lit (.int .i64 0), .lit (.int .i64 0), .nil], .lit (.int .i64 0), .lit (.int .i64 0), .nil], []) := by kernel_rfl
  obtain ⟨⟨x1, x2, x3⟩, hx, hx1⟩ := Option.map_eq_some_iff.1 hw
  simp only [Prod.mk.injEq] at hx1
  obtain ⟨rfl, rfl⟩ := hx1
  exact OpenSpec.preRow_of_cond 8 hx (by kernel_rfl) (fun k hk => by cases hk) (by kernel_rfl) (laid_met os _)

set_option maxRecDepth 100000 in
set_option maxHeartbeats 2000000 in
theorem sums_lifted (os : Os) (started : os.Started) (H : Type) (enc : TypeId × Value → H) (F : Stop.Interp) :
    ReturnsInHanded {} Tryd.checked os 6 .any ((OpenSpec.ofChange Rows.exprSumsSpec).preRow enc Tryd.prog Tryd.f6 Rows.exprSumsRow.domain false Rows.exprSumsRow.laid)
      (((OpenSpec.ofChange Rows.exprSumsSpec).at F).post enc Tryd.prog Tryd.f6 false true false false) := by
  refine returnsInHanded_of_row (C := Tryd.checked) (s := OpenSpec.ofChange Rows.exprSumsSpec) own started (by kernel_rfl) Tryd.func6
    (witness_row_atRef (enc := enc) (C := Tryd.checked) false (laidWorld os) sumsArgs rfl (by kernel_rfl) (by kernel_rfl) (by kernel_rfl) (sums_witness os enc)) ?_
  intro W base args ds gs before hval0 hW _ _ hsz0 hL _ _
  have hsz : (DataW.weightsEach Tryd.prog (Tryd.f6.params.toList ++ (OpenSpec.ofChange Rows.exprSumsSpec).bare.plain.varTypes Tryd.prog) (ds ++ gs)).all (· ≤ reachBytes) = true := hsz0
  clear hsz0
  have hval : ∀ (j : Nat) t v, Tryd.f6.params[j]? = some t → args[j]? = some v → Value.okWide Tryd.prog W .any base t v := hval0
  have hW' := hW
  obtain ⟨p, q, hA0, hV0, rfl, _, _⟩ := hW
  have hA : DataW.TrodAll enc Tryd.prog W 0 (fun _ => true) true Tryd.f6.params.toList args.toList ds p := hA0
  rw [Tryd.params6] at hA hval hsz
  obtain ⟨v0, v1, v2, v3, v4, d0, d1, d2, d3, d4, p0, p1, p2, p3, p4, rfl, rfl, rfl, h0, h1, h2, h3, h4⟩ := trodAll_five hA
  obtain ⟨rfl, rfl⟩ := trodVars_none hV0
  obtain ⟨c0, e0, _⟩ := okWide_struct Tryd.underlying25 (hval 0 25 v0 rfl rfl)
  obtain ⟨c1, e1, _⟩ := okWide_struct Tryd.underlying25 (hval 1 25 v1 rfl rfl)
  obtain ⟨mn, rfl⟩ := okWide_int Tryd.underlying3 (hval 2 3 v2 rfl rfl)
  obtain ⟨more, rfl⟩ := okWide_int Tryd.underlying3 (hval 3 3 v3 rfl rfl)
  obtain ⟨B0, m0, cb0, rfl⟩ := okWide_slice Tryd.underlying41 (hval 4 41 v4 rfl rfl)
  clear hA0 hV0 hval0
  simp only [List.append_nil] at hW' hsz
  have hlt : ∀ x ∈ p0 ++ (p1 ++ (p2 ++ (p3 ++ p4))), x.block < W.heap.size := fun x hx => by simpa using hW'.lt x (by simpa using hx)
  obtain ⟨x, A, n, c, rfl, hsx, hwx⟩ := open_ex e0 h0
  obtain ⟨y, C, n', c', rfl, hsy, hwy⟩ := open_ex e1 h1
  have h4k := h4
  obtain ⟨fuel4, hf4⟩ := h4
  obtain ⟨B, m, cb, bs, e, hB, hBn⟩ := open_bytes hf4
  injection e with e _
  injection e with q1 q2 q3
  subst q1 q2 q3
  have hsz1 : (DataW.weightsEach Tryd.prog [25, 25, 3, 3, 41] [d0, d1, d2, d3, d4]).all (fun x => decide (x ≤ reachBytes)) = true := hsz
  simp only [DataW.weightsEach, List.append_nil, List.all_eq_true, decide_eq_true_eq, List.mem_append] at hsz1
  have hokx := hwx fun q hq => hsz1 q (.inl hq)
  have hoky := hwy fun q hq => hsz1 q (.inr (.inl hq))
  obtain ⟨t1, t2, t3⟩ := tabs_of_laid hL
  refine (ExprSums_any x y mn more A C n n' c c' _ W hsx hsy hokx hoky B0 m0 cb0 bs hB hBn t1 t2 t3).mono ?_
  rintro e W' ⟨rfl, hc⟩
  have bel := hc.below
  have e1 : ((OpenSpec.ofChange Rows.exprSumsSpec).at F).fn H ([d0, d1, d2, d3, d4] ++ []) = { results := [.lit (.bool true)], args := [d0, d1, d2, d3, d4] } := rfl
  refine ⟨_, rfl, _, _, _, [], p0 ++ (p1 ++ (p2 ++ (p3 ++ p4))), [], hW', ?_, ?_, ?_, bel.frame _, fun h => by cases h⟩
  · rw [e1]; exact trodAll_mk1 (shut_bool Tryd.underlying4 true)
  · rw [e1]
    have bt : ∀ {t : TypeId} {v : Value} {d : DataW H} {p : List MemPlace}, Tryd.prog.readableRec t = true → t < Tryd.prog.types.size → DataW.Trod enc Tryd.prog W 0 (fun _ => true) true t v d p → (∀ x ∈ p, x.block < W.heap.size) → DataW.Trod enc Tryd.prog W' 0 (fun b => decide (b < W.heap.size)) true t v d p := fun hr ht h hp => Below.trod laidOut hr ht h bel hp
    exact trodAll_push (bt (by kernel_rfl) (of_decide_eq_true (by kernel_rfl)) h0 fun x hx => hlt x (by simp [hx])) (trodAll_push (bt (by kernel_rfl) (of_decide_eq_true (by kernel_rfl)) h1 fun x hx => hlt x (by simp [hx])) (trodAll_push (bt (by kernel_rfl) (of_decide_eq_true (by kernel_rfl)) h2 fun x hx => hlt x (by simp [hx])) (trodAll_push (bt (by kernel_rfl) (of_decide_eq_true (by kernel_rfl)) h3 fun x hx => hlt x (by simp [hx])) (trodAll_mk1 (bt (by kernel_rfl) (of_decide_eq_true (by kernel_rfl)) h4k fun x hx => hlt x (by simp [hx]))))))
  · rw [e1]; rfl

theorem sums_said : Rows.ExprSumsSaid :=
  OpenClaim.holds_of_cond 6 Tryd.f6 rfl rfl rfl rfl rfl rfl rfl ⟨rfl, rfl, rfl, rfl, rfl⟩ rfl rfl rfl rfl rfl (by kernel_rfl) Tryd.func6 (by kernel_rfl)
    (of_decide_eq_true (by kernel_rfl)) (by unfold Func.isWrapper; rw [if_neg (of_decide_eq_false (by kernel_rfl))]; exact ⟨rfl, rfl⟩)
    (fun os started H enc _ F0 => by rw [OpenClaim.pre_eq_preRow]; exact sums_lifted os started H enc F0)

theorem exprSums_holds : Rows.ExprSumsCardSaid :=
  Claim7.holds_tied_plain_at .later [] [.data, .data, .data] true (true, "ff01ccba15d25dd0e238923213c7e16af5c8880d8084b1916b336e3c37e050fc") true
    sums_said (fun _ h => by cases h) (by kernel_rfl) (fun _ h => by cases h) exprSums_row_tie rfl ⟨rfl, rfl⟩ (by kernel_rfl) rfl
    (fun f fn hf hfn => by
      obtain rfl : f = 6 := Option.some.inj ((show Tryd.prog.funcNamed "graft/graftlaw2.ExprSums" = some 6 by kernel_rfl).symm.trans hf) |>.symm
      obtain rfl : fn = Tryd.f6 := (Option.some.inj (Tryd.func6.symm.trans hfn)).symm
      exact ⟨by kernel_rfl, fun j t ht => by
        rw [Tryd.params6] at ht
        rcases j with _ | _ | _ | _ | _ | j
        · obtain rfl : t = 25 := by simpa using ht.symm
          exact (show Tryd.prog.wantsStandIn 25 = false by kernel_rfl)
        · obtain rfl : t = 25 := by simpa using ht.symm
          exact (show Tryd.prog.wantsStandIn 25 = false by kernel_rfl)
        · obtain rfl : t = 3 := by simpa using ht.symm
          exact (show Tryd.prog.wantsStandIn 3 = false by kernel_rfl)
        · obtain rfl : t = 3 := by simpa using ht.symm
          exact (show Tryd.prog.wantsStandIn 3 = false by kernel_rfl)
        · obtain rfl : t = 41 := by simpa using ht.symm
          exact (show Tryd.prog.wantsStandIn 41 = false by kernel_rfl)
        · simp at ht⟩)
    (by kernel_rfl)
#print axioms exprSums_holds
end Go.Proofs.YticipgjbgcdccaaDoor
