/- Bytes and single patterns that are handed in: opened. No condition: lemmas.
   What Longest, Live, Match and Shortest answer of one pattern, together. No condition: lemmas.
   Package graftlaw2: ExprFronts: the walk.
   The statement ExprFronts: for any pattern and bytes that are handed in, the law answers true and leaves all as it was: the tied card, proved. -/
import Derived.Test.YticipgjbgcdccaaDoorZ10
import Derived.Test.YticipgjbgcdccaaDoorZ8
import Derived.Test.YticipgjbgcdccaaDoorZ12
import Derived.Test.YticipgjbgcdccaaDoorZ11
import Derived.Deep.RegionHeld3
import Derived.Test.YticipgjbgcdccaaDoorTie
import Derived.Test.YticipgjbgcdccaaDoorCards
import Derived.SevenTiedAt
set_option linter.unusedSimpArgs false
set_option linter.unusedVariables false
namespace Go.Proofs.YticipgjbgcdccaaDoor
open Go.RowKit Go.ChangeShapes Go.WideShapes Go.ChangeAt

theorem cells5 : Tryd.prog.cellsOf 5 = 1 := by kernel_rfl
theorem open_bytes {H : Type} {enc : TypeId × Value → H} {W : World} {sp : Nat → Bool} {fuel : Nat} {cs : List Value} {x : DataW H × List MemPlace} (h : DataW.trod enc Tryd.prog W 0 sp true fuel 41 cs = some x) :
    ∃ B n c bs, cs = [.slice B n c] ∧ Byt W B n c bs ∧ (B = none → c = 0) := by
  rcases DataW.trod_slice Tryd.underlying41 h with ⟨rfl, rfl⟩ | ⟨a, len, cap, elems, rest, n, hn, rfl, rfl, _, hlc, hcm, hel, hget, _, _⟩
  · exact ⟨none, 0, 0, [], rfl, ⟨rfl, Nat.le_refl _, by omega, fun h => absurd rfl h⟩, fun _ => rfl⟩
  · rw [cells5] at hget
    obtain ⟨l, hl, hp⟩ := list_of (P := fun i (y : Nat) => W.cell? (a.add i) = some (.int .u8 (y : Int)) ∧ y < 256) len fun i hi => by
      have h1 := hget i hi
      rw [List.getElem?_eq_getElem (by omega), Nat.mul_one] at h1
      obtain ⟨cs, h2, h3⟩ := Option.bind_eq_some_iff.1 h1
      obtain ⟨y, e, _, hw⟩ := DataW.trod_int Tryd.underlying5 h3
      have hw : 0 ≤ y ∧ y ≤ 255 := by simpa [Lit.wf, IntKind.min, IntKind.max, IntKind.signed, IntKind.bits] using hw
      obtain ⟨_, h4⟩ := cells_get h2
      have h5 := h4 0 (by omega)
      rw [e] at h5
      refine ⟨y.toNat, ?_, by omega⟩
      have ea : ∀ b : Addr, b.add 0 = b := fun b => by obtain ⟨g, o, s⟩ := b; simp [Addr.add]
      rw [ea] at h5
      rw [Int.toNat_of_nonneg hw.1, h5]; rfl
    have hcm' : cap ≤ 9223372036854775807 := by simpa [maxLen] using hcm
    refine ⟨some a, len, cap, l, rfl, ⟨hl.symm, by omega, hcm', fun hne => ?_⟩, fun h => by cases h⟩
    have h0 : 0 < l.length := List.length_pos_iff.2 hne
    obtain ⟨g, o, sp'⟩ := a
    have hz : W.cell? ⟨g, o, sp'⟩ = some (.int .u8 (l[0] : Int)) := by
      have := (hp 0 h0).1
      have ea : ∀ b : Addr, b.add 0 = b := fun b => by obtain ⟨g, o, s⟩ := b; simp [Addr.add]
      rw [ea] at this
      exact this
    have hg : g < W.heap.size := World.block_lt_of_cell? _ _ hz
    have hsp : sp' = none := by
      unfold World.cell? at hz
      cases hh : W.heap[g]? with
      | none => simp [hh] at hz
      | some ob =>
        cases ob <;> simp [hh] at hz
        cases sp' with
        | none => rfl
        | some _ => simp at hz
    subst hsp
    refine ⟨g, o, rfl, hg, fun i x hi => ?_⟩
    obtain ⟨hi1, hi2⟩ := List.getElem?_eq_some_iff.1 hi
    have h1 := hp i hi1
    rw [hi2] at h1
    have ea : (⟨g, o, none⟩ : Addr).add i = ⟨g, o + i, none⟩ := by unfold Addr.add; split <;> simp_all
    rw [ea] at h1
    exact h1

theorem trodAll_five {H : Type} {enc : TypeId × Value → H} {P : Program} {w : World} {base : Nat} {spare : Nat → Bool} {held : Bool} {t t' t'' t3 t4 : TypeId} {args : Array Value} {ds : List (DataW H)} {ps : List MemPlace} (h : DataW.TrodAll enc P w base spare held [t, t', t'', t3, t4] args.toList ds ps) :
    ∃ v v' v'' v3 v4 d d' d'' d3 d4 p p' p'' p3 p4, args = #[v, v', v'', v3, v4] ∧ ds = [d, d', d'', d3, d4] ∧ ps = p ++ (p' ++ (p'' ++ (p3 ++ p4))) ∧ DataW.Trod enc P w base spare held t v d p ∧ DataW.Trod enc P w base spare held t' v' d' p' ∧ DataW.Trod enc P w base spare held t'' v'' d'' p'' ∧ DataW.Trod enc P w base spare held t3 v3 d3 p3 ∧ DataW.Trod enc P w base spare held t4 v4 d4 p4 := by
  obtain ⟨v, vs, d, ds', p, q, hargs, rfl, rfl, hd, hrest⟩ := trodAll_cons h
  obtain ⟨v', vs', d', ds'', p', q', rfl, rfl, rfl, hd', hrest'⟩ := trodAll_cons hrest
  obtain ⟨v'', vs'', d'', ds''', p'', q'', rfl, rfl, rfl, hd'', hrest''⟩ := trodAll_cons hrest'
  obtain ⟨v3, vs3, d3, ds3, p3, q3, rfl, rfl, rfl, hd3, hrest3⟩ := trodAll_cons hrest''
  obtain ⟨v4, vs4, d4, ds4, p4, q4, rfl, rfl, rfl, hd4, hrest4⟩ := trodAll_cons hrest3
  obtain ⟨rfl, rfl, rfl⟩ := trodAll_nil hrest4
  exact ⟨v, v', v'', v3, v4, d, d', d'', d3, d4, p, p', p'', p3, p4, by cases args; simp_all, rfl, by simp, hd, hd', hd'', hd3, hd4⟩

theorem trodAll_push {H : Type} {enc : TypeId × Value → H} {P : Program} {w : World} {base : Nat} {spare : Nat → Bool} {held : Bool} {t : TypeId} {ts : List TypeId} {v : Value} {vs : List Value} {d : DataW H} {ds : List (DataW H)} {p p' : List MemPlace} (h : DataW.Trod enc P w base spare held t v d p) (hs : DataW.TrodAll enc P w base spare held ts vs ds p') : DataW.TrodAll enc P w base spare held (t :: ts) (v :: vs) (d :: ds) (p ++ p') := ⟨p, p', h, hs, rfl⟩
/-- a pattern that is handed in by value -/
theorem open_ex {H : Type} {enc : TypeId × Value → H} {W : World} {sp : Nat → Bool} {v : Value} {d : DataW H} {p : List MemPlace} {cs : Array Value} (hv : v = .agg cs) (h : DataW.Trod enc Tryd.prog W 0 sp true 25 v d p) :
    ∃ (y : Ex) (A : Option Addr) (n c : Nat), v = .agg #[.int .i64 y.k, .int .i64 y.f, .int .i64 y.t, .int .i64 y.a, .int .i64 y.b, .slice A n c] ∧ Sl W (Old W) A n c y.l ∧ ((∀ q ∈ d.weights Tryd.prog 25, q ≤ reachBytes) → lenOk y) := by
  subst hv
  obtain ⟨fuel, h⟩ := h
  obtain ⟨y, A, n, c, e, h1, h2⟩ := (open_both fuel).2 _ _ h
  refine ⟨y, A, n, c, ?_, h1, h2⟩
  congr 1
  exact Array.toList_inj.1 e
end Go.Proofs.YticipgjbgcdccaaDoor
namespace Go.Proofs.YticipgjbgcdccaaDoor
open Go.RowKit

theorem asked_ok {x : Ex} (h : checkP x = 0) {n : Nat} (hl : n ≤ 262144) : askedP x n = 0 := by
  unfold askedP; rw [if_neg (by rw [h]; simp), if_neg (by omega)]
theorem asked_few (x : Ex) {n : Nat} (hl : n ≤ 262144) : askedP x n = checkP x := by
  unfold askedP
  split
  · rfl
  · rename_i q; rw [if_neg (by omega)]; simp at q; exact q.symm
theorem longestP_snd (x : Ex) {bs : List Nat} (hl : bs.length ≤ 262144) : (longestP x bs).2 = checkP x := by
  unfold longestP
  rw [asked_few x hl]
  split
  · rfl
  · rename_i q; simp at q; exact q.symm
theorem longestP_bad {x : Ex} {bs : List Nat} (hl : bs.length ≤ 262144) (h : checkP x ≠ 0) : (longestP x bs).1 = 0 := by
  unfold longestP; rw [asked_few x hl, if_pos h]
theorem matchP_few {x : Ex} (h : checkP x = 0) {bs : List Nat} (hl : bs.length ≤ 262144) : (matchP x bs).2 = 0 := by rw [matchP_snd, asked_ok h hl]
theorem match_iff {x : Ex} (h : checkP x = 0) {bs : List Nat} (hl : bs.length ≤ 262144) : (matchP x bs).1 = true ↔ Lang x bs := matchP_lang (asked_ok h hl)
theorem liveP_few {x : Ex} (h : checkP x = 0) {bs : List Nat} (hl : bs.length ≤ 262144) : (liveP x bs).2 = 0 := by
  unfold liveP; rw [asked_ok h hl, if_neg (by simp)]
theorem live_iff {x : Ex} (h : checkP x = 0) {bs : List Nat} (hl : bs.length ≤ 262144) : (liveP x bs).1 = true ↔ ∃ v, Lang x (bs ++ v) := by
  obtain ⟨hR, _, hp⟩ := checkP_nodes x h
  unfold liveP
  rw [asked_ok h hl, if_neg (by simp)]
  exact (ran_spec x hR hp bs).2
theorem longest_spec {x : Ex} (h : checkP x = 0) {bs : List Nat} (hl : bs.length ≤ 262144) : LongAt (Lang x) bs bs.length (longestP x bs).1 := by
  obtain ⟨hR, _, hp⟩ := checkP_nodes x h
  unfold longestP
  rw [asked_ok h hl, if_neg (by simp)]
  exact (ran_spec x hR hp bs).1
theorem empty_match {x : Ex} (h : checkP x = 0) : EmptyP x = (matchP x []).1 := by
  obtain ⟨hR, _, hp⟩ := checkP_nodes x h
  rw [Bool.eq_iff_iff, match_iff h (by simp), ← emptyP_lang _ x (Nat.lt_succ_self _) hR]
  unfold EmptyP
  rw [decide_eq_true h]; simp
theorem short_match {x : Ex} (h : checkP x = 0) : (matchP x (shortestP x)).1 = true ∧ (matchP x (shortestP x)).2 = 0 ∧ (shortestP x).length ≤ 4096 := by
  obtain ⟨hR, _, hp⟩ := checkP_nodes x h
  have h1 := (shortP_len _ x (Nat.lt_succ_self _) hR hp).1
  have e : shortestP x = shortP x := by unfold shortestP; rw [if_pos h]
  rw [e]
  exact ⟨(match_iff h (by omega)).2 (shortP_least _ x (Nat.lt_succ_self _) hR).1, matchP_few h (by omega), by omega⟩
theorem ltB_or {s t : List Nat} (h : ltB t s = false) : ltB s t = true ∨ s = t := by
  cases q : ltB s t with
  | true => exact .inl rfl
  | false => exact .inr (ltB_total s t q h)
theorem short_least {x : Ex} (h : checkP x = 0) {t : List Nat} (ht : Lang x t) : (shortestP x).length ≤ t.length ∧ ((shortestP x).length = t.length → ltB (shortestP x) t = true ∨ shortestP x = t) := by
  obtain ⟨hR, _, hp⟩ := checkP_nodes x h
  have e : shortestP x = shortP x := by unfold shortestP; rw [if_pos h]
  rw [e]
  obtain ⟨h1, h2⟩ := lessB_false.1 ((shortP_least _ x (Nat.lt_succ_self _) hR).2 t ht)
  exact ⟨h1, fun q => ltB_or (h2 q.symm)⟩

/-- the last place before k that M holds of -/
def LastAt (M : Nat → Prop) (k : Nat) (lo : Int) : Prop := (lo = -1 ∧ ∀ j, j < k → ¬ M j) ∨ ∃ j : Nat, j < k ∧ lo = j ∧ M j ∧ ∀ i, j < i → i < k → ¬ M i
theorem LastAt.zero (M : Nat → Prop) : LastAt M 0 (-1) := .inl ⟨rfl, fun j hj => by omega⟩
theorem LastAt.yes {M : Nat → Prop} {k : Nat} (hk : M k) : LastAt M (k + 1) k := .inr ⟨k, by omega, rfl, hk, fun i _ _ => by omega⟩
theorem LastAt.no {M : Nat → Prop} {k : Nat} {lo : Int} (h : LastAt M k lo) (hk : ¬ M k) : LastAt M (k + 1) lo := by
  rcases h with ⟨h1, h2⟩ | ⟨j, h1, h2, h3, h4⟩
  · refine .inl ⟨h1, fun j hj => ?_⟩
    by_cases e : j = k
    · subst e; exact hk
    · exact h2 j (by omega)
  · refine .inr ⟨j, by omega, h2, h3, fun i hi hik => ?_⟩
    by_cases e : i = k
    · subst e; exact hk
    · exact h4 i hi (by omega)
theorem LastAt.long {L : List Nat → Prop} {bs : List Nat} {lo n : Int} (h : LastAt (fun j => L (bs.take j)) (bs.length + 1) lo) (hn : LongAt L bs bs.length n) : lo = n := by
  rcases h with ⟨h1, h2⟩ | ⟨j, h1, h2, h3, h4⟩
  · rcases hn with ⟨g1, _⟩ | ⟨k, g1, g2, g3, _⟩
    · omega
    · exact absurd g3 (h2 k (by omega))
  · rcases hn with ⟨_, g2⟩ | ⟨k, g1, g2, g3, g4⟩
    · exact absurd h3 (g2 j (by omega))
    · rcases Nat.lt_trichotomy j k with q | q | q
      · exact absurd g3 (h4 k q (by omega))
      · omega
      · exact absurd h3 (g4 j q (by omega))
theorem live_down {L : List Nat → Prop} {bs : List Nat} {k : Nat} (h : ∃ v, L (bs.take (k + 1) ++ v)) : ∃ v, L (bs.take k ++ v) := by
  obtain ⟨v, hv⟩ := h
  refine ⟨(bs.drop k).take 1 ++ v, ?_⟩
  rw [← List.append_assoc]
  have e : bs.take k ++ (bs.drop k).take 1 = bs.take (k + 1) := (List.take_add).symm
  rw [e]; exact hv

/-- Hand, Match, Longest, Live of a pattern on a copy of bytes -/
theorem HdF {w0 : World} {B : Option Addr} {m cb : Nat} {bs : List Nat} (hB : Byt w0 B m cb bs) (hlen : bs.length ≤ 200) (w' : World) (h : Chg No w0 w') :
    Calls Tryd.prog 22 #[.slice B m cb] w' fun e w'' => ∃ g, e = .returned (.slice (some ⟨g, 0, none⟩) m (m + 2)) ∧ HandAt w'' g bs ∧ Chg No w0 w'' ∧ Chg No w' w'' :=
  (Hand_any B m cb bs w' (hB.chgNo h) (by omega)).mono fun _ _ ⟨g, he, _, hh, hc⟩ => ⟨g, by rw [he, hB.1], hh, h.trans hc, hc⟩
theorem MtF {w0 : World} (hd : Deb w0) (hg : 0 < w0.heap.size) {x : Ex} {A : Option Addr} {n c : Nat} {S : Nat → Prop} (hs : Sl w0 S A n c x.l) (m : Nat) (bs : List Nat) (hm : m = bs.length) (hlen : bs.length ≤ 200) (Z : Bool) (E : Int) (hZ : matchP x bs = (Z, E)) (w' : World) (g : Nat) (hh : HandAt w' g bs) (h : Chg No w0 w') :
    Calls Tryd.prog 21 #[.agg #[.int .i64 x.k, .int .i64 x.f, .int .i64 x.t, .int .i64 x.a, .int .i64 x.b, .slice A n c], .slice (some ⟨g, 0, none⟩) m (m + 2)] w' fun e w'' => e = .returned (.tuple #[.bool Z, .int .i64 E]) ∧ Chg No w0 w'' ∧ Chg No w' w'' := by
  subst hm
  exact (Match_any x A n c S w' (hs.chgNo h) (some ⟨g, 0, none⟩) bs.length (bs.length + 2) bs (hh.byt (by omega)) (hd.chgNo h) (by have := h.size; omega)).mono fun _ _ ⟨he, hc⟩ => ⟨by rw [he, hZ], h.trans hc, hc⟩
theorem LvF {w0 : World} (hd : Deb w0) (hg : 0 < w0.heap.size) {x : Ex} {A : Option Addr} {n c : Nat} {S : Nat → Prop} (hs : Sl w0 S A n c x.l) (m : Nat) (bs : List Nat) (hm : m = bs.length) (hlen : bs.length ≤ 200) (Z : Bool) (E : Int) (hZ : liveP x bs = (Z, E)) (w' : World) (g : Nat) (hh : HandAt w' g bs) (h : Chg No w0 w') :
    Calls Tryd.prog 26 #[.agg #[.int .i64 x.k, .int .i64 x.f, .int .i64 x.t, .int .i64 x.a, .int .i64 x.b, .slice A n c], .slice (some ⟨g, 0, none⟩) m (m + 2)] w' fun e w'' => e = .returned (.tuple #[.bool Z, .int .i64 E]) ∧ Chg No w0 w'' ∧ Chg No w' w'' := by
  subst hm
  exact (Live_any x A n c S w' (hs.chgNo h) (some ⟨g, 0, none⟩) bs.length (bs.length + 2) bs (hh.byt (by omega)) (hd.chgNo h) (by have := h.size; omega)).mono fun _ _ ⟨he, hc⟩ => ⟨by rw [he, hZ], h.trans hc, hc⟩
theorem LoF {w0 : World} (hd : Deb w0) (hg : 0 < w0.heap.size) {x : Ex} {A : Option Addr} {n c : Nat} {S : Nat → Prop} (hs : Sl w0 S A n c x.l) (m : Nat) (bs : List Nat) (hm : m = bs.length) (hlen : bs.length ≤ 200) (Z : Int) (E : Int) (hZ : longestP x bs = (Z, E)) (w' : World) (g : Nat) (hh : HandAt w' g bs) (h : Chg No w0 w') :
    Calls Tryd.prog 25 #[.agg #[.int .i64 x.k, .int .i64 x.f, .int .i64 x.t, .int .i64 x.a, .int .i64 x.b, .slice A n c], .slice (some ⟨g, 0, none⟩) m (m + 2)] w' fun e w'' => e = .returned (.tuple #[.int .i64 Z, .int .i64 E]) ∧ Chg No w0 w'' ∧ Chg No w' w'' := by
  subst hm
  exact (Longest_any x A n c S w' (hs.chgNo h) (some ⟨g, 0, none⟩) bs.length (bs.length + 2) bs (hh.byt (by omega)) (hd.chgNo h) (by have := h.size; omega)).mono fun _ _ ⟨he, hc⟩ => ⟨by rw [he, hZ], h.trans hc, hc⟩
end Go.Proofs.YticipgjbgcdccaaDoor
namespace Go.Proofs.YticipgjbgcdccaaDoor
open Go.RowKit

set_option maxHeartbeats 4000000 in
set_option maxRecDepth 100000 in
theorem ExprFronts_any (x : Ex) (A : Option Addr) (n c : Nat) (S : Nat → Prop) (w : World) (hlx : Sl w S A n c x.l) (okx : lenOk x)
    (B : Option Addr) (m cb : Nat) (bs0 : List Nat) (hB : Byt w B m cb bs0) (hd : Deb w) (hg : 0 < w.heap.size) (ht : Tab w) :
    Calls Tryd.prog 10 #[.agg #[.int .i64 x.k, .int .i64 x.f, .int .i64 x.t, .int .i64 x.a, .int .i64 x.b, .slice A n c], .slice B m cb] w fun e w' => e = .returned (.bool true) ∧ Chg No w w' := by
  obtain ⟨rfl, hcb1, hcb2, hB4⟩ := hB
  have HB0 := Lib.hid (show Byt w B bs0.length cb bs0 from ⟨rfl, hcb1, hcb2, hB4⟩)
  clear hB4
  have hba := Blk.new w 25 #[.int .i64 x.k, .int .i64 x.f, .int .i64 x.t, .int .i64 x.a, .int .i64 x.b, .slice A n c]
  have hc0 : Chg No w (w.alloc (.cells #[.int .i64 x.k, .int .i64 x.f, .int .i64 x.t, .int .i64 x.a, .int .i64 x.b, .slice A n c] 25)) := (Chg.refl _ _).alloc _
  obtain ⟨bs, hbs⟩ : ∃ bs, bs = bs0.take 200 := ⟨_, rfl⟩
  have hlen : bs.length ≤ 200 := by rw [hbs, List.length_take]; omega
  have hl200 : bs.length = min 200 bs0.length := by rw [hbs, List.length_take]
  have HB := Lib.hid (show Byt w B bs.length cb bs by
    by_cases q : bs0.length ≤ 200
    · rw [show bs = bs0 by rw [hbs, List.take_of_length_le q]]; exact HB0.out
    · have := HB0.out.take (k := 200) (by omega)
      rw [hbs]
      rw [show (bs0.take 200).length = 200 by rw [List.length_take]; omega]; exact this)
  have hcb : bs.length ≤ cb := HB.out.2.1
  have HL200 := Lib.hid hl200
  clear hbs hl200
  go_enter Tryd.func10, Tryd.ntmps10
  go_upto_if 23 with fail
  go_cut [1] (fun s1 wx => IsV s1 (.slice B bs.length cb) ∧ Chg No w wx ∧ Blk wx (w.heap.size) 25 #[.int .i64 x.k, .int .i64 x.f, .int .i64 x.t, .int .i64 x.a, .int .i64 x.b, .slice A n c])
  case first =>
    by_cases q : 200 < bs0.length
    · have q2 : bs.length = 200 := by rw [HL200.out]; omega
      have Q2 := Lib.hid q2
      have q3 : 200 ≤ cb := by omega
      clear q2
      go_wp2_with fail
      all_goals first
        | (go_meet; exact ⟨by unfold IsV; rw [Q2.out], hc0, hba⟩)
        | (exfalso; omega)
    · have q2 : bs.length = bs0.length := by rw [HL200.out]; omega
      have Q2 := Lib.hid q2
      clear q2
      go_wp2_with fail
      all_goals first
        | (go_meet; exact ⟨by unfold IsV; rw [Q2.out], hc0, hba⟩)
        | (exfalso; omega)
  case rest =>
    obtain ⟨q1, hcc, hba⟩ := hcut
    unfold IsV at q1
    subst q1
    clear HB0 HL200 hcb1
    replace hd := hd.chgNo hcc
    replace hg : 0 < wc.heap.size := by have := hcc.size; omega
    replace ht := ht.chgNo hcc
    replace hlx := hlx.chgNo hcc
    replace HB := Lib.hid (HB.out.chgNo hcc)
    obtain ⟨a0, a1, a2, a3, a4, a5⟩ := ex_cells hba
    go_wp2_with fail
    refine (TwinExpr_any x A n c S wc hlx okx).mono ?_
    rintro e w1 ⟨A2, c2, rfl, hM, hC1⟩
    have hs1 := hM.2
    clear a0 a1 a2 a3 a4 a5 hba hlx
    have hbx := Blk.new w1 25 #[.int .i64 x.k, .int .i64 x.f, .int .i64 x.t, .int .i64 x.a, .int .i64 x.b, .slice A2 x.l.length c2]
    have hC2 : Chg No wc (w1.alloc (.cells #[.int .i64 x.k, .int .i64 x.f, .int .i64 x.t, .int .i64 x.a, .int .i64 x.b, .slice A2 x.l.length c2] 25)) := hC1.alloc _
    replace hs1 := hs1.alloc (.cells #[.int .i64 x.k, .int .i64 x.f, .int .i64 x.t, .int .i64 x.a, .int .i64 x.b, .slice A2 x.l.length c2] 25)
    go_wp2_with fail
    generalize hW1 : (w1.alloc (.cells #[.int .i64 x.k, .int .i64 x.f, .int .i64 x.t, .int .i64 x.a, .int .i64 x.b, .slice A2 x.l.length c2] 25)) = W1 at *
    generalize hG1 : w1.heap.size = G at *
    clear hW1 hG1 hM hC1
    replace hcc := hcc.trans hC2
    replace hd := hd.chgNo hC2
    replace hg : 0 < W1.heap.size := by have := hC2.size; omega
    replace ht := ht.chgNo hC2
    replace HB := Lib.hid (HB.out.chgNo hC2)
    clear hC2
    have hsE := longestP_snd x (bs := bs) (by omega)
    have hbad := longestP_bad (x := x) (bs := bs) (by omega)
    obtain ⟨⟨N, E⟩, hNE⟩ : ∃ q, longestP x bs = q := ⟨_, rfl⟩
    rw [hNE] at hsE hbad
    simp only at hsE hbad
    have HNE := Lib.hid hNE
    have hshs : checkP x ≠ 0 → shortestP x = [] := fun h => by unfold shortestP; rw [if_neg h]
    have hnm : checkP x = 0 → LongAt (Lang x) bs bs.length N := fun h => by have := longest_spec h (bs := bs) (by omega); rw [hNE] at this; exact this
    replace hsE : checkP x = E := hsE.symm
    have HSE := Lib.hid hsE
    rw [hsE] at hbad hshs
    have HBAD := Lib.hid hbad
    have HSHS := Lib.hid hshs
    have HLONG := Lib.hid hnm
    clear hNE hsE hbad hshs hnm
    have KS : Hid (∀ w', Chg No W1 w' → Chg No W1 w' ∧ (w'.cell? ⟨G, 0, none⟩ = some (.int .i64 x.k) ∧ w'.cell? ⟨G, 1, none⟩ = some (.int .i64 x.f) ∧ w'.cell? ⟨G, 2, none⟩ = some (.int .i64 x.t) ∧ w'.cell? ⟨G, 3, none⟩ = some (.int .i64 x.a) ∧ w'.cell? ⟨G, 4, none⟩ = some (.int .i64 x.b) ∧ w'.cell? ⟨G, 5, none⟩ = some (.slice A2 x.l.length c2))) := Lib.hid fun w' h => ⟨h, ex_cells (hbx.chg h id)⟩
    have hD : Chg No W1 W1.drew := (Chg.refl No W1).drew
    have HH := HdF HB.out hlen W1.drew hD
    have LL := LoF hd hg hs1 bs.length bs rfl hlen N E HNE.out
    go_region_held3 (fun w' => Chg No W1 w' ∧ (w'.cell? ⟨G, 0, none⟩ = some (.int .i64 x.k) ∧ w'.cell? ⟨G, 1, none⟩ = some (.int .i64 x.f) ∧ w'.cell? ⟨G, 2, none⟩ = some (.int .i64 x.t) ∧ w'.cell? ⟨G, 3, none⟩ = some (.int .i64 x.a) ∧ w'.cell? ⟨G, 4, none⟩ = some (.int .i64 x.b) ∧ w'.cell? ⟨G, 5, none⟩ = some (.slice A2 x.l.length c2))) ((refine KS.out _ ?_; with_reducible assumption)) (first | (go_at_call 22; (with_reducible refine HH.mono ?_); rintro e wh ⟨gh, rfl, hhh, hCh, hNh⟩) | (go_at_call 25; (with_reducible refine (LL wh gh hhh hCh).mono ?_); rintro e w3 ⟨rfl, hC3, hN3⟩))
    clear HH LL KS hD hhh hCh hNh hN3
    obtain ⟨a0, a1, a2, a3, a4, a5⟩ := ex_cells (hbx.chg hC3 id)
    have hsh := Shortest_any x A2 x.l.length c2 _ w3 (hs1.chgNo hC3)
    obtain ⟨s, hs⟩ : ∃ s, shortestP x = s := ⟨_, rfl⟩
    have HS := Lib.hid hs
    rw [hs] at hsh
    rw [HSE.out] at hsh
    clear hs
    go_wp2_with fail
    refine hsh.mono ?_
    rintro e w4 ⟨Bs, ms, cbs, rfl, hBs, hC4⟩
    replace hC3 := hC3.trans hC4
    clear a0 a1 a2 a3 a4 a5 hsh hC4
    obtain ⟨rfl, hBs'⟩ := hBs
    have HBS := Lib.hid (show Byt w4 Bs s.length cbs s from ⟨rfl, hBs'⟩)
    clear hBs'
    replace hcc := hcc.trans hC3
    replace hd := hd.chgNo hC3
    replace hg : 0 < w4.heap.size := by have := hC3.size; omega
    replace ht := ht.chgNo hC3
    replace HB := Lib.hid (HB.out.chgNo hC3)
    replace hbx := hbx.chg hC3 id
    replace hs1 := hs1.chgNo hC3
    clear hC3
    obtain ⟨d, hdE⟩ : ∃ d : Bool, (E != 0) = d := ⟨_, rfl⟩
    go_upto_if 44 with fail
    cases d with
    | true =>
      have hE : E ≠ 0 := by simpa using hdE
      have hN := HBAD.out hE
      have hs0 : s.length = 0 := by rw [← HS.out, HSHS.out hE]; rfl
      subst hN
      have hk := known_any w4 hd hg ht
      clear hE
      go_wp2_with (go_at_call 15; refine hk.mono ?_; rintro e w5 ⟨rfl, hC5⟩)
      go_ret
      exact ⟨rfl, hcc.trans hC5⟩
    | false =>
      have hE : E = 0 := by simpa using hdE
      have HX : Hid (checkP x = 0) := Lib.hid (by rw [HSE.out, hE])
      clear hE
      go_wp2_with fail
      clear hdE HBAD HSHS HSE
      go_loopw [10, 11, 12] (fun v10 v11 v12 wr => ∃ (k : Nat) (V : Bool) (lo : Int), k ≤ bs.length + 1 ∧ v12 = .int .i64 (k : Int) ∧ v11 = .bool V ∧ v10 = .int .i64 lo ∧ Hid (k = 0 ∧ V = true ∨ ∃ j, k = j + 1 ∧ (V = true ↔ ∃ v, Lang x (bs.take j ++ v))) ∧ Hid (LastAt (fun j => Lang x (bs.take j)) k lo) ∧ Chg No w4 wr) (fun _ _ v _ => bs.length + 1 - (intOf v).toNat)
      case atStart => exact ⟨0, true, -1, Nat.zero_le _, rfl, rfl, rfl, Lib.hid (.inl ⟨rfl, rfl⟩), Lib.hid (LastAt.zero _), Chg.refl _ _⟩
      case round =>
        obtain ⟨k, V, lo, hk, rfl, rfl, rfl, HV, HLA, hcA⟩ := hrel
        by_cases hlt : k ≤ bs.length
        · have hlt' : (k : Int) ≤ (bs.length : Int) := by omega
          have hkc : k ≤ cb := by omega
          have hlk : (bs.take k).length ≤ 200 := by rw [List.length_take]; omega
          have hlkL : (bs.take k).length ≤ 262144 := by omega
          have HKL := Lib.hid (show k = (bs.take k).length by rw [List.length_take]; omega)
          have hM2 := matchP_few HX.out hlkL
          have hL2 := liveP_few HX.out hlkL
          have hM1 := match_iff HX.out hlkL
          have hL1 := live_iff HX.out hlkL
          obtain ⟨⟨M, M2⟩, hM⟩ : ∃ q, matchP x (bs.take k) = q := ⟨_, rfl⟩
          obtain ⟨⟨L, L2⟩, hL⟩ : ∃ q, liveP x (bs.take k) = q := ⟨_, rfl⟩
          rw [hM] at hM1 hM2
          rw [hL] at hL1 hL2
          simp only at hM1 hM2 hL1 hL2
          subst hM2 hL2
          have HM := Lib.hid hM
          have HLl := Lib.hid hL
          have F1 : Hid (M = true → L = true) := Lib.hid fun h => hL1.2 ⟨[], by rw [List.append_nil]; exact hM1.1 h⟩
          have F2 : Hid (L = true → V = true) := Lib.hid fun h => by
            rcases HV.out with ⟨_, h1⟩ | ⟨j, rfl, h1⟩
            · exact h1
            · exact h1.2 (live_down (hL1.1 h))
          have F3 : Hid (M = true → s.length ≤ k ∧ (s.length = k → ltB s (bs.take k) = true ∨ s = bs.take k)) := Lib.hid fun h => by
            have := short_least HX.out (hM1.1 h)
            rw [HS.out, ← HKL.out] at this
            exact this
          have HV' : Hid (k + 1 = 0 ∧ L = true ∨ ∃ j, k + 1 = j + 1 ∧ (L = true ↔ ∃ v, Lang x (bs.take j ++ v))) := Lib.hid (.inr ⟨k, rfl, hL1⟩)
          have HLy : Hid (M = true → LastAt (fun j => Lang x (bs.take j)) (k + 1) (k : Int)) := Lib.hid fun h => LastAt.yes (hM1.1 h)
          have HLn : Hid (M = false → LastAt (fun j => Lang x (bs.take j)) (k + 1) lo) := Lib.hid fun h => HLA.out.no fun h2 => by rw [hM1.2 h2] at h; cases h
          clear hM hL hM1 hL1 hlkL HLA
          -- region 15
          have hbxR := hbx.chg hcA id
          have HBR := Lib.hid (HB.out.chgNo hcA)
          have hdR := hd.chgNo hcA
          have hgR : 0 < wr.heap.size := by have := hcA.size; omega
          have KS : Hid (∀ w', Chg No wr w' → Chg No wr w' ∧ (w'.cell? ⟨G, 0, none⟩ = some (.int .i64 x.k) ∧ w'.cell? ⟨G, 1, none⟩ = some (.int .i64 x.f) ∧ w'.cell? ⟨G, 2, none⟩ = some (.int .i64 x.t) ∧ w'.cell? ⟨G, 3, none⟩ = some (.int .i64 x.a) ∧ w'.cell? ⟨G, 4, none⟩ = some (.int .i64 x.b) ∧ w'.cell? ⟨G, 5, none⟩ = some (.slice A2 x.l.length c2))) := Lib.hid fun w' h => ⟨h, ex_cells (hbxR.chg h id)⟩
          have hD : Chg No wr wr.drew := (Chg.refl No wr).drew
          have HH := HdF (HBR.out.take hlt) hlk wr.drew hD
          have MM := MtF hdR hgR (hs1.chgNo hcA) k (bs.take k) HKL.out hlk M 0 HM.out
          go_wp2_with fail
          go_region_held3 (fun w' => Chg No wr w' ∧ (w'.cell? ⟨G, 0, none⟩ = some (.int .i64 x.k) ∧ w'.cell? ⟨G, 1, none⟩ = some (.int .i64 x.f) ∧ w'.cell? ⟨G, 2, none⟩ = some (.int .i64 x.t) ∧ w'.cell? ⟨G, 3, none⟩ = some (.int .i64 x.a) ∧ w'.cell? ⟨G, 4, none⟩ = some (.int .i64 x.b) ∧ w'.cell? ⟨G, 5, none⟩ = some (.slice A2 x.l.length c2))) ((refine KS.out _ ?_; with_reducible assumption)) (first | (go_at_call 22; (with_reducible refine HH.mono ?_); rintro e wh ⟨gh, rfl, hhh, hCh, hNh⟩) | (go_at_call 21; (with_reducible refine (MM wh gh hhh hCh).mono ?_); rintro e w5 ⟨rfl, hC5, hN5⟩))
          clear HH MM KS hD hhh hCh hNh hN5
          have hcA5 := hcA.trans hC5
          clear hC5
          -- region 16
          have hbx5 := hbx.chg hcA5 id
          have HB5 := Lib.hid (HB.out.chgNo hcA5)
          have hd5 := hd.chgNo hcA5
          have hg5 : 0 < w5.heap.size := by have := hcA5.size; omega
          have KS : Hid (∀ w', Chg No w5 w' → Chg No w5 w' ∧ (w'.cell? ⟨G, 0, none⟩ = some (.int .i64 x.k) ∧ w'.cell? ⟨G, 1, none⟩ = some (.int .i64 x.f) ∧ w'.cell? ⟨G, 2, none⟩ = some (.int .i64 x.t) ∧ w'.cell? ⟨G, 3, none⟩ = some (.int .i64 x.a) ∧ w'.cell? ⟨G, 4, none⟩ = some (.int .i64 x.b) ∧ w'.cell? ⟨G, 5, none⟩ = some (.slice A2 x.l.length c2))) := Lib.hid fun w' h => ⟨h, ex_cells (hbx5.chg h id)⟩
          have hD : Chg No w5 w5.drew := (Chg.refl No w5).drew
          have HH := HdF (HB5.out.take hlt) hlk w5.drew hD
          have LL := LvF hd5 hg5 (hs1.chgNo hcA5) k (bs.take k) HKL.out hlk L 0 HLl.out
          go_wp2_with fail
          go_region_held3 (fun w' => Chg No w5 w' ∧ (w'.cell? ⟨G, 0, none⟩ = some (.int .i64 x.k) ∧ w'.cell? ⟨G, 1, none⟩ = some (.int .i64 x.f) ∧ w'.cell? ⟨G, 2, none⟩ = some (.int .i64 x.t) ∧ w'.cell? ⟨G, 3, none⟩ = some (.int .i64 x.a) ∧ w'.cell? ⟨G, 4, none⟩ = some (.int .i64 x.b) ∧ w'.cell? ⟨G, 5, none⟩ = some (.slice A2 x.l.length c2))) ((refine KS.out _ ?_; with_reducible assumption)) (first | (go_at_call 22; (with_reducible refine HH.mono ?_); rintro e wi ⟨gi, rfl, hhi, hCi, hNi⟩) | (go_at_call 26; (with_reducible refine (LL wi gi hhi hCi).mono ?_); rintro e w6 ⟨rfl, hC6, hN6⟩))
          clear HH LL KS hD hhi hCi hNi hN6
          have hcA6 := hcA5.trans hC6
          clear hC6 hbxR HBR hdR hgR hbx5 HB5 hd5 hg5
          have hD6 : Chg No w4 w6.drew := hcA6.drew
          have k1 := conv_byt (HBS.out.chgNo hD6)
          have k2 := conv_byt ((HB.out.chgNo hD6).take hlt)
          have hcmp := fun (h : s.length = k) => bytesLess_toU s (bs.take k) HBS.out.sm8 (HB.out.take hlt).sm8
          cases M with
          | false =>
            have hla : Hid (LastAt (fun j => Lang x (bs.take j)) (k + 1) lo) := Lib.hid (HLn.out rfl)
            cases L with
            | false =>
              clear F1 F2 F3 HLy HLn hcmp k1 k2
              go_wp2_with fail
              go_region
              all_goals
                go_wp2
                exact ⟨⟨k + 1, false, lo, by omega, by go_num, rfl, rfl, Lib.hid (by simpa using HV'.out), hla, hD6⟩, by simp [intOf]; omega⟩
            | true =>
              obtain rfl : V = true := F2.out rfl
              clear F1 F2 F3 HLy HLn hcmp k1 k2
              go_wp2_with fail
              go_region
              all_goals
                go_wp2
                exact ⟨⟨k + 1, true, lo, by omega, by go_num, rfl, rfl, Lib.hid (by simpa using HV'.out), hla, hD6⟩, by simp [intOf]; omega⟩
          | true =>
            have hla : Hid (LastAt (fun j => Lang x (bs.take j)) (k + 1) (k : Int)) := Lib.hid (HLy.out rfl)
            obtain rfl : L = true := F1.out rfl
            obtain rfl : V = true := F2.out rfl
            obtain ⟨g1, g2⟩ := F3.out rfl
            have e0 : decide (k < s.length) = false := decide_eq_false (by omega)
            by_cases q : s.length = k
            · have e1 : ((s.length : Int) == (k : Int)) = true := by simp; omega
              have g3 := g2 q
              have hcm := hcmp q
              obtain ⟨b1, hb1⟩ : ∃ b : Bool, Op.bytesLess (baB s).toList (baB (bs.take k)).toList = b := ⟨_, rfl⟩
              obtain ⟨b2, hb2⟩ : ∃ b : Bool, ((baB s).toList == (baB (bs.take k)).toList) = b := ⟨_, rfl⟩
              have hb12 : b1 = true ∨ b2 = true := by
                rcases g3 with g3 | g3
                · left
                  rw [← hb1, ← g3, ← hcm]; simp [baB]
                · right
                  rw [← hb2, ← g3]; simp
              clear F1 F2 F3 HLy HLn hcmp g3 hcm g1 g2 q
              rcases hb12 with rfl | rfl
              · cases b2
                all_goals
                  go_wp2_with fail
                  go_region
                  all_goals
                    go_wp2
                    exact ⟨⟨k + 1, true, k, by omega, by go_num, rfl, rfl, Lib.hid (by simpa using HV'.out), hla, hD6⟩, by simp [intOf]; omega⟩
              · cases b1
                all_goals
                  go_wp2_with fail
                  go_region
                  all_goals
                    go_wp2
                    exact ⟨⟨k + 1, true, k, by omega, by go_num, rfl, rfl, Lib.hid (by simpa using HV'.out), hla, hD6⟩, by simp [intOf]; omega⟩
            · have e1 : ((s.length : Int) == (k : Int)) = false := by simp; omega
              clear F1 F2 F3 HLy HLn hcmp k1 k2 g1 g2 q
              go_wp2_with fail
              go_region
              all_goals
                go_wp2
                exact ⟨⟨k + 1, true, k, by omega, by go_num, rfl, rfl, Lib.hid (by simpa using HV'.out), hla, hD6⟩, by simp [intOf]; omega⟩
        · obtain rfl : k = bs.length + 1 := by omega
          obtain rfl : lo = N := HLA.out.long (HLONG.out HX.out)
          have hgt : ¬ ((bs.length : Int) + 1 ≤ (bs.length : Int)) := by omega
          obtain ⟨a0, a1, a2, a3, a4, a5⟩ := ex_cells (hbx.chg hcA id)
          obtain ⟨p1, p2, p3⟩ := short_match HX.out
          have hz := empty_match HX.out
          have hz2 := matchP_few HX.out (bs := []) (by simp)
          have hma := Match_any x A2 x.l.length c2 _ wr (hs1.chgNo hcA) Bs s.length cbs s (HBS.out.chgNo hcA) (hd.chgNo hcA) (by have := hcA.size; omega)
          rw [HS.out] at p1 p2 p3
          rw [p1, p2] at hma
          clear p1 p2 p3 HV HLA HLONG
          go_wp2_with fail
          refine hma.mono ?_
          rintro e w5 ⟨rfl, hC5⟩
          have hcA5 := hcA.trans hC5
          clear a0 a1 a2 a3 a4 a5 hma hC5
          obtain ⟨a0, a1, a2, a3, a4, a5⟩ := ex_cells (hbx.chg hcA5 id)
          have hmn := Match_any x A2 x.l.length c2 _ w5 (hs1.chgNo hcA5) none 0 0 [] ⟨rfl, Nat.le_refl _, by omega, fun h => absurd rfl h⟩ (hd.chgNo hcA5) (by have := hcA5.size; omega)
          obtain ⟨⟨Z, E0⟩, hZ⟩ : ∃ q, matchP x [] = q := ⟨_, rfl⟩
          rw [hZ] at hmn hz hz2
          simp only at hmn hz hz2
          subst hz2
          have HZZ := Lib.hid hz
          clear hz hZ
          go_wp2_with fail
          refine hmn.mono ?_
          rintro e w6 ⟨rfl, hC6⟩
          have hcA6 := hcA5.trans hC6
          clear a0 a1 a2 a3 a4 a5 hmn hC6
          obtain ⟨a0, a1, a2, a3, a4, a5⟩ := ex_cells (hbx.chg hcA6 id)
          have hem := Empty_any x A2 x.l.length c2 _ w6 (hs1.chgNo hcA6)
          rw [HZZ.out] at hem
          have hkn := fun (w' : World) (h : Chg No w6 w') => known_any w' (hd.chgNo (hcA6.trans h)) (by have := (hcA6.trans h).size; omega) (ht.chgNo (hcA6.trans h))
          cases Z
          all_goals
            go_wp2_with (first | (go_at_call 33; refine hem.mono ?_; rintro e w7 ⟨rfl, hC7⟩) | (go_at_call 15; refine (hkn w7 hC7).mono ?_; rintro e w8 ⟨rfl, hC8⟩))
            go_ret
            exact ⟨rfl, hcc.trans ((hcA6.trans hC7).trans hC8)⟩
end Go.Proofs.YticipgjbgcdccaaDoor
namespace Go.Proofs.YticipgjbgcdccaaDoor
open Go.RowKit Go.ChangeShapes Go.WideShapes Go.ChangeAt

theorem laidOut : laidOutB Tryd.prog = true := by kernel_rfl
abbrev frontsArgs : Array Value := #[.agg #[.int .i64 0, .int .i64 0, .int .i64 0, .int .i64 0, .int .i64 0, .slice none 0 0], .slice none 0 0]
theorem fronts_witness (os : Os) {H : Type} (enc : TypeId × Value → H) :
    (OpenSpec.ofChange Rows.exprFrontsSpec).preRow enc Tryd.prog Tryd.f10 Rows.exprFrontsRow.domain false Rows.exprFrontsRow.laid ((laidWorld os).forCall (fun _ _ => 0) ⟨#[], frontsArgs, []⟩).memory frontsArgs := by
  have hw : (DataW.whole enc Tryd.prog ((laidWorld os).forCall (fun _ _ => 0) ⟨#[], frontsArgs, []⟩).memory Tryd.f10.params.toList (OpenSpec.ofChange Rows.exprFrontsSpec).vars false frontsArgs.toList 8).map (fun x => (x.1, x.2.1)) =
      some ([.agg [.lit (.int .i64 0), .lit (.int .i64 0), .lit (.int .i64 0), .lit (.int .i64 0), .lit (.int .i64 0), .nil], .nil], []) := by kernel_rfl
  obtain ⟨⟨x1, x2, x3⟩, hx, hx1⟩ := Option.map_eq_some_iff.1 hw
  simp only [Prod.mk.injEq] at hx1
  obtain ⟨rfl, rfl⟩ := hx1
  exact OpenSpec.preRow_of_cond 8 hx (by kernel_rfl) (fun k hk => by cases hk) (by kernel_rfl) (laid_met os _)

set_option maxRecDepth 100000 in
set_option maxHeartbeats 2000000 in
theorem fronts_lifted (os : Os) (started : os.Started) (H : Type) (enc : TypeId × Value → H) (F : Stop.Interp) :
    ReturnsInHanded {} Tryd.checked os 10 .any ((OpenSpec.ofChange Rows.exprFrontsSpec).preRow enc Tryd.prog Tryd.f10 Rows.exprFrontsRow.domain false Rows.exprFrontsRow.laid)
      (((OpenSpec.ofChange Rows.exprFrontsSpec).at F).post enc Tryd.prog Tryd.f10 false true false false) := by
  refine returnsInHanded_of_row (C := Tryd.checked) (s := OpenSpec.ofChange Rows.exprFrontsSpec) own started (by kernel_rfl) Tryd.func10
    (witness_row_atRef (enc := enc) (C := Tryd.checked) false (laidWorld os) frontsArgs rfl (by kernel_rfl) (by kernel_rfl) (by kernel_rfl) (fronts_witness os enc)) ?_
  intro W base args ds gs before hval0 hW _ _ hsz0 hL _ _
  have hsz : (DataW.weightsEach Tryd.prog (Tryd.f10.params.toList ++ (OpenSpec.ofChange Rows.exprFrontsSpec).bare.plain.varTypes Tryd.prog) (ds ++ gs)).all (· ≤ reachBytes) = true := hsz0
  clear hsz0
  have hval : ∀ (j : Nat) t v, Tryd.f10.params[j]? = some t → args[j]? = some v → Value.okWide Tryd.prog W .any base t v := hval0
  have hW' := hW
  obtain ⟨p, q, hA0, hV0, rfl, _, _⟩ := hW
  have hA : DataW.TrodAll enc Tryd.prog W 0 (fun _ => true) true Tryd.f10.params.toList args.toList ds p := hA0
  rw [Tryd.params10] at hA hval hsz
  obtain ⟨v0, v4, d0, d4, p0, p4, rfl, rfl, rfl, h0, h4⟩ := trodAll_two hA
  obtain ⟨rfl, rfl⟩ := trodVars_none hV0
  obtain ⟨c0, e0, _⟩ := okWide_struct Tryd.underlying25 (hval 0 25 v0 rfl rfl)
  obtain ⟨B0, m0, cb0, rfl⟩ := okWide_slice Tryd.underlying41 (hval 1 41 v4 rfl rfl)
  clear hA0 hV0 hval0
  simp only [List.append_nil] at hW' hsz
  have hlt : ∀ x ∈ p0 ++ p4, x.block < W.heap.size := fun x hx => by simpa using hW'.lt x (by simpa using hx)
  obtain ⟨x, A, n, c, rfl, hsx, hwx⟩ := open_ex e0 h0
  have h4k := h4
  obtain ⟨fuel4, hf4⟩ := h4
  obtain ⟨B, m, cb, bs, e, hB, hBn⟩ := open_bytes hf4
  injection e with e _
  injection e with q1 q2 q3
  subst q1 q2 q3
  have hsz1 : (DataW.weightsEach Tryd.prog [25, 41] [d0, d4]).all (fun x => decide (x ≤ reachBytes)) = true := hsz
  simp only [DataW.weightsEach, List.append_nil, List.all_eq_true, decide_eq_true_eq, List.mem_append] at hsz1
  have hokx := hwx fun q hq => hsz1 q (.inl hq)
  obtain ⟨t1, t2, t3⟩ := tabs_of_laid hL
  refine (ExprFronts_any x A n c _ W hsx hokx B0 m0 cb0 bs hB t1 t2 t3).mono ?_
  rintro e W' ⟨rfl, hc⟩
  have bel := hc.below
  have e1 : ((OpenSpec.ofChange Rows.exprFrontsSpec).at F).fn H ([d0, d4] ++ []) = { results := [.lit (.bool true)], args := [d0, d4] } := rfl
  refine ⟨_, rfl, _, _, _, [], p0 ++ p4, [], hW', ?_, ?_, ?_, bel.frame _, fun h => by cases h⟩
  · rw [e1]; exact trodAll_mk1 (shut_bool Tryd.underlying4 true)
  · rw [e1]
    exact trodAll_push (Below.trod laidOut (by kernel_rfl) (of_decide_eq_true (by kernel_rfl)) h0 bel fun x hx => hlt x (by simp [hx])) (trodAll_mk1 (Below.trod laidOut (by kernel_rfl) (of_decide_eq_true (by kernel_rfl)) h4k bel fun x hx => hlt x (by simp [hx])))
  · rw [e1]; rfl

theorem fronts_said : Rows.ExprFrontsSaid :=
  OpenClaim.holds_of_cond 10 Tryd.f10 rfl rfl rfl rfl rfl rfl rfl ⟨rfl, rfl, rfl, rfl, rfl⟩ rfl rfl rfl rfl rfl (by kernel_rfl) Tryd.func10 (by kernel_rfl)
    (of_decide_eq_true (by kernel_rfl)) (by unfold Func.isWrapper; rw [if_neg (of_decide_eq_false (by kernel_rfl))]; exact ⟨rfl, rfl⟩)
    (fun os started H enc _ F0 => by rw [OpenClaim.pre_eq_preRow]; exact fronts_lifted os started H enc F0)

theorem exprFronts_holds : Rows.ExprFrontsCardSaid :=
  Claim7.holds_tied_plain_at .later [] [.data, .data, .data] true (true, "ff01ccba15d25dd0e238923213c7e16af5c8880d8084b1916b336e3c37e050fc") true
    fronts_said (fun _ h => by cases h) (by kernel_rfl) (fun _ h => by cases h) exprFronts_row_tie rfl ⟨rfl, rfl⟩ (by kernel_rfl) rfl
    (fun f fn hf hfn => by
      obtain rfl : f = 10 := Option.some.inj ((show Tryd.prog.funcNamed "graft/graftlaw2.ExprFronts" = some 10 by kernel_rfl).symm.trans hf) |>.symm
      obtain rfl : fn = Tryd.f10 := (Option.some.inj (Tryd.func10.symm.trans hfn)).symm
      exact ⟨by kernel_rfl, fun j t ht => by
        rw [Tryd.params10] at ht
        rcases j with _ | _ | j
        · obtain rfl : t = 25 := by simpa using ht.symm
          exact (show Tryd.prog.wantsStandIn 25 = false by kernel_rfl)
        · obtain rfl : t = 41 := by simpa using ht.symm
          exact (show Tryd.prog.wantsStandIn 41 = false by kernel_rfl)
        · simp at ht⟩)
    (by kernel_rfl)
#print axioms exprFronts_holds
end Go.Proofs.YticipgjbgcdccaaDoor
