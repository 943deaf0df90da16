/- Package expr's reader: others, by a contract. No condition but the ranges' bounds.
   Package expr's reader: class, by a contract. Condition: the text has at most 65536 bytes.
   Package expr's reader: times, by a contract. Condition: the text has at most 65536 bytes. -/
import Derived.Test.YticipgjbgcdccaaDoorZ1
set_option linter.unusedSimpArgs false
set_option linter.unusedVariables false
namespace Go.Proofs.YticipgjbgcdccaaDoor
open Go.RowKit

/-- an array of 256 bools -/
def ArrB (w : World) (g : Nat) (f : Nat → Bool) : Prop := (∀ c, c < 256 → w.cell? ⟨g, c, none⟩ = some (.bool (f c))) ∧ (∀ c, w.frozen? ⟨g, c, none⟩ = false) ∧ g < w.heap.size
theorem ArrB.chg {w w' : World} {g : Nat} {f : Nat → Bool} {S : Nat → Prop} (h : ArrB w g f) (hc : Chg S w w') (hn : ¬ S g) : ArrB w' g f := by
  have hb := hc.block g h.2.2 hn
  refine ⟨fun c hc' => ?_, fun c => ?_, Nat.lt_of_lt_of_le h.2.2 hc.size⟩
  · rw [World.cell?_of_block hb]; exact h.1 c hc'
  · rw [World.frozen?_of_block hb]; exact h.2.1 c
theorem ArrB.set {w : World} {g : Nat} {f f' : Nat → Bool} (h : ArrB w g f) (c : Nat) (hf : ∀ d, d < 256 → f' d = (f d || d == c)) : ArrB (w.setCell ⟨g, c, none⟩ (.bool true)) g f' := by
  refine ⟨fun d hd => ?_, fun d => by rw [World.frozen?_setCell]; exact h.2.1 d, by simpa [World.setCell] using h.2.2⟩
  rw [hf d hd]
  by_cases e : d = c
  · subst e
    rw [World.cell?_setCell_same' _ _ _ (by rw [h.1 d hd]; rfl)]; simp
  · rw [World.cell?_setCell_other _ _ _ _ (by intro h; exact e (by injection h with _ h2; exact h2.symm)), h.1 d hd]; simp [e]

set_option maxRecDepth 20000 in
theorem ArrB.zero (w : World) : ArrB (w.alloc (.cells Tryd.zeroCells156 156)) w.heap.size (fun _ => false) := by
  have e : Tryd.zeroCells156 = Array.replicate 256 (.bool false) := by rfl
  have hb := Blk.new w 156 Tryd.zeroCells156
  refine ⟨fun c hc => ?_, fun c => hb.frozen c, by simp⟩
  rw [hb.cell, e]; simp [hc]

theorem ArrB.congr {w : World} {g : Nat} {f f' : Nat → Bool} (h : ArrB w g f) (e : ∀ d, f' d = f d) : ArrB w g f' := by
  have : f' = f := funext e
  rw [this]; exact h

theorem single_any (c : Nat) (w : World) (hc : c < 256) :
    Calls Tryd.prog 129 #[.int .u8 (c : Int)] w fun e w' => e = .returned (.agg #[.int .i64 1, .int .i64 (c : Int), .int .i64 (c : Int), .int .i64 0, .int .i64 0, .slice none 0 0]) ∧ Chg No w w' := by
  go_enter Tryd.func129, Tryd.ntmps129
  go_wp2
  refine bodyPost_ret (v := .agg #[.int .i64 1, .int .i64 (c : Int), .int .i64 (c : Int), .int .i64 0, .int .i64 0, .slice none 0 0]) (by simp [results, Tryd.results129, go_sem]) rfl ⟨rfl, ?_⟩
  repeat (first | exact Chg.refl _ _ | apply Chg.setCell _ _ (fun h => absurd h (Nat.lt_irrefl _)) | apply Chg.alloc)

set_option maxHeartbeats 2000000 in
set_option maxRecDepth 100000 in
theorem others_any (w : World) (A : Option Addr) (n c : Nat) (ps : List (Nat × Nat)) (S : Nat → Prop) (hl : Sl w S A n c (ps.map rg)) (hp : ∀ p ∈ ps, p.1 ≤ p.2 ∧ p.2 < 256) (hn : ps.length ≤ 65536) :
    Calls Tryd.prog 145 #[.slice A n c] w fun e w' => ∃ v, e = .returned v ∧ Own w' w.heap.size v ((othersP ps).map rg) ∧ Chg No w w' := by
  obtain ⟨rfl, hc1, hc2⟩ : n = ps.length ∧ ps.length ≤ c ∧ c ≤ 9223372036854775807 := ⟨by have := hl.1; simpa using this, by have := hl.2.1; simpa using this, hl.2.2.1⟩
  have HL := Lib.hid hl; clear hl
  go_enter Tryd.func145, Tryd.ntmps145
  go_upto_region 1 with fail
  go_cut [3] (fun s3 wx => IsV s3 (.pointer (some ⟨w.heap.size, 0, none⟩)) ∧ ArrB wx w.heap.size (fun _ => false) ∧ Chg No w wx)
  case first =>
    go_wp2_with fail
    go_meet
    exact ⟨rfl, ArrB.zero w, (Chg.refl _ _).alloc _⟩
  case rest =>
    obtain ⟨h3, hA, hC⟩ := hcut
    unfold IsV at h3; subst h3
    go_wp2
    go_loopw [11] (fun v11 wr => ∃ i : Nat, i ≤ ps.length ∧ v11 = .int .i64 (i : Int) ∧ ArrB wr w.heap.size (namedP (ps.take i)) ∧ Chg No w wr) (fun v _ => ps.length - (intOf v).toNat)
    case atStart => exact ⟨0, Nat.zero_le _, rfl, hA, hC⟩
    case round =>
      obtain ⟨i, hi, rfl, hA, hC⟩ := hrel
      by_cases hlt : i < ps.length
      · obtain ⟨wo, rfl⟩ : ∃ wo : World, wo = wr := ⟨_, rfl⟩
        have hlo := hA.2.2
        obtain ⟨g, o, A', c', rfl, hS, x0, x1, x2, x3, x4, x5, _⟩ := (HL.out.chgNo hC).at_ i (by simpa using hlt)
        obtain ⟨p, hpe⟩ : ∃ p, ps[i] = p := ⟨_, rfl⟩
        have hpm := hp p (by rw [← hpe]; exact List.getElem_mem hlt)
        simp only [List.getElem_map, hpe, rg, Ex.k, Ex.f, Ex.t, Ex.a, Ex.b, Ex.l] at x0 x1 x2 x3 x4 x5
        obtain ⟨p1, p2⟩ := p
        dsimp only at x0 x1 x2 x3 x4 x5 hpm
        go_wp2
        go_loopw [6] (fun v6 wr => ∃ q : Nat, p1 ≤ q ∧ q ≤ p2 + 1 ∧ v6 = .int .i64 (q : Int) ∧ ArrB wr w.heap.size (fun d => namedP (ps.take i) d || (decide (p1 ≤ d) && decide (d < q))) ∧ Chg No w wr ∧
            wr.cell? ⟨wo.heap.size, 2, none⟩ = some (.int .i64 (p2 : Int))) (fun v _ => p2 + 1 - (intOf v).toNat)
        case atStart =>
          have hA2 : ArrB wo w.heap.size (fun d => namedP (ps.take i) d || (decide (p1 ≤ d) && decide (d < p1))) := by
            have e : (fun d => namedP (ps.take i) d || (decide (p1 ≤ d) && decide (d < p1))) = namedP (ps.take i) := by
              funext d
              rw [show (decide (p1 ≤ d) && decide (d < p1)) = false by rw [Bool.eq_false_iff]; simp <;> omega, Bool.or_false]
            rw [e]; exact hA
          exact ⟨p1, Nat.le_refl _, by omega, rfl, hA2.chg ((Chg.refl No _).alloc _) id, hC.alloc _, (Blk.new wo _ _).cell 2⟩
        case round =>
          obtain ⟨q, hq1, hq2, rfl, hA, hC, hc2⟩ := hrel
          have hne : w.heap.size ≠ wo.heap.size := fun e => by omega
          by_cases hq : q ≤ p2
          · have hA1 := hA.1 q (by omega)
            have hA2 := hA.2.1 q
            go_wp2
            refine ⟨⟨q + 1, by omega, by omega, by go_num, hA.set q (fun d _ => ?_), hC.setCell _ (fun h => absurd h (Nat.lt_irrefl _)), (World.cell?_setCell_other _ _ _ _ (by intro h; exact hne (by injection h))).trans hc2⟩, by simp [intOf]; omega⟩
            rw [Bool.or_assoc]; congr 1; rw [Bool.eq_iff_iff]; simp; omega
          · go_wp2
            refine ⟨⟨i + 1, by omega, by go_num, hA.congr fun d => ?_, hC⟩, by simp [intOf]; omega⟩
            unfold namedP
            rw [List.take_succ_eq_append_getElem hlt, List.any_append, hpe]
            simp only [List.any_cons, List.any_nil, Bool.or_false]
            congr 1; rw [Bool.eq_iff_iff]; simp; omega
      · obtain rfl : i = ps.length := by omega
        rw [List.take_length] at hA
        go_wp2
        go_loopw [7, 26] (fun v7 v26 wr => ∃ k : Nat, k ≤ 256 ∧ v26 = .int .i64 (k : Int) ∧ Own wr (w.heap.size + 1) v7 ((othersTo (namedP ps) k).map rg) ∧ ArrB wr w.heap.size (namedP ps) ∧ Chg No w wr) (fun _ v _ => 256 - (intOf v).toNat)
        case atStart => exact ⟨0, by omega, rfl, Own.nil _ _, hA, hC⟩
        case round =>
          obtain ⟨k, hk, rfl, hO, hA, hC⟩ := hrel
          have hAl := hA.2.2
          have hln := othersTo_len (namedP ps) k
          by_cases hlt : k < 256
          · have hA0 := hA.1 k hlt
            obtain ⟨b, hb⟩ : ∃ b, namedP ps k = b := ⟨_, rfl⟩
            rw [hb] at hA0
            cases b with
            | true =>
              have HB := Lib.hid hb; clear hb
              go_wp2
              exact ⟨⟨k + 1, by omega, by go_num, by unfold othersTo othersStep; rw [if_pos HB.out]; exact hO, hA, hC⟩, by simp [intOf]; omega⟩
            | false =>
              have HB := Lib.hid hb; clear hb
              have hOlt := hO.lt
              rcases Nat.eq_zero_or_pos k with rfl | hpos
              · go_wp2_with (first | (go_at_call 129; refine (single_any 0 _ (by omega)).mono ?_; rintro e w1 ⟨rfl, hc1⟩) | (at_builtin; refine wpList_append_ex rfl _ _ rfl (w.heap.size + 1) _ _ rfl ((hO.chg hc1 fun _ _ h => h).chg ((Chg.refl No _).alloc _) fun _ _ h => h) w1.heap.size 1 (.mk 1 0 0 0 0 []) none 0 0 rfl (Blk.new _ _ _) ⟨rfl, Nat.le_refl _, by omega, fun h => absurd rfl h⟩ (by simp; omega) (by have := hc1.size; simp; omega) ?_; intro v' w2 hO' hg hat))
                have hC2 : Chg No w w2 := ((hC.trans hc1).alloc _).then_ (Chg.of_grown (S := fun j => some j = _) hg fun j e _ => e.symm) fun j hj q => by have := (hOlt j q.symm).1; omega
                have hA2 : ArrB w2 w.heap.size (namedP ps) := ((hA.chg hc1 id).chg ((Chg.refl No _).alloc _) id).chg (Chg.of_grown (S := fun j => some j = _) hg fun j e _ => e.symm) fun q => by have := (hOlt _ q.symm).1; omega
                have hO2 : Own w2 (w.heap.size + 1) v' ((othersTo (namedP ps) (0 + 1)).map rg) := by
                  have := HB.out
                  have e : othersTo (namedP ps) (0 + 1) = othersTo (namedP ps) 0 ++ [(0, 0)] := by simp [othersTo, othersStep, this]
                  rw [e, List.map_append]; exact hO'
                exact ⟨⟨0 + 1, by omega, rfl, hO2, hA2, hC2⟩, by simp [intOf]⟩
              · obtain ⟨k', rfl⟩ : ∃ k', k = k' + 1 := ⟨k - 1, by omega⟩
                have hA1 := hA.1 k' (by omega)
                obtain ⟨b1, hb1⟩ : ∃ b, namedP ps k' = b := ⟨_, rfl⟩
                rw [hb1] at hA1
                have HB1 := Lib.hid hb1; clear hb1
                cases b1 with
                | true =>
                  go_wp2_with (first | (go_at_call 129; refine (single_any (k' + 1) _ (by omega)).mono ?_; rintro e w1 ⟨rfl, hc1⟩) | (at_builtin; refine wpList_append_ex rfl _ _ rfl (w.heap.size + 1) _ _ rfl ((hO.chg hc1 fun _ _ h => h).chg ((Chg.refl No _).alloc _) fun _ _ h => h) w1.heap.size 1 (.mk 1 ((k' : Int) + 1) ((k' : Int) + 1) 0 0 []) none 0 0 rfl (Blk.new _ _ _) ⟨rfl, Nat.le_refl _, by omega, fun h => absurd rfl h⟩ (by simp; omega) (by have := hc1.size; simp; omega) ?_; intro v' w2 hO' hg hat))
                  have hC2 : Chg No w w2 := ((hC.trans hc1).alloc _).then_ (Chg.of_grown (S := fun j => some j = _) hg fun j e _ => e.symm) fun j hj q => by have := (hOlt j q.symm).1; omega
                  have hA2 : ArrB w2 w.heap.size (namedP ps) := ((hA.chg hc1 id).chg ((Chg.refl No _).alloc _) id).chg (Chg.of_grown (S := fun j => some j = _) hg fun j e _ => e.symm) fun q => by have := (hOlt _ q.symm).1; omega
                  have hO2 : Own w2 (w.heap.size + 1) v' ((othersTo (namedP ps) ((k' + 1) + 1)).map rg) := by
                    have := HB.out
                    unfold othersTo othersStep; rw [if_neg (by simp [this]), if_neg (by simp [HB1.out]), List.map_append]; exact hO'
                  exact ⟨⟨(k' + 1) + 1, by omega, by go_num, hO2, hA2, hC2⟩, by simp [intOf]; omega⟩
  
                | false =>
                  have hne := othersTo_ne (namedP ps) k' HB1.out
                  obtain ⟨o', pl, he⟩ := (List.eq_nil_or_concat (othersTo (namedP ps) (k' + 1))).resolve_left hne
                  have hnx : othersTo (namedP ps) (k' + 1 + 1) = o' ++ [(pl.1, k' + 1)] := by
                    have := HB.out
                    rw [show othersTo (namedP ps) (k' + 1 + 1) = othersStep (namedP ps) (othersTo (namedP ps) (k' + 1)) (k' + 1) from rfl, he]
                    unfold othersStep setLast
                    rw [if_neg (by simp [this]), if_pos (by simp [HB1.out])]; simp
                  rw [he] at hO hln
                  rw [List.concat_eq_append, List.map_append] at hO
                  have HX := Lib.hid hnx; clear hnx he hne
                  obtain ⟨g, cap, rfl, hgb, hcl, hfr⟩ := hO.last (x := rg pl)
                  have hf2 := hfr ((o'.map rg).length * 6 + 2)
                  rw [List.length_map] at hcl hf2 hO
                  have hol : o'.length ≤ 256 := by simp at hln; omega
                  go_wp2
                  have hO2 : Own (wr.setCell ⟨g, o'.length * 6 + 2, none⟩ (.int .i64 ((k' : Int) + 1))) (w.heap.size + 1) (.slice (some ⟨g, 0, none⟩) (o'.length + 1) cap) ((othersTo (namedP ps) (k' + 1 + 1)).map rg) := by
                    rw [HX.out, List.map_append]
                    have := Own.setTo (l := o'.map rg) (x := rg pl) (by rw [List.length_map]; exact hO) ((k' : Int) + 1)
                    rw [List.length_map] at this
                    exact this
                  exact ⟨⟨k' + 1 + 1, by omega, by go_num, (by rw [List.length_map]; exact hO2), hA.chg ((Chg.refl (One g) _).setCell _ fun _ => rfl) (fun e => by unfold One at e; omega), hC.setCell _ fun h => by simp at h; omega⟩, by simp [intOf]; omega⟩
          · obtain rfl : k = 256 := by omega
            go_wp2
            go_ret
            exact ⟨_, rfl, hO.lower (by omega), hC⟩
end Go.Proofs.YticipgjbgcdccaaDoor
namespace Go.Proofs.YticipgjbgcdccaaDoor
open Go.RowKit

/-- what a step of the reader that makes a pattern leaves -/
def TPost (res : PR Ex) (r : Nat) (s : ByteArray) (w : World) (e : Ending) (w' : World) : Prop :=
  match res with
  | .ok x j => ∃ A n c, e = .returned (.agg #[.int .i64 x.k, .int .i64 x.f, .int .i64 x.t, .int .i64 x.a, .int .i64 x.b, .slice A n c]) ∧ Sl w' (fun k => w.heap.size ≤ k) A n c x.l ∧ Rdr w' r s j ∧ Chg (One r) w w'
  | .bad c p => e = .panicked (flt c p) ∧ Chg (One r) w w'
theorem TPost.ok {res : PR Ex} {r : Nat} {s : ByteArray} {w w' : World} {e : Ending} {x : Ex} {j : Nat} {A : Option Addr} {n c : Nat} (h : res = .ok x j)
    (he : e = .returned (.agg #[.int .i64 x.k, .int .i64 x.f, .int .i64 x.t, .int .i64 x.a, .int .i64 x.b, .slice A n c])) (hs : Sl w' (fun k => w.heap.size ≤ k) A n c x.l) (hr : Rdr w' r s j) (hc : Chg (One r) w w') : TPost res r s w e w' := by
  subst h; exact ⟨A, n, c, he, hs, hr, hc⟩
theorem TPost.bad {res : PR Ex} {r : Nat} {s : ByteArray} {w w' : World} {e : Ending} {c : Int} {p : Nat} (h : res = .bad c p) (he : e = .panicked (flt c p)) (hc : Chg (One r) w w') : TPost res r s w e w' := by
  subst h; exact ⟨he, hc⟩

set_option maxHeartbeats 2000000 in
set_option maxRecDepth 100000 in
theorem class_any (w : World) (r : Nat) (s : ByteArray) (i : Nat) (h : Rdr w r s i) (hs : s.size ≤ 65536) (hi : i < s.size) :
    Calls Tryd.prog 131 #[.pointer (some ⟨r, 0, none⟩)] w fun e w' => TPost (classP s i) r s w e w' := by
  have hrlt := h.lt
  have h1 : Rdr (w.alloc (.cells #[.int .i64 0, .int .i64 0, .int .i64 0, .int .i64 0, .int .i64 0, .slice none 0 0] 25)) r s i := Blk.alloc h _
  have hc1 : Chg (One r) w (w.alloc (.cells #[.int .i64 0, .int .i64 0, .int .i64 0, .int .i64 0, .int .i64 0, .slice none 0 0] 25)) := (Chg.refl _ _).alloc _
  have hb1 := Blk.new w 25 #[.int .i64 0, .int .i64 0, .int .i64 0, .int .i64 0, .int .i64 0, .slice none 0 0]
  have c0 := h.c0
  have c1 := h.c1
  have f1 := h.f1
  have hst := h1.step
  go_enter Tryd.func131, Tryd.ntmps131
  obtain ⟨nt, hnt⟩ : ∃ nt : Bool, decide (bt s (i + 1) = 94) = nt := ⟨_, rfl⟩
  obtain ⟨st, hst2⟩ : ∃ st : Nat, (if bt s (i + 1) = 94 then i + 2 else i + 1) = st := ⟨_, rfl⟩
  have hfin : classP s i = (classGo s i nt (s.size + 1) [] st).bind fun l j => classEnd i nt l j := by unfold classP; rw [hnt, hst2]
  have hst3 : st ≤ s.size := by
    rw [← hst2]; split
    · rename_i e
      rcases Nat.lt_or_ge (i + 1) s.size with q | q
      · omega
      · rw [bt_end s _ q] at e; omega
    · omega
  have HNT := Lib.hid hnt; clear hnt
  have HST := Lib.hid hst2; clear hst2
  have HF := Lib.hid hfin; clear hfin
  go_upto_region 3 with fail
  go_cut [4] (fun s4 wx => IsV s4 (.bool nt) ∧ Rdr wx r s st ∧ Blk wx w.heap.size 25 #[.int .i64 0, .int .i64 0, .int .i64 0, .int .i64 0, .int .i64 0, .slice none 0 0] ∧ Chg (One r) w wx)
  case first =>
    go_wp2_with fail
    have hr2 : Rdr ((w.setCell ⟨r, 1, none⟩ (.int .i64 ((i : Int) + 1))).alloc (.cells #[.int .i64 0, .int .i64 0, .int .i64 0, .int .i64 0, .int .i64 0, .slice none 0 0] 25)) r s (i + 1) := Blk.alloc h.step _
    have hc2 : Chg (One r) w ((w.setCell ⟨r, 1, none⟩ (.int .i64 ((i : Int) + 1))).alloc (.cells #[.int .i64 0, .int .i64 0, .int .i64 0, .int .i64 0, .int .i64 0, .slice none 0 0] 25)) := by
      refine Chg.alloc (Chg.setCell (Chg.refl _ _) _ fun _ => ?_) _; rfl
    have hb2 : Blk ((w.setCell ⟨r, 1, none⟩ (.int .i64 ((i : Int) + 1))).alloc (.cells #[.int .i64 0, .int .i64 0, .int .i64 0, .int .i64 0, .int .i64 0, .slice none 0 0] 25)) w.heap.size 25 #[.int .i64 0, .int .i64 0, .int .i64 0, .int .i64 0, .int .i64 0, .slice none 0 0] := by
      have := Blk.new (w.setCell ⟨r, 1, none⟩ (.int .i64 ((i : Int) + 1))) 25 #[.int .i64 0, .int .i64 0, .int .i64 0, .int .i64 0, .int .i64 0, .slice none 0 0]
      simpa [World.setCell] using this
    have hnt := HNT.out
    have hst2 := HST.out
    by_cases q : bt s (i + 1) = 94
    · rw [if_pos q] at hst2
      have hq : nt = true := by rw [← hnt]; simpa using q
      subst hq hst2
      have hT := took_yes _ r s (i + 1) 94 hr2 hs q (by omega)
      clear q hnt
      refine hT.mono ?_
      rintro e w2 ⟨rfl, hr3, hc3⟩
      go_wp2_with fail
      go_meet
      exact ⟨rfl, hr3, hb2.chg hc3 (fun e => by unfold One at e; omega), hc2.trans hc3⟩
    · rw [if_neg q] at hst2
      have hq : nt = false := by rw [← hnt]; simpa using q
      subst hq hst2
      have hT := took_no _ r s (i + 1) 94 hr2 q (by omega)
      clear q hnt
      refine hT.mono ?_
      rintro e w2 ⟨rfl, n2, rfl⟩
      go_wp2_with fail
      go_meet
      exact ⟨rfl, hr2.drewN _, hb2.drewN _, hc2.drewN _⟩
  case rest =>
    obtain ⟨h4, hr, hb, hC⟩ := hcut
    unfold IsV at h4; subst h4
    have hbn := hC.size
    clear hst hb1 hc1 h1 h c0 c1 f1
    go_wp2
    go_loopw [5] (fun v5 wr => ∃ (l : List (Nat × Nat)) (k m : Nat), Own wr (w.heap.size + 1) v5 (l.map rg) ∧ k ≤ s.size ∧ s.size < k + m ∧ l.length ≤ k ∧ (∀ p ∈ l, p.1 ≤ p.2 ∧ p.2 < 256) ∧ classGo s i nt m l k = classGo s i nt (s.size + 1) [] st ∧
        Rdr wr r s k ∧ Blk wr w.heap.size 25 #[.int .i64 0, .int .i64 0, .int .i64 0, .int .i64 0, .int .i64 0, .slice none 0 0] ∧ Chg (One r) w wr) (fun _ wr => match wr.cell? ⟨r, 1, none⟩ with | some (.int _ x) => s.size + 1 - x.toNat | _ => 0)
    case atStart => exact ⟨[], st, s.size + 1, Own.nil _ _, hst3, by omega, by simp, by simp, rfl, hr, hb, hC⟩
    case round =>
      obtain ⟨l, k, m, hO, hk, hm, hlk, hlp, hg, hr, hb, hC⟩ := hrel
      have HG := Lib.hid hg; clear hg
      have hml := hr.c1
      obtain ⟨m, rfl⟩ : ∃ m', m = m' + 1 := ⟨m - 1, by omega⟩
      cases l with
      | nil =>
        have hgo : classGo s i nt (m + 1) [] k = (oneP s (!nt) k).bind fun a j =>
            if s.size ≤ j then .bad 23 s.size else if bt s j = 45 then (oneP s false (j + 1)).bind fun b j2 => if b < a then .bad 22 i else classGo s i nt m ([] ++ [(a, b)]) j2
              else classGo s i nt m ([] ++ [(a, a)]) j := by
          conv => lhs; unfold classGo
          simp
        obtain ⟨A, c, rfl, _⟩ := hO.form
        go_wp2_with fail
        refine (one_any _ _ s (!nt) k (by first | exact hr | exact hr.drewN _) hs).mono ?_
        intro e w2 hp
        cases hq : oneP s (!nt) k with
        | bad x p =>
          rw [hq] at hp hgo
          rw [PR.bind_bad] at hgo
          obtain ⟨rfl, hc2⟩ := hp
          exact ⟨rfl, TPost.bad (HF.out.trans (by rw [← HG.out, hgo]; rfl)) rfl (hC.trans hc2)⟩
        | ok x j =>
          rw [hq] at hp hgo
          rw [PR.bind_ok] at hgo
          obtain ⟨rfl, hr2, hc2⟩ := hp
          obtain ⟨o1, o2, o3⟩ := oneP_ok _ _ _ _ _ hq
          have hC2 : Chg (One r) w w2 := hC.trans hc2
          have hO2 := hO.chg hc2 fun q hq => by unfold One; omega
          have hb2 := hb.chg hc2 fun e => by unfold One at e; omega
          clear hq hc2
          go_wp2_with fail
          refine (single_any x _ o3).mono ?_
          rintro e w3 ⟨rfl, hc3⟩
          have hx3 := Blk.new w3 25 #[.int .i64 1, .int .i64 (x : Int), .int .i64 (x : Int), .int .i64 0, .int .i64 0, .slice none 0 0]
          have hg3 : w.heap.size < w3.heap.size := Nat.lt_of_lt_of_le hb2.lt hc3.size
          have hc4 : Chg No w2 (w3.alloc (.cells #[.int .i64 1, .int .i64 (x : Int), .int .i64 (x : Int), .int .i64 0, .int .i64 0, .slice none 0 0] 25)) := hc3.alloc _
          have hr4 := hr2.chg hc4 id
          have hb4 := hb2.chg hc4 id
          have h24 : Chg (One r) w2 (w3.alloc (.cells #[.int .i64 1, .int .i64 (x : Int), .int .i64 (x : Int), .int .i64 0, .int .i64 0, .slice none 0 0] 25)) := hc4.one r
          have hno : ∀ g, w.heap.size ≤ g → ¬ One r g := fun g hg => by unfold One; omega
          have h23 := hc3.size
          have hC4 := hC2.trans (hc4.one r)
          have hg2 := hb2.lt
          have hlt2 := hO2.lt
          clear hr2 hb2 hC2 hc4 hc3
          by_cases he : s.size ≤ j
          · rw [if_pos he] at hgo
            go_wp2_with fail
            refine (must_no _ _ s _ hr4 he).mono ?_
            rintro e w5 ⟨rfl, n5, rfl⟩
            exact ⟨rfl, TPost.bad (HF.out.trans (by rw [← HG.out, hgo]; rfl)) rfl (hC4.drewN _)⟩
          rw [if_neg he] at hgo
          go_wp2_with fail
          refine (must_ok _ _ s _ hr4 (by omega)).mono ?_
          rintro e w5 ⟨rfl, n5, rfl⟩
          have hx0 := hx3.cell 0
          have hx1 := hx3.cell 1
          have hx2 := hx3.cell 2
          have hx4 := hx3.cell 3
          have hx5 := hx3.cell 4
          have hx6 := hx3.cell 5
          simp only [List.getElem?_toArray, List.getElem?_cons_zero, List.getElem?_cons_succ] at hx0 hx1 hx2 hx4 hx5 hx6
          by_cases h45 : bt s j = 45
          · rw [if_pos h45] at hgo
            have hT := took_yes _ r s j 45 (hr4.drewN n5) hs h45 (by omega)
            clear h45
            go_wp2_with fail
            refine hT.mono ?_
            rintro e w6 ⟨rfl, hr6, hc6⟩
            clear hT
            go_wp2_with fail
            refine (one_any _ _ s false (j + 1) hr6 hs).mono ?_
            intro e w7 hp7
            cases hq7 : oneP s false (j + 1) with
            | bad y p7 =>
              rw [hq7] at hp7 hgo
              rw [PR.bind_bad] at hgo
              obtain ⟨rfl, hc7⟩ := hp7
              exact ⟨rfl, TPost.bad (HF.out.trans (by rw [← HG.out, hgo]; rfl)) rfl (((hC4.drewN _).trans hc6).trans hc7)⟩
            | ok y j7 =>
              rw [hq7] at hp7 hgo
              rw [PR.bind_ok] at hgo
              obtain ⟨rfl, hr7, hc7⟩ := hp7
              obtain ⟨q1, q2, q3⟩ := oneP_ok _ _ _ _ _ hq7
              have hC7 := ((hC4.drewN n5).trans hc6).trans hc7
              have h27 := ((h24.drewN n5).trans hc6).trans hc7
              have hz7 := h27.size
              have hb7 := ((hb4.drewN n5).chg hc6 (hno _ (Nat.le_refl _))).chg hc7 (hno _ (Nat.le_refl _))
              have hx7 := ((hx3.drewN n5).chg hc6 (hno _ (by omega))).chg hc7 (hno _ (by omega))
              have z0 := hx7.cell 0
              have z1 := hx7.cell 1
              have z2 := hx7.cell 2
              have z3 := hx7.cell 3
              have z4 := hx7.cell 4
              have z5 := hx7.cell 5
              have zf := hx7.frozen 2
              simp only [List.getElem?_toArray, List.getElem?_cons_zero, List.getElem?_cons_succ] at z0 z1 z2 z3 z4 z5
              clear hq7 hc7 hc6
              by_cases hba : y < x
              · rw [if_pos hba] at hgo
                have hba' : (y : Int) < (x : Int) := by omega
                have HGO := Lib.hid hgo; clear hgo
                go_wp2_with (go_at_call 43; refine (wrong_any _ i).mono ?_; rintro e w8 ⟨rfl, rfl⟩)
                exact ⟨rfl, TPost.bad (HF.out.trans (by rw [← HG.out, HGO.out]; rfl)) rfl (hC7.setCell _ fun h => by simp at h; omega)⟩
              · rw [if_neg hba] at hgo
                have hba' : ¬ (y : Int) < (x : Int) := by omega
                have HGO := Lib.hid hgo; clear hgo
                have h28 : Chg (One r) w2 ((w7.setCell ⟨w3.heap.size, 2, none⟩ (.int .i64 (y : Int)))) := h27.setCell _ fun h => by simp at h; omega
                go_wp2_with (at_builtin; go_must (refine wpList_append_ex rfl _ _ rfl (w.heap.size + 1) _ _ rfl (hO2.chg (h28.alloc _) fun g hg => hno g (by omega)) _ 1 (rg (x, y)) none 0 0 rfl (Blk.new' (by first | rfl | (simp; done))) ⟨rfl, Nat.le_refl _, by omega, fun h => absurd rfl h⟩ (by first | omega | (simp; omega) | (simp; done)) (by first | omega | (simp; omega) | (simp; done)) ?_; intro v' w8 hO' hg hat))
                have h78 : Chg (fun q => q = w3.heap.size ∨ some q = _) w7 w8 := (((Chg.refl _ _).setCell _ fun _ => .inl rfl).alloc _).then_ (Chg.of_grown (S := fun q => some q = _) hg fun q e _ => e.symm) fun q _ e => .inr e
                have hr8 := hr7.chg h78 fun h => by
                  rcases h with h | h
                  · omega
                  · have := (hlt2 _ h.symm).1; omega
                have hb8 := hb7.chg h78 fun h => by
                  rcases h with h | h
                  · omega
                  · have := (hlt2 _ h.symm).1; omega
                have hC8 := hC7.then_ h78 fun q hq h => by
                  rcases h with h | h
                  · omega
                  · have := (hlt2 _ h.symm).1; omega
                have hm8 := hr8.c1
                refine ⟨⟨[] ++ [(x, y)], j7, m, by rw [List.map_append]; exact hO', by omega, by omega, by simp at hlk ⊢; omega, ?_, by rw [← HG.out, HGO.out], hr8, hb8, hC8⟩, ?_⟩
                · intro q hq
                  rcases List.mem_append.1 hq with hq | hq
                  · exact hlp q hq
                  · simp only [List.mem_singleton] at hq; subst hq; exact ⟨by dsimp only; omega, by dsimp only; omega⟩
                · simp only [hm8, hml]; omega
          · rw [if_neg h45] at hgo
            have hT := took_no _ r s j 45 (hr4.drewN n5) h45 (by omega)
            clear h45
            have HGO := Lib.hid hgo; clear hgo
            go_wp2_with (first | (go_at_call 71; refine hT.mono ?_; rintro e w6 ⟨rfl, n6, rfl⟩) | (at_builtin; refine wpList_append_ex rfl _ _ rfl (w.heap.size + 1) _ _ rfl (hO2.chg ((h24.drewN _).alloc _) fun g hg => hno g (by omega)) _ 1 (rg (x, x)) none 0 0 rfl (Blk.new' (by first | rfl | (simp; done))) ⟨rfl, Nat.le_refl _, by omega, fun h => absurd rfl h⟩ (by first | omega | (simp; omega) | (simp; done)) (by first | omega | (simp; omega) | (simp; done)) ?_; intro v' w7 hO' hg hat))
            have h78 : Chg (fun q => q = w3.heap.size ∨ some q = _) (w3.alloc (.cells #[.int .i64 1, .int .i64 (x : Int), .int .i64 (x : Int), .int .i64 0, .int .i64 0, .slice none 0 0] 25)) w7 := (((Chg.refl _ _).drewN _).alloc _).then_ (Chg.of_grown (S := fun q => some q = _) hg fun q e _ => e.symm) fun q _ e => .inr e
            have hr8 := hr4.chg h78 fun h => by
              rcases h with h | h
              · omega
              · have := (hlt2 _ h.symm).1; omega
            have hb8 := hb4.chg h78 fun h => by
              rcases h with h | h
              · omega
              · have := (hlt2 _ h.symm).1; omega
            have hC8 := hC4.then_ h78 fun q hq h => by
              rcases h with h | h
              · omega
              · have := (hlt2 _ h.symm).1; omega
            have hm8 := hr8.c1
            refine ⟨⟨[] ++ [(x, x)], j, m, by rw [List.map_append]; exact hO', by omega, by omega, by simp at hlk ⊢; omega, ?_, by rw [← HG.out, HGO.out], hr8, hb8, hC8⟩, ?_⟩
            · intro q hq
              rcases List.mem_append.1 hq with hq | hq
              · exact hlp q hq
              · simp only [List.mem_singleton] at hq; subst hq; exact ⟨by dsimp only; omega, by dsimp only; omega⟩
            · simp only [hm8, hml]; omega
      | cons p0 l' =>
        obtain ⟨A, c, rfl, hSl⟩ := hO.form
        simp only [List.length_map, List.length_cons] at hO hSl
        have hlk2 : l'.length + 1 ≤ k := by simpa using hlk
        by_cases hke : s.size ≤ k
        · have hgo : classGo s i nt (m + 1) (p0 :: l') k = .bad 23 s.size := by unfold classGo; rw [if_pos ⟨by simp, hke⟩]
          have HGO := Lib.hid hgo; clear hgo
          go_wp2_with fail
          refine (must_no _ _ s k hr hke).mono ?_
          rintro e w0 ⟨rfl, n0, rfl⟩
          exact ⟨rfl, TPost.bad (HF.out.trans (by rw [← HG.out, HGO.out]; rfl)) rfl (hC.drewN _)⟩
        by_cases h93 : bt s k = 93
        · have hgo : classGo s i nt (m + 1) (p0 :: l') k = .ok (p0 :: l') k := by unfold classGo; rw [if_neg (fun h => hke h.2), if_pos ⟨by simp, h93⟩]
          have b93 : ((bt s k : Int) != 93) = false := by simp; omega
          have hfin : classP s i = classEnd i nt (p0 :: l') k := by rw [HF.out, ← HG.out, hgo]; rfl
          have HFF := Lib.hid hfin; clear hfin hgo HF HG h93
          have hf1 := hr.f1
          go_wp2_with fail
          refine (must_ok _ _ s k hr (by omega)).mono ?_
          rintro e w0 ⟨rfl, n0, rfl⟩
          have hr6 := (hr.drewN n0).step
          have hc6 : Chg (One r) w ((wr.drewN n0).setCell ⟨r, 1, none⟩ (.int .i64 ((k : Int) + 1))) := (hC.drewN n0).setCell _ fun _ => rfl
          have hb6 := (hb.drewN n0).far (p := ⟨r, 1, none⟩) (show w.heap.size ≠ r by omega) (.int .i64 ((k : Int) + 1))
          have hO6 := (hO.chg ((Chg.refl No _).drewN n0) fun _ _ h => h).chg ((Chg.refl (One r) _).setCell (p := ⟨r, 1, none⟩) (.int .i64 ((k : Int) + 1)) fun _ => rfl) fun g hg => by unfold One; omega
          have hlb := hb.lt
          cases nt with
          | true =>
            obtain ⟨A6, c6, q1, hS6⟩ := hO6.form
            injection q1 with q3 q4 q5
            subst q3 q5
            clear q4
            simp only [List.length_map, List.length_cons] at hS6
            go_wp2_with fail
            refine (others_any _ _ _ _ (p0 :: l') _ hS6 hlp (by simp; omega)).mono ?_
            rintro e w7 ⟨v7, rfl, hO7', hc7⟩
            have hO7 := hO7'.lower (base' := w.heap.size + 1) (by simp [World.setCell]; omega)
            have hr7 := hr6.chg hc7 id
            have hb7 := hb6.chg hc7 id
            have hC7 := hc6.trans (hc7.one r)
            clear hO7' hO6 hO hS6 hSl hr hb hr6 hb6 hc7 hc6 hC
            have hln := othersTo_len (namedP (p0 :: l')) 256
            cases ho : othersP (p0 :: l') with
            | nil =>
              rw [ho] at hO7
              have hfin : classP s i = .bad 22 i := by rw [HFF.out]; unfold classEnd; rw [if_pos rfl, ho, if_pos rfl]
              have HG := Lib.hid hfin; clear hfin ho
              obtain ⟨A7, c7, rfl, hS7⟩ := hO7.form
              go_wp2_with (go_at_call 43; refine (wrong_any _ i).mono ?_; rintro e w8 ⟨rfl, rfl⟩)
              exact ⟨rfl, TPost.bad HG.out rfl hC7⟩
            | cons p7 l7 =>
              rw [ho] at hO7
              have hl7 : l7.length ≤ 256 := by unfold othersP at ho; rw [ho] at hln; simp at hln; omega
              have hfin : classP s i = .ok (eitherR (p7 :: l7)) (k + 1) := by rw [HFF.out]; unfold classEnd; simp only [if_true, ho]; rw [if_neg (by simp)]
              have HG := Lib.hid hfin; clear hfin ho hln
              obtain ⟨A7, c7, rfl, hS7⟩ := hO7.form
              simp only [List.length_map, List.length_cons] at hO7 hS7
              cases l7 with
              | nil =>
                obtain ⟨g, o, A', c', rfl, _, y0, y1, y2, y3, y4, y5, hy⟩ := hS7.at_ 0 (by simp)
                simp only [List.map_cons, List.getElem_cons_zero, Nat.zero_mul, Nat.add_zero] at y0 y1 y2 y3 y4 y5 hy
                go_wp2_with (refine wpList_store_ex rfl _ _ rfl _ _ _ _ _ _ _ hb7 rfl _ _ _ _ _ _ _ _ rfl ?_; intro wz hbz hcz)
                refine bodyPost_ret_ex rfl rfl rfl hbz (TPost.ok HG.out rfl ?_ ?_ ?_)
                · exact ⟨rfl, hy.2.1, hy.2.2.1, fun h => absurd rfl h⟩
                · exact hr7.chg hcz fun e => by unfold One at e; omega
                · exact hC7.then_ hcz fun q hq e => by unfold One at e; omega
              | cons p8 l7 =>
                go_wp2_with (refine wpList_store_ex rfl _ _ rfl _ _ _ _ _ _ _ hb7 rfl _ _ _ _ _ _ _ _ rfl ?_; intro wz hbz hcz)
                refine bodyPost_ret_ex rfl rfl rfl hbz (TPost.ok HG.out rfl ?_ ?_ ?_)
                · obtain ⟨A2, c2, q1, q2⟩ := (hO7.chg hcz fun g hg e => by unfold One at e; omega).form
                  injection q1 with q3 q4 q5
                  subst q3 q5
                  simp only [List.length_map, List.length_cons] at q2
                  exact q2.mono fun g hg => by omega
                · exact hr7.chg hcz fun e => by unfold One at e; omega
                · exact hC7.then_ hcz fun q hq e => by unfold One at e; omega
          | false =>
            have hfin : classP s i = .ok (eitherR (p0 :: l')) (k + 1) := by rw [HFF.out]; unfold classEnd; rw [if_neg (by simp)]; rfl
            have HG := Lib.hid hfin; clear hfin
            cases l' with
            | nil =>
              obtain ⟨g, o, A', c', rfl, _, y0, y1, y2, y3, y4, y5, hy⟩ := hSl.at_ 0 (by simp)
              simp only [List.map_cons, List.getElem_cons_zero, Nat.zero_mul, Nat.add_zero] at y0 y1 y2 y3 y4 y5 hy
              go_wp2_with (refine wpList_store_ex rfl _ _ rfl _ _ _ _ _ _ _ hb6 rfl _ _ _ _ _ _ _ _ rfl ?_; intro wz hbz hcz)
              refine bodyPost_ret_ex rfl rfl rfl hbz (TPost.ok HG.out rfl ?_ ?_ ?_)
              · exact ⟨rfl, hy.2.1, hy.2.2.1, fun h => absurd rfl h⟩
              · exact hr6.chg hcz fun e => by unfold One at e; omega
              · exact hc6.then_ hcz fun q hq e => by unfold One at e; omega
            | cons p1 l' =>
              go_wp2_with (refine wpList_store_ex rfl _ _ rfl _ _ _ _ _ _ _ hb6 rfl _ _ _ _ _ _ _ _ rfl ?_; intro wz hbz hcz)
              refine bodyPost_ret_ex rfl rfl rfl hbz (TPost.ok HG.out rfl ?_ ?_ ?_)
              · obtain ⟨A2, c2, q1, q2⟩ := (hO6.chg hcz fun g hg e => by unfold One at e; omega).form
                injection q1 with q3 q4 q5
                subst q3 q5
                simp only [List.length_map, List.length_cons] at q2
                exact q2.mono fun g hg => by omega
              · exact hr6.chg hcz fun e => by unfold One at e; omega
              · exact hc6.then_ hcz fun q hq e => by unfold One at e; omega
        have hgo : classGo s i nt (m + 1) (p0 :: l') k = (oneP s false k).bind fun a j =>
            if s.size ≤ j then .bad 23 s.size else if bt s j = 45 then (oneP s false (j + 1)).bind fun b j2 => if b < a then .bad 22 i else classGo s i nt m ((p0 :: l') ++ [(a, b)]) j2
              else classGo s i nt m ((p0 :: l') ++ [(a, a)]) j := by
          conv => lhs; unfold classGo
          rw [if_neg (fun h => hke h.2), if_neg (fun h => h93 h.2)]; rfl
        have b93 : ((bt s k : Int) != 93) = true := by simp; omega
        go_wp2_with fail
        refine (must_ok _ _ s k hr (by omega)).mono ?_
        rintro e w0 ⟨rfl, n0, rfl⟩
        clear h93
        go_wp2_with fail
        refine (one_any _ _ s false k (by first | exact hr | exact hr.drewN _) hs).mono ?_
        intro e w2 hp
        cases hq : oneP s false k with
        | bad x p =>
          rw [hq] at hp hgo
          rw [PR.bind_bad] at hgo
          obtain ⟨rfl, hc2⟩ := hp
          exact ⟨rfl, TPost.bad (HF.out.trans (by rw [← HG.out, hgo]; rfl)) rfl ((hC.drewN n0).trans hc2)⟩
        | ok x j =>
          rw [hq] at hp hgo
          rw [PR.bind_ok] at hgo
          obtain ⟨rfl, hr2, hc2⟩ := hp
          obtain ⟨o1, o2, o3⟩ := oneP_ok _ _ _ _ _ hq
          have hC2 : Chg (One r) w w2 := (hC.drewN n0).trans hc2
          have hO2 := (hO.chg ((Chg.refl No _).drewN n0) fun _ _ h => h).chg hc2 fun q hq => by unfold One; omega
          have hb2 := (hb.drewN n0).chg hc2 fun e => by unfold One at e; omega
          clear hq hc2
          go_wp2_with fail
          refine (single_any x _ o3).mono ?_
          rintro e w3 ⟨rfl, hc3⟩
          have hx3 := Blk.new w3 25 #[.int .i64 1, .int .i64 (x : Int), .int .i64 (x : Int), .int .i64 0, .int .i64 0, .slice none 0 0]
          have hg3 : w.heap.size < w3.heap.size := Nat.lt_of_lt_of_le hb2.lt hc3.size
          have hc4 : Chg No w2 (w3.alloc (.cells #[.int .i64 1, .int .i64 (x : Int), .int .i64 (x : Int), .int .i64 0, .int .i64 0, .slice none 0 0] 25)) := hc3.alloc _
          have hr4 := hr2.chg hc4 id
          have hb4 := hb2.chg hc4 id
          have h24 : Chg (One r) w2 (w3.alloc (.cells #[.int .i64 1, .int .i64 (x : Int), .int .i64 (x : Int), .int .i64 0, .int .i64 0, .slice none 0 0] 25)) := hc4.one r
          have hno : ∀ g, w.heap.size ≤ g → ¬ One r g := fun g hg => by unfold One; omega
          have h23 := hc3.size
          have hC4 := hC2.trans (hc4.one r)
          have hg2 := hb2.lt
          have hlt2 := hO2.lt
          clear hr2 hb2 hC2 hc4 hc3
          by_cases he : s.size ≤ j
          · rw [if_pos he] at hgo
            go_wp2_with fail
            refine (must_no _ _ s _ hr4 he).mono ?_
            rintro e w5 ⟨rfl, n5, rfl⟩
            exact ⟨rfl, TPost.bad (HF.out.trans (by rw [← HG.out, hgo]; rfl)) rfl (hC4.drewN _)⟩
          rw [if_neg he] at hgo
          go_wp2_with fail
          refine (must_ok _ _ s _ hr4 (by omega)).mono ?_
          rintro e w5 ⟨rfl, n5, rfl⟩
          have hx0 := hx3.cell 0
          have hx1 := hx3.cell 1
          have hx2 := hx3.cell 2
          have hx4 := hx3.cell 3
          have hx5 := hx3.cell 4
          have hx6 := hx3.cell 5
          simp only [List.getElem?_toArray, List.getElem?_cons_zero, List.getElem?_cons_succ] at hx0 hx1 hx2 hx4 hx5 hx6
          by_cases h45 : bt s j = 45
          · rw [if_pos h45] at hgo
            have hT := took_yes _ r s j 45 (hr4.drewN n5) hs h45 (by omega)
            clear h45
            go_wp2_with fail
            refine hT.mono ?_
            rintro e w6 ⟨rfl, hr6, hc6⟩
            clear hT
            go_wp2_with fail
            refine (one_any _ _ s false (j + 1) hr6 hs).mono ?_
            intro e w7 hp7
            cases hq7 : oneP s false (j + 1) with
            | bad y p7 =>
              rw [hq7] at hp7 hgo
              rw [PR.bind_bad] at hgo
              obtain ⟨rfl, hc7⟩ := hp7
              exact ⟨rfl, TPost.bad (HF.out.trans (by rw [← HG.out, hgo]; rfl)) rfl (((hC4.drewN _).trans hc6).trans hc7)⟩
            | ok y j7 =>
              rw [hq7] at hp7 hgo
              rw [PR.bind_ok] at hgo
              obtain ⟨rfl, hr7, hc7⟩ := hp7
              obtain ⟨q1, q2, q3⟩ := oneP_ok _ _ _ _ _ hq7
              have hC7 := ((hC4.drewN n5).trans hc6).trans hc7
              have h27 := ((h24.drewN n5).trans hc6).trans hc7
              have hz7 := h27.size
              have hb7 := ((hb4.drewN n5).chg hc6 (hno _ (Nat.le_refl _))).chg hc7 (hno _ (Nat.le_refl _))
              have hx7 := ((hx3.drewN n5).chg hc6 (hno _ (by omega))).chg hc7 (hno _ (by omega))
              have z0 := hx7.cell 0
              have z1 := hx7.cell 1
              have z2 := hx7.cell 2
              have z3 := hx7.cell 3
              have z4 := hx7.cell 4
              have z5 := hx7.cell 5
              have zf := hx7.frozen 2
              simp only [List.getElem?_toArray, List.getElem?_cons_zero, List.getElem?_cons_succ] at z0 z1 z2 z3 z4 z5
              clear hq7 hc7 hc6
              by_cases hba : y < x
              · rw [if_pos hba] at hgo
                have hba' : (y : Int) < (x : Int) := by omega
                have HGO := Lib.hid hgo; clear hgo
                go_wp2_with (go_at_call 43; refine (wrong_any _ i).mono ?_; rintro e w8 ⟨rfl, rfl⟩)
                exact ⟨rfl, TPost.bad (HF.out.trans (by rw [← HG.out, HGO.out]; rfl)) rfl (hC7.setCell _ fun h => by simp at h; omega)⟩
              · rw [if_neg hba] at hgo
                have hba' : ¬ (y : Int) < (x : Int) := by omega
                have HGO := Lib.hid hgo; clear hgo
                have h28 : Chg (One r) w2 ((w7.setCell ⟨w3.heap.size, 2, none⟩ (.int .i64 (y : Int)))) := h27.setCell _ fun h => by simp at h; omega
                go_wp2_with (at_builtin; go_must (refine wpList_append_ex rfl _ _ rfl (w.heap.size + 1) _ _ rfl (hO2.chg (h28.alloc _) fun g hg => hno g (by omega)) _ 1 (rg (x, y)) none 0 0 rfl (Blk.new' (by first | rfl | (simp; done))) ⟨rfl, Nat.le_refl _, by omega, fun h => absurd rfl h⟩ (by first | omega | (simp; omega) | (simp; done)) (by first | omega | (simp; omega) | (simp; done)) ?_; intro v' w8 hO' hg hat))
                have h78 : Chg (fun q => q = w3.heap.size ∨ some q = _) w7 w8 := (((Chg.refl _ _).setCell _ fun _ => .inl rfl).alloc _).then_ (Chg.of_grown (S := fun q => some q = _) hg fun q e _ => e.symm) fun q _ e => .inr e
                have hr8 := hr7.chg h78 fun h => by
                  rcases h with h | h
                  · omega
                  · have := (hlt2 _ h.symm).1; omega
                have hb8 := hb7.chg h78 fun h => by
                  rcases h with h | h
                  · omega
                  · have := (hlt2 _ h.symm).1; omega
                have hC8 := hC7.then_ h78 fun q hq h => by
                  rcases h with h | h
                  · omega
                  · have := (hlt2 _ h.symm).1; omega
                have hm8 := hr8.c1
                refine ⟨⟨(p0 :: l') ++ [(x, y)], j7, m, by rw [List.map_append]; exact hO', by omega, by omega, by simp at hlk ⊢; omega, ?_, by rw [← HG.out, HGO.out], hr8, hb8, hC8⟩, ?_⟩
                · intro q hq
                  rcases List.mem_append.1 hq with hq | hq
                  · exact hlp q hq
                  · simp only [List.mem_singleton] at hq; subst hq; exact ⟨by dsimp only; omega, by dsimp only; omega⟩
                · simp only [hm8, hml]; omega
          · rw [if_neg h45] at hgo
            have hT := took_no _ r s j 45 (hr4.drewN n5) h45 (by omega)
            clear h45
            have HGO := Lib.hid hgo; clear hgo
            go_wp2_with (first | (go_at_call 71; refine hT.mono ?_; rintro e w6 ⟨rfl, n6, rfl⟩) | (at_builtin; refine wpList_append_ex rfl _ _ rfl (w.heap.size + 1) _ _ rfl (hO2.chg ((h24.drewN _).alloc _) fun g hg => hno g (by omega)) _ 1 (rg (x, x)) none 0 0 rfl (Blk.new' (by first | rfl | (simp; done))) ⟨rfl, Nat.le_refl _, by omega, fun h => absurd rfl h⟩ (by first | omega | (simp; omega) | (simp; done)) (by first | omega | (simp; omega) | (simp; done)) ?_; intro v' w7 hO' hg hat))
            have h78 : Chg (fun q => q = w3.heap.size ∨ some q = _) (w3.alloc (.cells #[.int .i64 1, .int .i64 (x : Int), .int .i64 (x : Int), .int .i64 0, .int .i64 0, .slice none 0 0] 25)) w7 := (((Chg.refl _ _).drewN _).alloc _).then_ (Chg.of_grown (S := fun q => some q = _) hg fun q e _ => e.symm) fun q _ e => .inr e
            have hr8 := hr4.chg h78 fun h => by
              rcases h with h | h
              · omega
              · have := (hlt2 _ h.symm).1; omega
            have hb8 := hb4.chg h78 fun h => by
              rcases h with h | h
              · omega
              · have := (hlt2 _ h.symm).1; omega
            have hC8 := hC4.then_ h78 fun q hq h => by
              rcases h with h | h
              · omega
              · have := (hlt2 _ h.symm).1; omega
            have hm8 := hr8.c1
            refine ⟨⟨(p0 :: l') ++ [(x, x)], j, m, by rw [List.map_append]; exact hO', by omega, by omega, by simp at hlk ⊢; omega, ?_, by rw [← HG.out, HGO.out], hr8, hb8, hC8⟩, ?_⟩
            · intro q hq
              rcases List.mem_append.1 hq with hq | hq
              · exact hlp q hq
              · simp only [List.mem_singleton] at hq; subst hq; exact ⟨by dsimp only; omega, by dsimp only; omega⟩
            · simp only [hm8, hml]; omega
end Go.Proofs.YticipgjbgcdccaaDoor
namespace Go.Proofs.YticipgjbgcdccaaDoor
open Go.RowKit

/-- what a step of the reader that makes a pattern leaves; its lists lie from block B on -/
def TPostB (B : Nat) (res : PR Ex) (r : Nat) (s : ByteArray) (w : World) (e : Ending) (w' : World) : Prop :=
  match res with
  | .ok x j => ∃ A n c, e = .returned (.agg #[.int .i64 x.k, .int .i64 x.f, .int .i64 x.t, .int .i64 x.a, .int .i64 x.b, .slice A n c]) ∧ Sl w' (fun k => B ≤ k) A n c x.l ∧ Rdr w' r s j ∧ Chg (One r) w w'
  | .bad c p => e = .panicked (flt c p) ∧ Chg (One r) w w'
theorem TPostB.ok {B : Nat} {res : PR Ex} {r : Nat} {s : ByteArray} {w w' : World} {e : Ending} {x : Ex} {j : Nat} {A : Option Addr} {n c : Nat} (h : res = .ok x j)
    (he : e = .returned (.agg #[.int .i64 x.k, .int .i64 x.f, .int .i64 x.t, .int .i64 x.a, .int .i64 x.b, .slice A n c])) (hs : Sl w' (fun k => B ≤ k) A n c x.l) (hr : Rdr w' r s j) (hc : Chg (One r) w w') : TPostB B res r s w e w' := by
  subst h; exact ⟨A, n, c, he, hs, hr, hc⟩
theorem TPostB.bad {B : Nat} {res : PR Ex} {r : Nat} {s : ByteArray} {w w' : World} {e : Ending} {c : Int} {p : Nat} (h : res = .bad c p) (he : e = .panicked (flt c p)) (hc : Chg (One r) w w') : TPostB B res r s w e w' := by
  subst h; exact ⟨he, hc⟩

/-- how far the reader still has to go -/
def rdMeas (r n : Nat) (w : World) : Nat := match w.cell? ⟨r, 1, none⟩ with | some (.int _ x) => n + 1 - x.toNat | _ => 0
theorem rdMeas_eq {w : World} {r : Nat} {s : ByteArray} {i : Nat} (h : Rdr w r s i) : rdMeas r s.size w = s.size + 1 - i := by
  have := h.c1
  unfold rdMeas; rw [this]; simp

/-- what a round of times has made -/
def TimesInv (w : World) (r B : Nat) (s : ByteArray) (x : Ex) (i : Nat) (wr : World) : Prop :=
  ∃ (y : Ex) (A : Option Addr) (n c j m : Nat), Blk wr w.heap.size 25 #[.int .i64 y.k, .int .i64 y.f, .int .i64 y.t, .int .i64 y.a, .int .i64 y.b, .slice A n c] ∧ Sl wr (fun k => B ≤ k ∧ k ≠ w.heap.size ∧ k ≠ w.heap.size + 1) A n c y.l ∧
      Rdr wr r s j ∧ timesGo s m y j = timesGo s (s.size + 1) x i ∧ s.size < j + m ∧ j ≤ s.size ∧ Blk wr (w.heap.size + 1) 25 #[.int .i64 0, .int .i64 0, .int .i64 0, .int .i64 0, .int .i64 0, .slice none 0 0] ∧ Chg (One r) w wr

theorem TimesInv.next {w wr w3 wz : World} {r B : Nat} {s : ByteArray} {x y : Ex} {i j' m : Nat} {A : Option Addr} {n c : Nat} {a b : Int} (hrB : r < B) (hB : B ≤ w.heap.size)
    (hbe : Blk wr w.heap.size 25 #[.int .i64 y.k, .int .i64 y.f, .int .i64 y.t, .int .i64 y.a, .int .i64 y.b, .slice A n c]) (hsl : Sl wr (fun k => B ≤ k ∧ k ≠ w.heap.size ∧ k ≠ w.heap.size + 1) A n c y.l) (hbr : Blk wr (w.heap.size + 1) 25 #[.int .i64 0, .int .i64 0, .int .i64 0, .int .i64 0, .int .i64 0, .slice none 0 0]) (hC : Chg (One r) w wr)
    (hc3 : Chg (fun k => k = r ∨ k = wr.heap.size + 1) ((wr.alloc (.cells #[.int .i64 y.k, .int .i64 y.f, .int .i64 y.t, .int .i64 y.a, .int .i64 y.b, .slice A n c] 25)).alloc (.cells #[.int .i64 4, .int .i64 0, .int .i64 0, .int .i64 0, .int .i64 0, .slice (some ⟨wr.heap.size, 0, none⟩) 1 1] 25)) w3) (hcz : Chg (One w.heap.size) w3 wz) (hbz : Blk wz w.heap.size 25 #[.int .i64 4, .int .i64 0, .int .i64 0, .int .i64 a, .int .i64 b, .slice (some ⟨wr.heap.size, 0, none⟩) 1 1])
    (hr3 : Rdr w3 r s j') (ht : timesGo s m (repEx a b y) j' = timesGo s (s.size + 1) x i) (hm : s.size < j' + m) (hj : j' ≤ s.size) : TimesInv w r B s x i wz := by
  have hl1 := hbe.lt
  have hl2 := hbr.lt
  have h1 := Sl.one (y := y) hsl (show B ≤ wr.heap.size ∧ wr.heap.size ≠ w.heap.size ∧ wr.heap.size ≠ w.heap.size + 1 by omega)
  have hc1 : Chg (fun k => k = r ∨ k = wr.heap.size + 1 ∨ k = w.heap.size) (wr.alloc (.cells #[.int .i64 y.k, .int .i64 y.f, .int .i64 y.t, .int .i64 y.a, .int .i64 y.b, .slice A n c] 25)) wz :=
    (((Chg.refl _ _).alloc _).then_ hc3 fun k _ h => h.elim .inl fun h => .inr (.inl h)).then_ hcz fun k _ h => .inr (.inr h)
  refine ⟨repEx a b y, _, 1, 1, j', m, hbz, h1.chgb hc1 fun k hk hz h => ?_, hr3.chg hcz fun e => ?_, ht, hm, hj, ?_, ?_⟩
  · simp at hz; omega
  · unfold One at e; omega
  · exact ((hbr.alloc _).alloc _).chg hc3 (by omega) |>.chg hcz fun e => by unfold One at e; omega
  · exact (((hC.alloc _).alloc _).then_ hc3 fun k hk h => by unfold One; omega).then_ hcz fun k hk h => by unfold One at h; omega

set_option maxHeartbeats 2000000 in
set_option maxRecDepth 100000 in
theorem times_any (w : World) (r : Nat) (s : ByteArray) (i : Nat) (h : Rdr w r s i) (hs : s.size ≤ 65536) (hi : i ≤ s.size) (x : Ex) (A : Option Addr) (n c : Nat) (B : Nat) (hB : B ≤ w.heap.size) (hrB : r < B) (hx : Sl w (fun k => B ≤ k) A n c x.l) :
    Calls Tryd.prog 105 #[.pointer (some ⟨r, 0, none⟩), .agg #[.int .i64 x.k, .int .i64 x.f, .int .i64 x.t, .int .i64 x.a, .int .i64 x.b, .slice A n c]] w fun e w' => TPostB B (timesGo s (s.size + 1) x i) r s w e w' := by
  have hI : TimesInv w r B s x i ((w.alloc (.cells #[.int .i64 x.k, .int .i64 x.f, .int .i64 x.t, .int .i64 x.a, .int .i64 x.b, .slice A n c] 25)).alloc (.cells #[.int .i64 0, .int .i64 0, .int .i64 0, .int .i64 0, .int .i64 0, .slice none 0 0] 25)) := by
    refine ⟨x, A, n, c, i, s.size + 1, (Blk.new _ _ _).alloc _, ?_, Blk.alloc (Blk.alloc h _) _, rfl, by omega, hi, Blk.new' (by simp), ((Chg.refl _ _).alloc _).alloc _⟩
    refine (hx.keep (S' := fun k => B ≤ k ∧ k ≠ w.heap.size ∧ k ≠ w.heap.size + 1) (fun _ _ _ => rfl) (fun k hk hz => ?_) (Nat.le_refl _)).alloc _ |>.alloc _
    omega
  go_enter Tryd.func105, Tryd.ntmps105
  go_wp2_with fail
  go_loopw [] (fun wr => TimesInv w r B s x i wr) (fun wr => rdMeas r s.size wr)
  case atStart => exact hI
  case round =>
    clear hI hx h
    obtain ⟨y, A, n, c, j, m, hbe, hsl, hr, hg, hm, hj, hbr, hC⟩ := hrel
    have hl1 := hbe.lt
    have hl2 := hbr.lt
    have hml := Lib.hid (rdMeas_eq hr)
    have rc1 := hr.c1
    obtain ⟨m, rfl⟩ : ∃ m', m = m' + 1 := ⟨m - 1, by omega⟩
    have y0 := hbe.cell 0
    have y1 := hbe.cell 1
    have y2 := hbe.cell 2
    have y3 := hbe.cell 3
    have y4 := hbe.cell 4
    have y5 := hbe.cell 5
    simp only [List.getElem?_toArray, List.getElem?_cons_zero, List.getElem?_cons_succ] at y0 y1 y2 y3 y4 y5
    have hr2 : Rdr ((wr.alloc (.cells #[.int .i64 y.k, .int .i64 y.f, .int .i64 y.t, .int .i64 y.a, .int .i64 y.b, .slice A n c] 25)).alloc (.cells #[.int .i64 4, .int .i64 0, .int .i64 0, .int .i64 0, .int .i64 0, .slice (some ⟨wr.heap.size, 0, none⟩) 1 1] 25)) r s j := Blk.alloc (Blk.alloc hr _) _
    have hbx : Blk ((wr.alloc (.cells #[.int .i64 y.k, .int .i64 y.f, .int .i64 y.t, .int .i64 y.a, .int .i64 y.b, .slice A n c] 25)).alloc (.cells #[.int .i64 4, .int .i64 0, .int .i64 0, .int .i64 0, .int .i64 0, .slice (some ⟨wr.heap.size, 0, none⟩) 1 1] 25)) (wr.heap.size + 1) 25 #[.int .i64 4, .int .i64 0, .int .i64 0, .int .i64 0, .int .i64 0, .slice (some ⟨wr.heap.size, 0, none⟩) 1 1] := Blk.new' (by simp)
    have hbe2 : Blk ((wr.alloc (.cells #[.int .i64 y.k, .int .i64 y.f, .int .i64 y.t, .int .i64 y.a, .int .i64 y.b, .slice A n c] 25)).alloc (.cells #[.int .i64 4, .int .i64 0, .int .i64 0, .int .i64 0, .int .i64 0, .slice (some ⟨wr.heap.size, 0, none⟩) 1 1] 25)) w.heap.size 25 #[.int .i64 y.k, .int .i64 y.f, .int .i64 y.t, .int .i64 y.a, .int .i64 y.b, .slice A n c] := (hbe.alloc _).alloc _
    have hC2 : Chg (One r) w ((wr.alloc (.cells #[.int .i64 y.k, .int .i64 y.f, .int .i64 y.t, .int .i64 y.a, .int .i64 y.b, .slice A n c] 25)).alloc (.cells #[.int .i64 4, .int .i64 0, .int .i64 0, .int .i64 0, .int .i64 0, .slice (some ⟨wr.heap.size, 0, none⟩) 1 1] 25)) := (hC.alloc _).alloc _
    have hrw : r < wr.heap.size := by omega
    by_cases q42 : bt s j = 42
    · rw [show timesGo s (m + 1) y j = timesGo s m (repEx 0 (-1) y) (j + 1) by
        conv => lhs; unfold timesGo
        rw [if_pos q42]] at hg
      have HG := Lib.hid hg; clear hg
      have hY := fun nd : Nat => took_yes (((wr.alloc (.cells #[.int .i64 y.k, .int .i64 y.f, .int .i64 y.t, .int .i64 y.a, .int .i64 y.b, .slice A n c] 25)).alloc (.cells #[.int .i64 4, .int .i64 0, .int .i64 0, .int .i64 0, .int .i64 0, .slice (some ⟨wr.heap.size, 0, none⟩) 1 1] 25)).drewN nd) r s j 42 (hr2.drewN nd) hs q42 (by omega)
      have hjs := bt_size s j _ q42 (by omega)
      clear q42
      go_wp2_with fail
      refine (hY 0).mono ?_
      rintro e w3 ⟨rfl, hr3, hc3⟩
      have hc4 : Chg (One r) ((wr.alloc (.cells #[.int .i64 y.k, .int .i64 y.f, .int .i64 y.t, .int .i64 y.a, .int .i64 y.b, .slice A n c] 25)).alloc (.cells #[.int .i64 4, .int .i64 0, .int .i64 0, .int .i64 0, .int .i64 0, .slice (some ⟨wr.heap.size, 0, none⟩) 1 1] 25)) w3 := ((Chg.refl _ _).drewN _).trans hc3
      have hno : ∀ g, w.heap.size ≤ g → ¬ One r g := fun g hg => by unfold One; omega
      have hbx3 := hbx.chg hc4 (hno _ (by omega))
      have hbe3 := hbe2.chg hc4 (hno _ (by omega))
      have z0 := hbx3.cell 0
      have z1 := hbx3.cell 1
      have z2 := hbx3.cell 2
      have z3 := hbx3.cell 3
      have z4 := hbx3.cell 4
      have z5 := hbx3.cell 5
      have zf3 := hbx3.frozen 3
      have zf4 := hbx3.frozen 4
      simp only [List.getElem?_toArray, List.getElem?_cons_zero, List.getElem?_cons_succ] at z0 z1 z2 z3 z4 z5
      go_wp2_with (refine wpList_store_ex rfl _ _ rfl _ _ _ _ _ _ _ (hbe3.far (p := ⟨wr.heap.size + 1, 4, none⟩) (by dsimp only; omega) (.int .i64 (-1))) rfl _ _ _ _ _ _ _ _ rfl ?_; intro wz hbz hcz)
      have hI := TimesInv.next hrB hB hbe hsl hbr hC ((hc4.mono fun _ _ q => .inl q).setCell _ fun _ => .inr rfl) hcz hbz (Blk.far hr3 (p := ⟨wr.heap.size + 1, 4, none⟩) (by dsimp only; omega) (.int .i64 (-1))) HG.out (by omega) (by omega)
      have hm2 := rdMeas_eq (i := j + 1) (Blk.chg (Blk.far hr3 (p := ⟨wr.heap.size + 1, 4, none⟩) (by dsimp only; omega) (.int .i64 (-1))) hcz fun e => by unfold One at e; omega)
      refine ⟨by first | exact hI | ((repeat apply Exists.intro); exact ⟨hI, rfl⟩), ?_⟩
      show rdMeas r s.size wz < rdMeas r s.size wr
      rw [hm2, hml.out]; omega
    by_cases q43 : bt s j = 43
    · rw [show timesGo s (m + 1) y j = timesGo s m (repEx 1 (-1) y) (j + 1) by
        conv => lhs; unfold timesGo
        rw [if_neg q42, if_pos q43]] at hg
      have HG := Lib.hid hg; clear hg
      have hN42 := fun nd : Nat => took_no (((wr.alloc (.cells #[.int .i64 y.k, .int .i64 y.f, .int .i64 y.t, .int .i64 y.a, .int .i64 y.b, .slice A n c] 25)).alloc (.cells #[.int .i64 4, .int .i64 0, .int .i64 0, .int .i64 0, .int .i64 0, .slice (some ⟨wr.heap.size, 0, none⟩) 1 1] 25)).drewN nd) r s j 42 (hr2.drewN nd) q42 (by omega)
      have hY := fun nd : Nat => took_yes (((wr.alloc (.cells #[.int .i64 y.k, .int .i64 y.f, .int .i64 y.t, .int .i64 y.a, .int .i64 y.b, .slice A n c] 25)).alloc (.cells #[.int .i64 4, .int .i64 0, .int .i64 0, .int .i64 0, .int .i64 0, .slice (some ⟨wr.heap.size, 0, none⟩) 1 1] 25)).drewN nd) r s j 43 (hr2.drewN nd) hs q43 (by omega)
      have hjs := bt_size s j _ q43 (by omega)
      clear q42 q43
      go_wp2_with fail
      refine (hN42 0).mono ?_
      rintro e w4 ⟨rfl, nd0, rfl⟩
      go_wp2_with fail
      refine (hY _).mono ?_
      rintro e w3 ⟨rfl, hr3, hc3⟩
      have hc4 : Chg (One r) ((wr.alloc (.cells #[.int .i64 y.k, .int .i64 y.f, .int .i64 y.t, .int .i64 y.a, .int .i64 y.b, .slice A n c] 25)).alloc (.cells #[.int .i64 4, .int .i64 0, .int .i64 0, .int .i64 0, .int .i64 0, .slice (some ⟨wr.heap.size, 0, none⟩) 1 1] 25)) w3 := ((Chg.refl _ _).drewN _).trans hc3
      have hno : ∀ g, w.heap.size ≤ g → ¬ One r g := fun g hg => by unfold One; omega
      have hbx3 := hbx.chg hc4 (hno _ (by omega))
      have hbe3 := hbe2.chg hc4 (hno _ (by omega))
      have z0 := hbx3.cell 0
      have z1 := hbx3.cell 1
      have z2 := hbx3.cell 2
      have z3 := hbx3.cell 3
      have z4 := hbx3.cell 4
      have z5 := hbx3.cell 5
      have zf3 := hbx3.frozen 3
      have zf4 := hbx3.frozen 4
      simp only [List.getElem?_toArray, List.getElem?_cons_zero, List.getElem?_cons_succ] at z0 z1 z2 z3 z4 z5
      go_wp2_with (refine wpList_store_ex rfl _ _ rfl _ _ _ _ _ _ _ ((hbe3.far (p := ⟨wr.heap.size + 1, 3, none⟩) (by dsimp only; omega) (.int .i64 1)).far (p := ⟨wr.heap.size + 1, 4, none⟩) (by dsimp only; omega) (.int .i64 (-1))) rfl _ _ _ _ _ _ _ _ rfl ?_; intro wz hbz hcz)
      have hI := TimesInv.next hrB hB hbe hsl hbr hC (((hc4.mono fun _ _ q => .inl q).setCell _ fun _ => .inr rfl).setCell _ fun _ => .inr rfl) hcz hbz (Blk.far (Blk.far hr3 (p := ⟨wr.heap.size + 1, 3, none⟩) (by dsimp only; omega) (.int .i64 1)) (p := ⟨wr.heap.size + 1, 4, none⟩) (by dsimp only; omega) (.int .i64 (-1))) HG.out (by omega) (by omega)
      have hm2 := rdMeas_eq (i := j + 1) (Blk.chg (Blk.far (Blk.far hr3 (p := ⟨wr.heap.size + 1, 3, none⟩) (by dsimp only; omega) (.int .i64 1)) (p := ⟨wr.heap.size + 1, 4, none⟩) (by dsimp only; omega) (.int .i64 (-1))) hcz fun e => by unfold One at e; omega)
      refine ⟨by first | exact hI | ((repeat apply Exists.intro); exact ⟨hI, rfl⟩), ?_⟩
      show rdMeas r s.size wz < rdMeas r s.size wr
      rw [hm2, hml.out]; omega
    by_cases q63 : bt s j = 63
    · rw [show timesGo s (m + 1) y j = timesGo s m (repEx 0 1 y) (j + 1) by
        conv => lhs; unfold timesGo
        rw [if_neg q42, if_neg q43, if_pos q63]] at hg
      have HG := Lib.hid hg; clear hg
      have hN42 := fun nd : Nat => took_no (((wr.alloc (.cells #[.int .i64 y.k, .int .i64 y.f, .int .i64 y.t, .int .i64 y.a, .int .i64 y.b, .slice A n c] 25)).alloc (.cells #[.int .i64 4, .int .i64 0, .int .i64 0, .int .i64 0, .int .i64 0, .slice (some ⟨wr.heap.size, 0, none⟩) 1 1] 25)).drewN nd) r s j 42 (hr2.drewN nd) q42 (by omega)
      have hN43 := fun nd : Nat => took_no (((wr.alloc (.cells #[.int .i64 y.k, .int .i64 y.f, .int .i64 y.t, .int .i64 y.a, .int .i64 y.b, .slice A n c] 25)).alloc (.cells #[.int .i64 4, .int .i64 0, .int .i64 0, .int .i64 0, .int .i64 0, .slice (some ⟨wr.heap.size, 0, none⟩) 1 1] 25)).drewN nd) r s j 43 (hr2.drewN nd) q43 (by omega)
      have hY := fun nd : Nat => took_yes (((wr.alloc (.cells #[.int .i64 y.k, .int .i64 y.f, .int .i64 y.t, .int .i64 y.a, .int .i64 y.b, .slice A n c] 25)).alloc (.cells #[.int .i64 4, .int .i64 0, .int .i64 0, .int .i64 0, .int .i64 0, .slice (some ⟨wr.heap.size, 0, none⟩) 1 1] 25)).drewN nd) r s j 63 (hr2.drewN nd) hs q63 (by omega)
      have hjs := bt_size s j _ q63 (by omega)
      clear q42 q43 q63
      go_wp2_with fail
      refine (hN42 0).mono ?_
      rintro e w4 ⟨rfl, nd0, rfl⟩
      go_wp2_with fail
      refine (hN43 _).mono ?_
      rintro e w4 ⟨rfl, nd1, rfl⟩
      go_wp2_with fail
      refine (hY _).mono ?_
      rintro e w3 ⟨rfl, hr3, hc3⟩
      have hc4 : Chg (One r) ((wr.alloc (.cells #[.int .i64 y.k, .int .i64 y.f, .int .i64 y.t, .int .i64 y.a, .int .i64 y.b, .slice A n c] 25)).alloc (.cells #[.int .i64 4, .int .i64 0, .int .i64 0, .int .i64 0, .int .i64 0, .slice (some ⟨wr.heap.size, 0, none⟩) 1 1] 25)) w3 := ((Chg.refl _ _).drewN _).trans hc3
      have hno : ∀ g, w.heap.size ≤ g → ¬ One r g := fun g hg => by unfold One; omega
      have hbx3 := hbx.chg hc4 (hno _ (by omega))
      have hbe3 := hbe2.chg hc4 (hno _ (by omega))
      have z0 := hbx3.cell 0
      have z1 := hbx3.cell 1
      have z2 := hbx3.cell 2
      have z3 := hbx3.cell 3
      have z4 := hbx3.cell 4
      have z5 := hbx3.cell 5
      have zf3 := hbx3.frozen 3
      have zf4 := hbx3.frozen 4
      simp only [List.getElem?_toArray, List.getElem?_cons_zero, List.getElem?_cons_succ] at z0 z1 z2 z3 z4 z5
      go_wp2_with (refine wpList_store_ex rfl _ _ rfl _ _ _ _ _ _ _ (hbe3.far (p := ⟨wr.heap.size + 1, 4, none⟩) (by dsimp only; omega) (.int .i64 1)) rfl _ _ _ _ _ _ _ _ rfl ?_; intro wz hbz hcz)
      have hI := TimesInv.next hrB hB hbe hsl hbr hC ((hc4.mono fun _ _ q => .inl q).setCell _ fun _ => .inr rfl) hcz hbz (Blk.far hr3 (p := ⟨wr.heap.size + 1, 4, none⟩) (by dsimp only; omega) (.int .i64 1)) HG.out (by omega) (by omega)
      have hm2 := rdMeas_eq (i := j + 1) (Blk.chg (Blk.far hr3 (p := ⟨wr.heap.size + 1, 4, none⟩) (by dsimp only; omega) (.int .i64 1)) hcz fun e => by unfold One at e; omega)
      refine ⟨by first | exact hI | ((repeat apply Exists.intro); exact ⟨hI, rfl⟩), ?_⟩
      show rdMeas r s.size wz < rdMeas r s.size wr
      rw [hm2, hml.out]; omega
    by_cases q123 : bt s j = 123
    · rw [show timesGo s (m + 1) y j = (bracesP s j).bind fun p j => timesGo s m (repEx p.1 p.2 y) j by
        conv => lhs; unfold timesGo
        rw [if_neg q42, if_neg q43, if_neg q63, if_pos q123]] at hg
      have HG := Lib.hid hg; clear hg
      have hN42 := fun nd : Nat => took_no (((wr.alloc (.cells #[.int .i64 y.k, .int .i64 y.f, .int .i64 y.t, .int .i64 y.a, .int .i64 y.b, .slice A n c] 25)).alloc (.cells #[.int .i64 4, .int .i64 0, .int .i64 0, .int .i64 0, .int .i64 0, .slice (some ⟨wr.heap.size, 0, none⟩) 1 1] 25)).drewN nd) r s j 42 (hr2.drewN nd) q42 (by omega)
      have hN43 := fun nd : Nat => took_no (((wr.alloc (.cells #[.int .i64 y.k, .int .i64 y.f, .int .i64 y.t, .int .i64 y.a, .int .i64 y.b, .slice A n c] 25)).alloc (.cells #[.int .i64 4, .int .i64 0, .int .i64 0, .int .i64 0, .int .i64 0, .slice (some ⟨wr.heap.size, 0, none⟩) 1 1] 25)).drewN nd) r s j 43 (hr2.drewN nd) q43 (by omega)
      have hN63 := fun nd : Nat => took_no (((wr.alloc (.cells #[.int .i64 y.k, .int .i64 y.f, .int .i64 y.t, .int .i64 y.a, .int .i64 y.b, .slice A n c] 25)).alloc (.cells #[.int .i64 4, .int .i64 0, .int .i64 0, .int .i64 0, .int .i64 0, .slice (some ⟨wr.heap.size, 0, none⟩) 1 1] 25)).drewN nd) r s j 63 (hr2.drewN nd) q63 (by omega)
      have hI3 := fun nd : Nat => is_any (((wr.alloc (.cells #[.int .i64 y.k, .int .i64 y.f, .int .i64 y.t, .int .i64 y.a, .int .i64 y.b, .slice A n c] 25)).alloc (.cells #[.int .i64 4, .int .i64 0, .int .i64 0, .int .i64 0, .int .i64 0, .slice (some ⟨wr.heap.size, 0, none⟩) 1 1] 25)).drewN nd) r s j 123 (hr2.drewN nd) true (by simpa using q123) (by omega)
      have hjs := bt_size s j _ q123 (by omega)
      clear q42 q43 q63 q123
      go_wp2_with fail
      refine (hN42 0).mono ?_
      rintro e w4 ⟨rfl, nd0, rfl⟩
      go_wp2_with fail
      refine (hN43 _).mono ?_
      rintro e w4 ⟨rfl, nd1, rfl⟩
      go_wp2_with fail
      refine (hN63 _).mono ?_
      rintro e w4 ⟨rfl, nd2, rfl⟩
      go_wp2_with fail
      refine (hI3 _).mono ?_
      rintro e w4 ⟨rfl, nd4, rfl⟩
      go_wp2_with fail
      refine (braces_any _ r s j (hr2.drewN _) hs hjs).mono ?_
      intro e w3 hp
      cases hq : bracesP s j with
      | bad a q =>
        rw [hq] at hp
        obtain ⟨rfl, hc3⟩ := hp
        exact ⟨rfl, TPostB.bad (by rw [← HG.out, hq]; rfl) rfl ((hC2.drewN _).trans hc3)⟩
      | ok p j2 =>
        rw [hq] at hp
        obtain ⟨rfl, hr3, hc3⟩ := hp
        have hj2 := bracesP_ok s j p j2 hjs hq
        have HG2 : Hid (timesGo s m (repEx p.1 p.2 y) j2 = timesGo s (s.size + 1) x i) := by rw [← HG.out, hq]; exact Lib.hid rfl
        clear hq HG
        have hc4 : Chg (One r) ((wr.alloc (.cells #[.int .i64 y.k, .int .i64 y.f, .int .i64 y.t, .int .i64 y.a, .int .i64 y.b, .slice A n c] 25)).alloc (.cells #[.int .i64 4, .int .i64 0, .int .i64 0, .int .i64 0, .int .i64 0, .slice (some ⟨wr.heap.size, 0, none⟩) 1 1] 25)) w3 := ((Chg.refl _ _).drewN _).trans hc3
        have hno : ∀ g, w.heap.size ≤ g → ¬ One r g := fun g hg => by unfold One; omega
        have hbx3 := hbx.chg hc4 (hno _ (by omega))
        have hbe3 := hbe2.chg hc4 (hno _ (by omega))
        have z0 := hbx3.cell 0
        have z1 := hbx3.cell 1
        have z2 := hbx3.cell 2
        have z3 := hbx3.cell 3
        have z4 := hbx3.cell 4
        have z5 := hbx3.cell 5
        have zf3 := hbx3.frozen 3
        have zf4 := hbx3.frozen 4
        simp only [List.getElem?_toArray, List.getElem?_cons_zero, List.getElem?_cons_succ] at z0 z1 z2 z3 z4 z5
        go_wp2_with (refine wpList_store_ex rfl _ _ rfl _ _ _ _ _ _ _ ((hbe3.far (p := ⟨wr.heap.size + 1, 3, none⟩) (by dsimp only; omega) (.int .i64 p.1)).far (p := ⟨wr.heap.size + 1, 4, none⟩) (by dsimp only; omega) (.int .i64 p.2)) rfl _ _ _ _ _ _ _ _ rfl ?_; intro wz hbz hcz)
        have hI := TimesInv.next hrB hB hbe hsl hbr hC (((hc4.mono fun _ _ q => .inl q).setCell _ fun _ => .inr rfl).setCell _ fun _ => .inr rfl) hcz hbz (Blk.far (Blk.far hr3 (p := ⟨wr.heap.size + 1, 3, none⟩) (by dsimp only; omega) (.int .i64 p.1)) (p := ⟨wr.heap.size + 1, 4, none⟩) (by dsimp only; omega) (.int .i64 p.2)) HG2.out (by omega) (by omega)
        have hm2 := rdMeas_eq (i := j2) (Blk.chg (Blk.far (Blk.far hr3 (p := ⟨wr.heap.size + 1, 3, none⟩) (by dsimp only; omega) (.int .i64 p.1)) (p := ⟨wr.heap.size + 1, 4, none⟩) (by dsimp only; omega) (.int .i64 p.2)) hcz fun e => by unfold One at e; omega)
        refine ⟨by first | exact hI | ((repeat apply Exists.intro); exact ⟨hI, rfl⟩), ?_⟩
        show rdMeas r s.size wz < rdMeas r s.size wr
        rw [hm2, hml.out]; omega
    · have hfin : timesGo s (s.size + 1) x i = .ok y j := by
        rw [← hg]; unfold timesGo
        rw [if_neg q42, if_neg q43, if_neg q63, if_neg q123]
      have HG := Lib.hid hfin; clear hfin hg
      have hN42 := fun nd : Nat => took_no (((wr.alloc (.cells #[.int .i64 y.k, .int .i64 y.f, .int .i64 y.t, .int .i64 y.a, .int .i64 y.b, .slice A n c] 25)).alloc (.cells #[.int .i64 4, .int .i64 0, .int .i64 0, .int .i64 0, .int .i64 0, .slice (some ⟨wr.heap.size, 0, none⟩) 1 1] 25)).drewN nd) r s j 42 (hr2.drewN nd) q42 (by omega)
      have hN43 := fun nd : Nat => took_no (((wr.alloc (.cells #[.int .i64 y.k, .int .i64 y.f, .int .i64 y.t, .int .i64 y.a, .int .i64 y.b, .slice A n c] 25)).alloc (.cells #[.int .i64 4, .int .i64 0, .int .i64 0, .int .i64 0, .int .i64 0, .slice (some ⟨wr.heap.size, 0, none⟩) 1 1] 25)).drewN nd) r s j 43 (hr2.drewN nd) q43 (by omega)
      have hN63 := fun nd : Nat => took_no (((wr.alloc (.cells #[.int .i64 y.k, .int .i64 y.f, .int .i64 y.t, .int .i64 y.a, .int .i64 y.b, .slice A n c] 25)).alloc (.cells #[.int .i64 4, .int .i64 0, .int .i64 0, .int .i64 0, .int .i64 0, .slice (some ⟨wr.heap.size, 0, none⟩) 1 1] 25)).drewN nd) r s j 63 (hr2.drewN nd) q63 (by omega)
      have hI3 := fun nd : Nat => is_any (((wr.alloc (.cells #[.int .i64 y.k, .int .i64 y.f, .int .i64 y.t, .int .i64 y.a, .int .i64 y.b, .slice A n c] 25)).alloc (.cells #[.int .i64 4, .int .i64 0, .int .i64 0, .int .i64 0, .int .i64 0, .slice (some ⟨wr.heap.size, 0, none⟩) 1 1] 25)).drewN nd) r s j 123 (hr2.drewN nd) false (by simpa using q123) (by omega)
      clear q42 q43 q63 q123
      go_wp2_with fail
      refine (hN42 0).mono ?_
      rintro e w4 ⟨rfl, nd0, rfl⟩
      go_wp2_with fail
      refine (hN43 _).mono ?_
      rintro e w4 ⟨rfl, nd1, rfl⟩
      go_wp2_with fail
      refine (hN63 _).mono ?_
      rintro e w4 ⟨rfl, nd2, rfl⟩
      go_wp2_with fail
      refine (hI3 _).mono ?_
      rintro e w4 ⟨rfl, nd4, rfl⟩
      have hbr2 : Blk ((wr.alloc (.cells #[.int .i64 y.k, .int .i64 y.f, .int .i64 y.t, .int .i64 y.a, .int .i64 y.b, .slice A n c] 25)).alloc (.cells #[.int .i64 4, .int .i64 0, .int .i64 0, .int .i64 0, .int .i64 0, .slice (some ⟨wr.heap.size, 0, none⟩) 1 1] 25)) (w.heap.size + 1) 25 #[.int .i64 0, .int .i64 0, .int .i64 0, .int .i64 0, .int .i64 0, .slice none 0 0] := (hbr.alloc _).alloc _
      go_wp2_with (refine wpList_store_ex rfl _ _ rfl _ _ _ _ _ _ _ (hbr2.drewN _) rfl _ _ _ _ _ _ _ _ rfl ?_; intro wz hbz hcz)
      have hc9 : Chg (One (w.heap.size + 1)) ((wr.alloc (.cells #[.int .i64 y.k, .int .i64 y.f, .int .i64 y.t, .int .i64 y.a, .int .i64 y.b, .slice A n c] 25)).alloc (.cells #[.int .i64 4, .int .i64 0, .int .i64 0, .int .i64 0, .int .i64 0, .slice (some ⟨wr.heap.size, 0, none⟩) 1 1] 25)) wz := ((Chg.refl _ _).drewN _).trans hcz
      refine bodyPost_ret_ex rfl rfl rfl hbz (TPostB.ok HG.out rfl ?_ ?_ ?_)
      · refine Sl.mono ((((hsl.alloc _).alloc _).chg hc9 fun k hk h => ?_)) fun k hk => hk.1
        unfold One at h; omega
      · exact hr2.chg hc9 fun e => by unfold One at e; omega
      · exact hC2.then_ hc9 fun q hq e => by unfold One at e; omega
end Go.Proofs.YticipgjbgcdccaaDoor
