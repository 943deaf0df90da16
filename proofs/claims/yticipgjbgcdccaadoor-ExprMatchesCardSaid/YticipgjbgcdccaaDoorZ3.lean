/- Package expr's reader: pattern, row, atom, by contracts. Condition: the text has at most 65536 bytes.
   Package expr's reader: atom, and the joint induction. Condition: the text has at most 65536 bytes.
   Package expr: walked, copies, positions, Check: what they compute in plain Lean, and their contracts.
   Package expr: copies, positions, Check: contracts.
   Package expr: Parse. -/
import Derived.Test.YticipgjbgcdccaaDoorZ2
import Derived.Test.YticipgjbgcdccaaDoorZ1
import Derived.Defers
import Derived.Recover
set_option linter.unusedSimpArgs false
set_option linter.unusedVariables false
namespace Go.Proofs.YticipgjbgcdccaaDoor
open Go.RowKit

def PatC (m : Nat) : Prop := ∀ (w : World) (r : Nat) (s : ByteArray) (i : Nat), Rdr w r s i → s.size ≤ 65536 → i ≤ s.size → 5 * (s.size - i) + 3 < m →
  Calls Tryd.prog 41 #[.pointer (some ⟨r, 0, none⟩)] w fun e w' => TPost (patGo s m [] i) r s w e w'
def RowC (m : Nat) : Prop := ∀ (w : World) (r : Nat) (s : ByteArray) (i : Nat), Rdr w r s i → s.size ≤ 65536 → i ≤ s.size → 5 * (s.size - i) + 2 < m →
  Calls Tryd.prog 70 #[.pointer (some ⟨r, 0, none⟩)] w fun e w' => TPost (rowGo s m [] i) r s w e w'
def AtomC (m : Nat) : Prop := ∀ (w : World) (r : Nat) (s : ByteArray) (i : Nat), Rdr w r s i → s.size ≤ 65536 → i < s.size → 5 * (s.size - i) + 1 < m →
  Calls Tryd.prog 106 #[.pointer (some ⟨r, 0, none⟩)] w fun e w' => TPost (atomP s m i) r s w e w'

/-- a list that is made in block ge; fin: what comes of the rest -/
def LInv (kind : Int) (m : Nat) (go : Nat → List Ex → Nat → PR Ex) (ok : List Ex → Nat → Nat → Prop) (w : World) (r : Nat) (s : ByteArray) (ge : Nat) (fin : PR Ex) (wr : World) : Prop :=
  ∃ (v : Value) (l : List Ex) (j m1 : Nat), Blk wr ge 25 #[.int .i64 kind, .int .i64 0, .int .i64 0, .int .i64 0, .int .i64 0, v] ∧ OwnS wr (fun k => w.heap.size < k ∧ k ≠ ge) v l ∧ Rdr wr r s j ∧ j ≤ s.size ∧ l.length ≤ j + 1 ∧
    go m1 l j = fin ∧ m1 ≤ m ∧ ok l j m1 ∧ Blk wr w.heap.size 25 #[.int .i64 0, .int .i64 0, .int .i64 0, .int .i64 0, .int .i64 0, .slice none 0 0] ∧ Chg (One r) w wr

/-- the next round: one value more -/
theorem LInv.next {kind : Int} {m : Nat} {go : Nat → List Ex → Nat → PR Ex} {ok : List Ex → Nat → Nat → Prop} {w w3 w5 : World} {r : Nat} {s : ByteArray} {ge : Nat} {fin : PR Ex} {v v' : Value} {l : List Ex} {x : Ex} {j m1 : Nat}
    (hge : w.heap.size < ge) (hrw : r < w.heap.size) (hv : ∀ k, v.ownBlock = some k → w.heap.size < k ∧ k ≠ ge)
    (hbe : Blk w3 ge 25 #[.int .i64 kind, .int .i64 0, .int .i64 0, .int .i64 0, .int .i64 0, v]) (hO : OwnS w5 (fun k => w.heap.size < k ∧ k ≠ ge) v' (l ++ [x])) (h35 : Chg (fun k => some k = v.ownBlock) w3 w5)
    (hr : Rdr w3 r s j) (hj : j ≤ s.size) (hl : l.length < j + 1) (hg : go m1 (l ++ [x]) j = fin) (hm : m1 ≤ m) (hok : ok (l ++ [x]) j m1) (hbr : Blk w3 w.heap.size 25 #[.int .i64 0, .int .i64 0, .int .i64 0, .int .i64 0, .int .i64 0, .slice none 0 0]) (hC : Chg (One r) w w3) :
    LInv kind m go ok w r s ge fin (w5.setCell ⟨ge, 5, none⟩ v') := by
  have hno : ∀ k, k ≤ w.heap.size ∨ k = ge → ¬ (fun k => some k = v.ownBlock) k := fun k hk h => by
    have := hv k h.symm
    omega
  refine ⟨v', l ++ [x], j, m1, (hbe.chg h35 (hno _ (.inr rfl))).set_ 5 v', ?_, ?_, hj, by simp; omega, hg, hm, hok, ?_, ?_⟩
  · exact hO.chg (T := One ge) ((Chg.refl _ _).setCell _ fun _ => rfl) fun k hk _ h => hk.2 h
  · exact Blk.far (hr.chg h35 (hno _ (.inl (by omega)))) (p := ⟨ge, 5, none⟩) (by dsimp only; omega) _
  · exact Blk.far (hbr.chg h35 (hno _ (.inl (Nat.le_refl _)))) (p := ⟨ge, 5, none⟩) (by dsimp only; omega) _
  · refine (hC.then_ h35 fun k hk h => (hno k (.inl (by omega)) h).elim).setCell _ fun h => ?_
    dsimp only at h; omega

/-- what pattern still does -/
def patTail (s : ByteArray) (m1 : Nat) (l : List Ex) (j : Nat) : PR Ex := if bt s j = 124 then patGo s m1 l (j + 1) else .ok (oneOr 3 l) j
def patOk (s : ByteArray) (l : List Ex) (j m1 : Nat) : Prop := l ≠ [] ∧ (bt s j = 124 → 5 * (s.size - (j + 1)) + 3 < m1)

set_option maxHeartbeats 2000000 in
set_option maxRecDepth 100000 in
theorem pattern_step (m : Nat) (hrow : ∀ k, k ≤ m → RowC k) : PatC (m + 1) := by
  intro w r s i h hs hi hm
  have hrlt := h.lt
  have h1 : Rdr (w.alloc (.cells #[.int .i64 0, .int .i64 0, .int .i64 0, .int .i64 0, .int .i64 0, .slice none 0 0] 25)) r s i := Blk.alloc h _
  have hb1 := Blk.new w 25 #[.int .i64 0, .int .i64 0, .int .i64 0, .int .i64 0, .int .i64 0, .slice none 0 0]
  go_enter Tryd.func41, Tryd.ntmps41
  go_wp2_with fail
  refine (hrow m (Nat.le_refl _) _ r s i h1 hs hi (by omega)).mono ?_
  intro e w1 hp
  have hfin : patGo s (m + 1) [] i = (rowGo s m [] i).bind fun x j => if bt s j = 124 then patGo s m ([] ++ [x]) (j + 1) else .ok (oneOr 3 ([] ++ [x])) j := by
    conv => lhs; unfold patGo
  cases hq : rowGo s m [] i with
  | bad c p =>
    rw [hq] at hp hfin
    obtain ⟨rfl, hc⟩ := hp
    exact ⟨rfl, TPost.bad hfin rfl (((Chg.refl _ _).alloc _).trans hc)⟩
  | ok x j =>
    rw [hq, PR.bind_ok, List.nil_append] at hfin
    rw [hq] at hp
    obtain ⟨A, n, c, rfl, hsl, hr, hc⟩ := hp
    have hj := (read_ok s m).2.1 _ _ _ _ hi hq
    have hz1 := hc.size
    simp only [World.size_alloc] at hz1 hsl
    have hI : LInv 3 m (patTail s) (patOk s) w r s (w1.heap.size + 1) (patGo s (m + 1) [] i) ((w1.alloc (.cells #[.int .i64 x.k, .int .i64 x.f, .int .i64 x.t, .int .i64 x.a, .int .i64 x.b, .slice A n c] 25)).alloc
        (.cells #[.int .i64 3, .int .i64 0, .int .i64 0, .int .i64 0, .int .i64 0, .slice (some ⟨w1.heap.size, 0, none⟩) 1 1] 25)) := by
      refine ⟨_, [x], j, m, Blk.new' (by simp), ?_, Blk.alloc (Blk.alloc hr _) _, by omega, by simp, hfin.symm, Nat.le_refl _, ⟨by simp, fun q => by have := bt_size s j _ q (by omega); omega⟩, ?_, ?_⟩
      · refine ((OwnS.one w1 x (S := fun k => w.heap.size < k ∧ k ≠ w1.heap.size + 1) (by omega) ?_).chgNo ((Chg.refl _ _).alloc _))
        exact hsl.keep (fun _ _ _ => rfl) (fun k hk hz => by omega) (Nat.le_refl _)
      · exact Blk.alloc (Blk.alloc (hb1.chg hc fun e => by unfold One at e; omega) _) _
      · exact ((((Chg.refl _ _).alloc _).trans hc).alloc _).alloc _
    obtain ⟨ge, hge⟩ : ∃ ge, w1.heap.size + 1 = ge := ⟨_, rfl⟩
    have hgw : w.heap.size < ge := by omega
    have HI := Lib.hid hI
    clear hfin hq hc hb1 h1 hI hsl hr hge
    go_wp2_with fail
    go_loopw [] (fun wr => LInv 3 m (patTail s) (patOk s) w r s (w1.heap.size + 1) (patGo s (m + 1) [] i) wr) (fun wr => rdMeas r s.size wr)
    case atStart => exact HI.out
    case round =>
      have hge1 : w.heap.size < w1.heap.size + 1 := by omega
      clear HI hgw
      obtain ⟨v, l, j, m1, hbe, hO, hr, hj, hlj, hg, hm1, hok, hbr, hC⟩ := hrel
      have HM := Lib.hid (rdMeas_eq hr)
      have hzb := hbe.lt
      have e0 := hbe.cell 0
      have e1 := hbe.cell 1
      have e2 := hbe.cell 2
      have e3 := hbe.cell 3
      have e4 := hbe.cell 4
      have e5 := hbe.cell 5
      have ef := hbe.frozen 5
      simp only [List.getElem?_toArray, List.getElem?_cons_zero, List.getElem?_cons_succ] at e0 e1 e2 e3 e4 e5
      by_cases q : bt s j = 124
      · unfold patTail at hg
        rw [if_pos q] at hg
        have hm2 := hok.2 q
        have hjs := bt_size s j _ q (by omega)
        obtain ⟨m1, rfl⟩ : ∃ m', m1 = m' + 1 := ⟨m1 - 1, by omega⟩
        have hg2 : (rowGo s m1 [] (j + 1)).bind (fun x j => patTail s m1 (l ++ [x]) j) = patGo s (m + 1) [] i := by
          rw [← hg]; conv => rhs; unfold patGo
          rfl
        have HG := Lib.hid hg2; clear hg hg2
        have hT := took_yes _ r s j 124 hr hs q (by omega)
        clear q hok
        go_wp2_with fail
        refine hT.mono ?_
        rintro e w2 ⟨rfl, hr2, hc2⟩
        have hno : ∀ k, w.heap.size ≤ k → ¬ One r k := fun k hk h => by unfold One at h; omega
        have hbe2 := hbe.chg hc2 (hno _ (by omega))
        have d5 := hbe2.cell 5
        simp only [List.getElem?_toArray, List.getElem?_cons_zero, List.getElem?_cons_succ] at d5
        have hzw := hc2.size
        go_wp2_with fail
        cases hq : rowGo s m1 [] (j + 1) with
        | bad c p =>
          have hfin2 : patGo s (m + 1) [] i = .bad c p := by rw [← HG.out, hq]; rfl
          have HX := Lib.hid hfin2; clear hfin2
          go_region_dies
          all_goals
            refine (hrow m1 (by omega) _ r s (j + 1) ?_ hs (by omega) (by omega)).mono ?_
            · exact hr2
            · intro e w3 hp
              rw [hq] at hp
              obtain ⟨rfl, hc3⟩ := hp
              exact ⟨rfl, TPost.bad HX.out rfl (((hC.trans hc2).drew).trans hc3)⟩
        | ok x j2 =>
          have hj2 := (read_ok s m1).2.1 _ _ _ _ (by omega) hq
          have HG2 : Hid (patTail s m1 (l ++ [x]) j2 = patGo s (m + 1) [] i) := by rw [← HG.out, hq]; exact Lib.hid rfl
          have HQ := Lib.hid hq
          clear hq HG
          have hOlt := hO.lt
          go_region_law (first | (refine step_append_exS (by rfl) _ _ (by rfl) (fun k => w.heap.size < k ∧ k ≠ w1.heap.size + 1) v l (by rfl) (hO3.chgNo ((Chg.refl _ _).alloc _)) _ 1 x A n c (by rfl) (Blk.new _ _ _) (hslS.alloc _) (by omega) (by simp; omega) ?_; intro v' w5 hO5 hgr hat; obtain ⟨A5, c5, rfl, hS5⟩ := hO5.form; have f5 := (hbe3c.chg (Chg.of_grown (S := fun q => some q = v.ownBlock) hgr fun q e _ => e.symm) fun e => (hOlt _ e.symm).1.2 rfl); have f50 := f5.cell 5; have f51 := f5.frozen 5; simp only [List.getElem?_toArray, List.getElem?_cons_zero, List.getElem?_cons_succ] at f50) | (go_simp; go_at_call 70; refine (hrow m1 (by omega) _ r s (j + 1) ?_ hs (by omega) (by omega)).mono ?_; exact hr2; intro e w3 hp; rw [HQ.out] at hp; obtain ⟨A, n, c, rfl, hsl, hr3, hc3'⟩ := hp; have hc3 : Chg (One r) w2 w3 := ((Chg.refl _ _).drew).trans hc3'; have hz3 := hc3.size; have hO3 := hO.chg (hc2.trans hc3) fun k hk _ => hno k (by omega); have hbe3 := hbe2.chg hc3 (hno _ (by omega)); have d0 := hbe3.cell 0; have d6 := hbe3.cell 5; have df := hbe3.frozen 5; simp only [List.getElem?_toArray, List.getElem?_cons_zero, List.getElem?_cons_succ] at d0 d6; have hslS : Sl w3 (fun k => (w.heap.size < k ∧ k ≠ w1.heap.size + 1) ∧ some k ≠ v.ownBlock) A n c x.l := hsl.keep (fun _ _ _ => rfl) (fun k hk hz => ⟨by simp at hk; omega, fun e => by have := (hOlt k e.symm).2; simp at hk; omega⟩) (Nat.le_refl _); have hbe3c := (hbe3.alloc (.cells #[.int .i64 x.k, .int .i64 x.f, .int .i64 x.t, .int .i64 x.a, .int .i64 x.b, .slice A n c] 25)); have d7 := hbe3c.cell 5; simp only [List.getElem?_toArray, List.getElem?_cons_zero, List.getElem?_cons_succ] at d7))
          all_goals
            have h35 : Chg (fun q => some q = v.ownBlock) w3 w5 := ((Chg.refl _ _).alloc _).then_ (Chg.of_grown (S := fun q => some q = v.ownBlock) hgr fun q e _ => e.symm) fun q _ e => e
            have hI := LInv.next (go := patTail s) (ok := patOk s) (m := m) (fin := patGo s (m + 1) [] i) hge1 hrlt (fun k hk => (hOlt k hk).1) hbe3 hO5 h35 hr3 hj2.2 (by omega) HG2.out (by omega)
              ⟨by simp, fun q => by have := bt_size s j2 _ q (by omega); omega⟩ ((hbr.chg hc2 (hno _ (Nat.le_refl _))).chg hc3 (hno _ (Nat.le_refl _))) ((hC.trans hc2).trans hc3)
            have hr6 : Rdr (w5.setCell ⟨w1.heap.size + 1, 5, none⟩ (.slice A5 (l ++ [x]).length c5)) r s j2 :=
              Blk.far (hr3.chg h35 fun e => by have := (hOlt _ e.symm).1; omega) (p := ⟨w1.heap.size + 1, 5, none⟩) (by dsimp only; omega) _
            simp only [List.length_append, List.length_cons, List.length_nil, Nat.zero_add] at hI hr6
            go_wp2
            refine ⟨by first | exact hI | ((repeat apply Exists.intro); exact ⟨hI, rfl⟩), ?_⟩
            show rdMeas r s.size _ < rdMeas r s.size wr
            rw [rdMeas_eq hr6, HM.out]; omega
      · unfold patTail at hg
        rw [if_neg q] at hg
        have HF := Lib.hid hg.symm; clear hg
        have hT := took_no _ r s j 124 hr q (by omega)
        have hne := hok.1
        clear q hok
        obtain ⟨A, c, rfl, hS⟩ := hO.form
        cases l with
        | nil => exact absurd rfl hne
        | cons x l =>
          clear hne
          simp only [List.length_cons] at hS hbe e5
          cases l with
          | nil =>
            simp only [List.length_nil, Nat.zero_add] at hS hbe e5
            obtain ⟨g, o, A', c', rfl, hgS, y0, y1, y2, y3, y4, y5, hy⟩ := hS.at_ 0 (by simp)
            simp only [List.getElem_cons_zero, Nat.zero_mul, Nat.add_zero] at y0 y1 y2 y3 y4 y5 hy
            go_wp2_with fail
            refine hT.mono ?_
            rintro e w2 ⟨rfl, nd, rfl⟩
            go_wp2_with (refine wpList_store_ex rfl _ _ rfl _ _ _ _ _ _ _ (by first | exact hbr | exact hbr.drewN _) rfl _ _ _ _ _ _ _ _ rfl ?_; intro wz hbz hcz)
            refine bodyPost_ret_ex rfl rfl rfl hbz (TPost.ok HF.out rfl ?_ ?_ ?_)
            · refine Sl.mono (hy.chg ((Chg.refl No _).drewN _ |>.trans (Chg.refl No _) |>.mono (S' := One w.heap.size) (fun _ _ h => h.elim) |>.trans hcz) fun k hk h => ?_) fun k hk => by omega
              unfold One at h; omega
            · exact (hr.drewN _).chg hcz fun e => by unfold One at e; omega
            · exact (hC.drewN _).then_ hcz fun q hq e => by unfold One at e; omega
          | cons x2 l =>
            go_wp2_with fail
            refine hT.mono ?_
            rintro e w2 ⟨rfl, nd, rfl⟩
            go_wp2_with (refine wpList_store_ex rfl _ _ rfl _ _ _ _ _ _ _ (by first | exact hbr | exact hbr.drewN _) rfl _ _ _ _ _ _ _ _ rfl ?_; intro wz hbz hcz)
            refine bodyPost_ret_ex rfl rfl rfl hbz (TPost.ok HF.out rfl ?_ ?_ ?_)
            · refine Sl.mono (hS.chg ((Chg.refl No _).drewN _ |>.mono (S' := One w.heap.size) (fun _ _ h => h.elim) |>.trans hcz) fun k hk h => ?_) fun k hk => by omega
              unfold One at h; omega
            · exact (hr.drewN _).chg hcz fun e => by unfold One at e; omega
            · exact (hC.drewN _).then_ hcz fun q hq e => by unfold One at e; omega


set_option maxHeartbeats 2000000 in
set_option maxRecDepth 100000 in
theorem row_step (m : Nat) (hatom : ∀ k, k ≤ m → AtomC k) : RowC (m + 1) := by
  intro w r s i h hs hi hm
  have hrlt := h.lt
  have hI : LInv 2 (m + 1) (rowGo s) (fun _ j m1 => 5 * (s.size - j) + 2 < m1) w r s (w.heap.size + 1) (rowGo s (m + 1) [] i) ((w.alloc (.cells #[.int .i64 0, .int .i64 0, .int .i64 0, .int .i64 0, .int .i64 0, .slice none 0 0] 25)).alloc (.cells #[.int .i64 2, .int .i64 0, .int .i64 0, .int .i64 0, .int .i64 0, .slice none 0 0] 25)) :=
    ⟨.slice none 0 0, [], i, m + 1, Blk.new' (by simp), OwnS.nil _ _, Blk.alloc (Blk.alloc h _) _, hi, by simp, rfl, Nat.le_refl _, hm, (Blk.new _ _ _).alloc _, ((Chg.refl _ _).alloc _).alloc _⟩
  have HI := Lib.hid hI; clear hI
  go_enter Tryd.func70, Tryd.ntmps70
  go_wp2_with fail
  go_loopw [] (fun wr => LInv 2 (m + 1) (rowGo s) (fun _ j m1 => 5 * (s.size - j) + 2 < m1) w r s (w.heap.size + 1) (rowGo s (m + 1) [] i) wr) (fun wr => rdMeas r s.size wr)
  case atStart => exact HI.out
  case round =>
    clear HI h
    obtain ⟨v, l, j, m1, hbe, hO, hr, hj, hlj, hg, hm1, hok, hbr, hC⟩ := hrel
    have HG := Lib.hid hg; clear hg
    have HM := Lib.hid (rdMeas_eq hr)
    have hzb := hbe.lt
    obtain ⟨m1, rfl⟩ : ∃ m', m1 = m' + 1 := ⟨m1 - 1, by omega⟩
    have e0 := hbe.cell 0
    have e1 := hbe.cell 1
    have e2 := hbe.cell 2
    have e3 := hbe.cell 3
    have e4 := hbe.cell 4
    have e5 := hbe.cell 5
    have ef := hbe.frozen 5
    simp only [List.getElem?_toArray, List.getElem?_cons_zero, List.getElem?_cons_succ] at e0 e1 e2 e3 e4 e5
    by_cases hsz : s.size ≤ j
    · have HF : Hid (rowGo s (m + 1) [] i = .ok (oneOr 2 l) j) := Lib.hid (by rw [← HG.out]; unfold rowGo; rw [if_pos (.inl hsz)])
      clear HG
      obtain ⟨A, c, rfl, hS⟩ := hO.form
      cases l with
      | nil =>
        simp only [List.length_nil] at hS hbe e5
        go_wp2_with (first | (go_at_call 42; refine (more_any _ r s j false hr (by simpa using hsz)).mono ?_; rintro e w2 ⟨rfl, nd, rfl⟩) | (refine wpList_store_ex rfl _ _ rfl _ _ _ _ _ _ _ (by first | exact hbr | exact hbr.drewN _) rfl _ _ _ _ _ _ _ _ rfl ?_; intro wz hbz hcz))
        refine bodyPost_ret_ex rfl rfl rfl hbz (TPost.ok HF.out rfl ?_ ?_ ?_)
        · refine Sl.mono (hS.chg ((Chg.refl No _).drewN _ |>.mono (S' := One w.heap.size) (fun _ _ h => h.elim) |>.trans hcz) fun k hk h => ?_) fun k hk => by omega
          unfold One at h; omega
        · exact (hr.drewN _).chg hcz fun e => by unfold One at e; omega
        · exact (hC.drewN _).then_ hcz fun q hq e => by unfold One at e; omega
      | cons x l =>
        simp only [List.length_cons] at hS hbe e5
        cases l with
        | nil =>
          simp only [List.length_nil, Nat.zero_add] at hS hbe e5
          obtain ⟨g, o, A', c', rfl, hgS, y0, y1, y2, y3, y4, y5, hy⟩ := hS.at_ 0 (by simp)
          simp only [List.getElem_cons_zero, Nat.zero_mul, Nat.add_zero] at y0 y1 y2 y3 y4 y5 hy
          go_wp2_with (first | (go_at_call 42; refine (more_any _ r s j false hr (by simpa using hsz)).mono ?_; rintro e w2 ⟨rfl, nd, rfl⟩) | (refine wpList_store_ex rfl _ _ rfl _ _ _ _ _ _ _ (by first | exact hbr | exact hbr.drewN _) rfl _ _ _ _ _ _ _ _ rfl ?_; intro wz hbz hcz))
          refine bodyPost_ret_ex rfl rfl rfl hbz (TPost.ok HF.out rfl ?_ ?_ ?_)
          · refine Sl.mono (hy.chg ((Chg.refl No _).drewN _ |>.trans (Chg.refl No _) |>.mono (S' := One w.heap.size) (fun _ _ h => h.elim) |>.trans hcz) fun k hk h => ?_) fun k hk => by omega
            unfold One at h; omega
          · exact (hr.drewN _).chg hcz fun e => by unfold One at e; omega
          · exact (hC.drewN _).then_ hcz fun q hq e => by unfold One at e; omega
        | cons x2 l =>
          go_wp2_with (first | (go_at_call 42; refine (more_any _ r s j false hr (by simpa using hsz)).mono ?_; rintro e w2 ⟨rfl, nd, rfl⟩) | (refine wpList_store_ex rfl _ _ rfl _ _ _ _ _ _ _ (by first | exact hbr | exact hbr.drewN _) rfl _ _ _ _ _ _ _ _ rfl ?_; intro wz hbz hcz))
          refine bodyPost_ret_ex rfl rfl rfl hbz (TPost.ok HF.out rfl ?_ ?_ ?_)
          · refine Sl.mono (hS.chg ((Chg.refl No _).drewN _ |>.mono (S' := One w.heap.size) (fun _ _ h => h.elim) |>.trans hcz) fun k hk h => ?_) fun k hk => by omega
            unfold One at h; omega
          · exact (hr.drewN _).chg hcz fun e => by unfold One at e; omega
          · exact (hC.drewN _).then_ hcz fun q hq e => by unfold One at e; omega
    have hlt : j < s.size := by omega
    by_cases q1 : bt s j = 124
    · have HF : Hid (rowGo s (m + 1) [] i = .ok (oneOr 2 l) j) := Lib.hid (by rw [← HG.out]; unfold rowGo; rw [if_pos (.inr (.inl q1))])
      clear HG
      obtain ⟨A, c, rfl, hS⟩ := hO.form
      cases l with
      | nil =>
        simp only [List.length_nil] at hS hbe e5
        go_wp2_with (first | (go_at_call 42; refine (more_any _ r s j true (by first | exact hr | exact hr.drewN _) (by simpa using hlt)).mono ?_; rintro e w2 ⟨rfl, nd, rfl⟩) | (go_at_call 104; refine (is_any _ r s j 124 (by first | exact hr | exact hr.drewN _) true (by simpa using q1) (by omega)).mono ?_; rintro e w2 ⟨rfl, nd, rfl⟩) | (refine wpList_store_ex rfl _ _ rfl _ _ _ _ _ _ _ (by first | exact hbr | exact hbr.drewN _) rfl _ _ _ _ _ _ _ _ rfl ?_; intro wz hbz hcz))
        refine bodyPost_ret_ex rfl rfl rfl hbz (TPost.ok HF.out rfl ?_ ?_ ?_)
        · refine Sl.mono (hS.chg ((Chg.refl No _).drewN _ |>.mono (S' := One w.heap.size) (fun _ _ h => h.elim) |>.trans hcz) fun k hk h => ?_) fun k hk => by omega
          unfold One at h; omega
        · exact (hr.drewN _).chg hcz fun e => by unfold One at e; omega
        · exact (hC.drewN _).then_ hcz fun q hq e => by unfold One at e; omega
      | cons x l =>
        simp only [List.length_cons] at hS hbe e5
        cases l with
        | nil =>
          simp only [List.length_nil, Nat.zero_add] at hS hbe e5
          obtain ⟨g, o, A', c', rfl, hgS, y0, y1, y2, y3, y4, y5, hy⟩ := hS.at_ 0 (by simp)
          simp only [List.getElem_cons_zero, Nat.zero_mul, Nat.add_zero] at y0 y1 y2 y3 y4 y5 hy
          go_wp2_with (first | (go_at_call 42; refine (more_any _ r s j true (by first | exact hr | exact hr.drewN _) (by simpa using hlt)).mono ?_; rintro e w2 ⟨rfl, nd, rfl⟩) | (go_at_call 104; refine (is_any _ r s j 124 (by first | exact hr | exact hr.drewN _) true (by simpa using q1) (by omega)).mono ?_; rintro e w2 ⟨rfl, nd, rfl⟩) | (refine wpList_store_ex rfl _ _ rfl _ _ _ _ _ _ _ (by first | exact hbr | exact hbr.drewN _) rfl _ _ _ _ _ _ _ _ rfl ?_; intro wz hbz hcz))
          refine bodyPost_ret_ex rfl rfl rfl hbz (TPost.ok HF.out rfl ?_ ?_ ?_)
          · refine Sl.mono (hy.chg ((Chg.refl No _).drewN _ |>.trans (Chg.refl No _) |>.mono (S' := One w.heap.size) (fun _ _ h => h.elim) |>.trans hcz) fun k hk h => ?_) fun k hk => by omega
            unfold One at h; omega
          · exact (hr.drewN _).chg hcz fun e => by unfold One at e; omega
          · exact (hC.drewN _).then_ hcz fun q hq e => by unfold One at e; omega
        | cons x2 l =>
          go_wp2_with (first | (go_at_call 42; refine (more_any _ r s j true (by first | exact hr | exact hr.drewN _) (by simpa using hlt)).mono ?_; rintro e w2 ⟨rfl, nd, rfl⟩) | (go_at_call 104; refine (is_any _ r s j 124 (by first | exact hr | exact hr.drewN _) true (by simpa using q1) (by omega)).mono ?_; rintro e w2 ⟨rfl, nd, rfl⟩) | (refine wpList_store_ex rfl _ _ rfl _ _ _ _ _ _ _ (by first | exact hbr | exact hbr.drewN _) rfl _ _ _ _ _ _ _ _ rfl ?_; intro wz hbz hcz))
          refine bodyPost_ret_ex rfl rfl rfl hbz (TPost.ok HF.out rfl ?_ ?_ ?_)
          · refine Sl.mono (hS.chg ((Chg.refl No _).drewN _ |>.mono (S' := One w.heap.size) (fun _ _ h => h.elim) |>.trans hcz) fun k hk h => ?_) fun k hk => by omega
            unfold One at h; omega
          · exact (hr.drewN _).chg hcz fun e => by unfold One at e; omega
          · exact (hC.drewN _).then_ hcz fun q hq e => by unfold One at e; omega
    by_cases q2 : bt s j = 41
    · have HF : Hid (rowGo s (m + 1) [] i = .ok (oneOr 2 l) j) := Lib.hid (by rw [← HG.out]; unfold rowGo; rw [if_pos (.inr (.inr q2))])
      clear HG
      obtain ⟨A, c, rfl, hS⟩ := hO.form
      cases l with
      | nil =>
        simp only [List.length_nil] at hS hbe e5
        have i1 := fun nd : Nat => is_any (wr.drewN nd) r s j 124 (hr.drewN nd) false (by simpa using q1) (by omega)
        have i2 := fun nd : Nat => is_any (wr.drewN nd) r s j 41 (hr.drewN nd) true (by simpa using q2) (by omega)
        clear q1 q2
        go_wp2_with (go_at_call 42; refine (more_any _ r s j true (by first | exact hr | exact hr.drewN _) (by simpa using hlt)).mono ?_; rintro e w2 ⟨rfl, nd, rfl⟩)
        refine (i1 _).mono ?_
        rintro e w2 ⟨rfl, nd2, rfl⟩
        go_wp2_with fail
        refine (i2 _).mono ?_
        rintro e w2 ⟨rfl, nd3, rfl⟩
        go_wp2_with (refine wpList_store_ex rfl _ _ rfl _ _ _ _ _ _ _ (by first | exact hbr | exact hbr.drewN _) rfl _ _ _ _ _ _ _ _ rfl ?_; intro wz hbz hcz)
        refine bodyPost_ret_ex rfl rfl rfl hbz (TPost.ok HF.out rfl ?_ ?_ ?_)
        · refine Sl.mono (hS.chg ((Chg.refl No _).drewN _ |>.mono (S' := One w.heap.size) (fun _ _ h => h.elim) |>.trans hcz) fun k hk h => ?_) fun k hk => by omega
          unfold One at h; omega
        · exact (hr.drewN _).chg hcz fun e => by unfold One at e; omega
        · exact (hC.drewN _).then_ hcz fun q hq e => by unfold One at e; omega
      | cons x l =>
        simp only [List.length_cons] at hS hbe e5
        cases l with
        | nil =>
          simp only [List.length_nil, Nat.zero_add] at hS hbe e5
          obtain ⟨g, o, A', c', rfl, hgS, y0, y1, y2, y3, y4, y5, hy⟩ := hS.at_ 0 (by simp)
          simp only [List.getElem_cons_zero, Nat.zero_mul, Nat.add_zero] at y0 y1 y2 y3 y4 y5 hy
          have i1 := fun nd : Nat => is_any (wr.drewN nd) r s j 124 (hr.drewN nd) false (by simpa using q1) (by omega)
          have i2 := fun nd : Nat => is_any (wr.drewN nd) r s j 41 (hr.drewN nd) true (by simpa using q2) (by omega)
          clear q1 q2
          go_wp2_with (go_at_call 42; refine (more_any _ r s j true (by first | exact hr | exact hr.drewN _) (by simpa using hlt)).mono ?_; rintro e w2 ⟨rfl, nd, rfl⟩)
          refine (i1 _).mono ?_
          rintro e w2 ⟨rfl, nd2, rfl⟩
          go_wp2_with fail
          refine (i2 _).mono ?_
          rintro e w2 ⟨rfl, nd3, rfl⟩
          go_wp2_with (refine wpList_store_ex rfl _ _ rfl _ _ _ _ _ _ _ (by first | exact hbr | exact hbr.drewN _) rfl _ _ _ _ _ _ _ _ rfl ?_; intro wz hbz hcz)
          refine bodyPost_ret_ex rfl rfl rfl hbz (TPost.ok HF.out rfl ?_ ?_ ?_)
          · refine Sl.mono (hy.chg ((Chg.refl No _).drewN _ |>.trans (Chg.refl No _) |>.mono (S' := One w.heap.size) (fun _ _ h => h.elim) |>.trans hcz) fun k hk h => ?_) fun k hk => by omega
            unfold One at h; omega
          · exact (hr.drewN _).chg hcz fun e => by unfold One at e; omega
          · exact (hC.drewN _).then_ hcz fun q hq e => by unfold One at e; omega
        | cons x2 l =>
          have i1 := fun nd : Nat => is_any (wr.drewN nd) r s j 124 (hr.drewN nd) false (by simpa using q1) (by omega)
          have i2 := fun nd : Nat => is_any (wr.drewN nd) r s j 41 (hr.drewN nd) true (by simpa using q2) (by omega)
          clear q1 q2
          go_wp2_with (go_at_call 42; refine (more_any _ r s j true (by first | exact hr | exact hr.drewN _) (by simpa using hlt)).mono ?_; rintro e w2 ⟨rfl, nd, rfl⟩)
          refine (i1 _).mono ?_
          rintro e w2 ⟨rfl, nd2, rfl⟩
          go_wp2_with fail
          refine (i2 _).mono ?_
          rintro e w2 ⟨rfl, nd3, rfl⟩
          go_wp2_with (refine wpList_store_ex rfl _ _ rfl _ _ _ _ _ _ _ (by first | exact hbr | exact hbr.drewN _) rfl _ _ _ _ _ _ _ _ rfl ?_; intro wz hbz hcz)
          refine bodyPost_ret_ex rfl rfl rfl hbz (TPost.ok HF.out rfl ?_ ?_ ?_)
          · refine Sl.mono (hS.chg ((Chg.refl No _).drewN _ |>.mono (S' := One w.heap.size) (fun _ _ h => h.elim) |>.trans hcz) fun k hk h => ?_) fun k hk => by omega
            unfold One at h; omega
          · exact (hr.drewN _).chg hcz fun e => by unfold One at e; omega
          · exact (hC.drewN _).then_ hcz fun q hq e => by unfold One at e; omega
    have i1 := fun nd : Nat => is_any (wr.drewN nd) r s j 124 (hr.drewN nd) false (by simpa using q1) (by omega)
    have i2 := fun nd : Nat => is_any (wr.drewN nd) r s j 41 (hr.drewN nd) false (by simpa using q2) (by omega)
    have hg2 : (atomP s m1 j).bind (fun x j => (timesGo s (s.size + 1) x j).bind fun y j2 => rowGo s m1 (l ++ [y]) j2) = rowGo s (m + 1) [] i := by
      rw [← HG.out]; conv => rhs; unfold rowGo
      rw [if_neg (by omega)]
    have HG2 := Lib.hid hg2; clear hg2 HG q1 q2
    go_wp2_with (go_at_call 42; refine (more_any _ r s j true (by first | exact hr | exact hr.drewN _) (by simpa using hlt)).mono ?_; rintro e w2 ⟨rfl, nd, rfl⟩)
    refine (i1 _).mono ?_
    rintro e w2 ⟨rfl, nd2, rfl⟩
    go_wp2_with fail
    refine (i2 _).mono ?_
    rintro e w2 ⟨rfl, nd3, rfl⟩
    clear i1 i2
    go_wp2_with fail
    cases hq : atomP s m1 j with
    | bad c p =>
      have HX : Hid (rowGo s (m + 1) [] i = .bad c p) := Lib.hid (by rw [← HG2.out, hq]; rfl)
      go_region_dies
      all_goals
        refine (hatom m1 (by omega) _ r s j ?_ hs hlt (by omega)).mono ?_
        · exact hr
        · intro e w3 hp
          rw [hq] at hp
          obtain ⟨rfl, hc3⟩ := hp
          exact ⟨rfl, TPost.bad HX.out rfl (((hC.drewN _).drew).trans hc3)⟩
    | ok x j1 =>
      have hj1 := (read_ok s m1).2.2 _ _ _ hlt hq
      have HQ := Lib.hid hq; clear hq
      cases hq2 : timesGo s (s.size + 1) x j1 with
      | bad c p =>
        have HX : Hid (rowGo s (m + 1) [] i = .bad c p) := Lib.hid (by rw [← HG2.out, HQ.out, PR.bind_ok, hq2]; rfl)
        have HQ2 := Lib.hid hq2; clear hq2
        go_region_dies
        · refine (hatom m1 (by omega) _ r s j ?_ hs hlt (by omega)).mono ?_
          · exact hr
          · intro e w3 hp
            rw [HQ.out] at hp
            obtain ⟨A, n, c, rfl, hsl, hr3, hc3'⟩ := hp
            have hc3 : Chg (One r) wr w3 := (((Chg.refl _ _).drewN _).drew).trans hc3'
            have hz3 : wr.heap.size ≤ w3.heap.size := hc3.size
            have hsl' : Sl w3 (fun k => wr.heap.size ≤ k) A n c x.l := hsl
            clear hsl hc3'
            have hbe3 := hbe.chg hc3 fun e => by unfold One at e; omega
            have d5 := hbe3.cell 5
            simp only [List.getElem?_toArray, List.getElem?_cons_zero, List.getElem?_cons_succ] at d5
            rename_i K hK
            refine hK _ _ ?_
            clear hK K
            refine wpAny_ready (rs := [5]) (by kernel_rfl) (by simp) ?_
            refine AllReady.cons rfl (fun K hK => ?_) AllReady.nil
            go_simp
            refine (times_any _ r s j1 hr3 hs hj1.2 x A n c wr.heap.size hz3 (by omega) hsl').mono ?_
            intro e w4 hp
            rw [HQ2.out] at hp
            obtain ⟨rfl, hc4⟩ := hp
            exact ⟨rfl, TPost.bad HX.out rfl ((hC.trans hc3).trans hc4)⟩
        · refine (hatom m1 (by omega) _ r s j ?_ hs hlt (by omega)).mono ?_
          · exact hr
          · intro e w3 hp
            rw [HQ.out] at hp
            obtain ⟨A, n, c, rfl, hsl, hr3, hc3'⟩ := hp
            have hc3 : Chg (One r) wr w3 := (((Chg.refl _ _).drewN _).drew).trans hc3'
            have hz3 : wr.heap.size ≤ w3.heap.size := hc3.size
            have hsl' : Sl w3 (fun k => wr.heap.size ≤ k) A n c x.l := hsl
            clear hsl hc3'
            have hbe3 := hbe.chg hc3 fun e => by unfold One at e; omega
            have d5 := hbe3.cell 5
            simp only [List.getElem?_toArray, List.getElem?_cons_zero, List.getElem?_cons_succ] at d5
            rename_i K hK
            refine hK _ _ ?_
            clear hK K
            refine wpAny_ready (rs := [1, 5]) (by kernel_rfl) (by simp) ?_
            refine AllReady.cons rfl (fun K hK => ?_) ?_
            · go_simp
              refine hK _ _ ?_
              clear hK K
              refine wpAny_ready (rs := [5]) (by kernel_rfl) (by simp) ?_
              refine AllReady.cons rfl (fun K hK => ?_) AllReady.nil
              go_simp
              refine (times_any _ r s j1 hr3 hs hj1.2 x A n c wr.heap.size hz3 (by omega) hsl').mono ?_
              intro e w4 hp
              rw [HQ2.out] at hp
              obtain ⟨rfl, hc4⟩ := hp
              exact ⟨rfl, TPost.bad HX.out rfl ((hC.trans hc3).trans hc4)⟩
            · refine AllReady.cons rfl (fun K hK => ?_) AllReady.nil
              go_simp
              refine (times_any _ r s j1 hr3 hs hj1.2 x A n c wr.heap.size hz3 (by omega) hsl').mono ?_
              intro e w4 hp
              rw [HQ2.out] at hp
              obtain ⟨rfl, hc4⟩ := hp
              exact ⟨rfl, TPost.bad HX.out rfl ((hC.trans hc3).trans hc4)⟩
      | ok y j2 =>
        have hj2 := timesGo_ok s _ _ _ _ _ hj1.2 hq2
        have HG3 : Hid (rowGo s m1 (l ++ [y]) j2 = rowGo s (m + 1) [] i) := by rw [← HG2.out, HQ.out, PR.bind_ok, hq2]; exact Lib.hid rfl
        have HQ2 := Lib.hid hq2
        clear hq2 HG2
        have hOlt := hO.lt
        have hno : ∀ k, w.heap.size ≤ k → ¬ One r k := fun k hk h => by unfold One at h; omega
        go_region_law (first | (refine step_append_exS (by rfl) _ _ (by rfl) (fun k => w.heap.size < k ∧ k ≠ w.heap.size + 1) v l (by rfl) (hO4.chgNo ((Chg.refl _ _).alloc _)) _ 1 y A2 n2 c2 (by rfl) (Blk.new _ _ _) (hslS.alloc _) (by omega) (by simp; omega) ?_; intro v5 w5 hO5 hgr hat; obtain ⟨A5, c5, rfl, hS5⟩ := hO5.form; have f5 := (hbe4c.chg (Chg.of_grown (S := fun q => some q = v.ownBlock) hgr fun q e _ => e.symm) fun e => (hOlt _ e.symm).1.2 rfl); have f50 := f5.cell 5; have f51 := f5.frozen 5; simp only [List.getElem?_toArray, List.getElem?_cons_zero, List.getElem?_cons_succ] at f50) | (go_simp; go_at_call 106; refine (hatom m1 (by omega) _ r s j ?_ hs hlt (by omega)).mono ?_; exact hr; intro e w3 hp; rw [HQ.out] at hp; obtain ⟨A, n, c, rfl, hsl, hr3, hc3x⟩ := hp; have hc3 : Chg (One r) wr w3 := (((Chg.refl _ _).drewN _).drew).trans hc3x; have hz3 : wr.heap.size ≤ w3.heap.size := hc3.size; have hslB : Sl w3 (fun k => wr.heap.size ≤ k) A n c x.l := hsl; clear hsl hc3x; have hbe3 := hbe.chg hc3 (hno _ (by omega)); have d5 := hbe3.cell 5; simp only [List.getElem?_toArray, List.getElem?_cons_zero, List.getElem?_cons_succ] at d5) | (go_simp; go_at_call 105; refine (times_any _ r s j1 hr3 hs hj1.2 x A n c wr.heap.size hz3 (by omega) hslB).mono ?_; intro e w4 hp; rw [HQ2.out] at hp; obtain ⟨A2, n2, c2, rfl, hsl2, hr4, hc4x⟩ := hp; have hc4 : Chg (One r) wr w4 := hc3.trans hc4x; have hz4 : wr.heap.size ≤ w4.heap.size := hc4.size; have hO4 := hO.chg hc4 fun k hk _ => hno k (by omega); have hbe4 := hbe3.chg hc4x (hno _ (by omega)); have b5 := hbe4.cell 5; have b6 := hbe4.frozen 5; simp only [List.getElem?_toArray, List.getElem?_cons_zero, List.getElem?_cons_succ] at b5; have hslS : Sl w4 (fun k => (w.heap.size < k ∧ k ≠ w.heap.size + 1) ∧ some k ≠ v.ownBlock) A2 n2 c2 y.l := hsl2.mono (fun k hk => ⟨by omega, fun e => by have := (hOlt k e.symm).2; omega⟩); have hbe4c := (hbe4.alloc (.cells #[.int .i64 y.k, .int .i64 y.f, .int .i64 y.t, .int .i64 y.a, .int .i64 y.b, .slice A2 n2 c2] 25)); have b7 := hbe4c.cell 5; simp only [List.getElem?_toArray, List.getElem?_cons_zero, List.getElem?_cons_succ] at b7))
        all_goals
          have h35 : Chg (fun q => some q = v.ownBlock) w4 w5 := ((Chg.refl _ _).alloc _).then_ (Chg.of_grown (S := fun q => some q = v.ownBlock) hgr fun q e _ => e.symm) fun q _ e => e
          have hI := LInv.next (go := rowGo s) (ok := fun _ j m1 => 5 * (s.size - j) + 2 < m1) (m := m + 1) (fin := rowGo s (m + 1) [] i) (Nat.lt_succ_self _) hrlt (fun k hk => (hOlt k hk).1) hbe4 hO5 h35 hr4 hj2.2 (by omega) HG3.out (by omega)
            (by omega) (hbr.chg hc4 (hno _ (Nat.le_refl _))) (hC.trans hc4)
          have hr6 : Rdr (w5.setCell ⟨w.heap.size + 1, 5, none⟩ (.slice A5 (l ++ [y]).length c5)) r s j2 :=
            Blk.far (hr4.chg h35 fun e => by have := (hOlt _ e.symm).1; omega) (p := ⟨w.heap.size + 1, 5, none⟩) (by dsimp only; omega) _
          simp only [List.length_append, List.length_cons, List.length_nil, Nat.zero_add] at hI hr6
          go_wp2
          refine ⟨by first | exact hI | ((repeat apply Exists.intro); exact ⟨hI, rfl⟩), ?_⟩
          show rdMeas r s.size _ < rdMeas r s.size wr
          rw [rdMeas_eq hr6, HM.out]; omega
end Go.Proofs.YticipgjbgcdccaaDoor
namespace Go.Proofs.YticipgjbgcdccaaDoor
open Go.RowKit

theorem Sl.nil (w : World) (S : Nat → Prop) : Sl w S none 0 0 [] := ⟨rfl, by simp, by omega, fun h => absurd rfl h⟩

set_option maxHeartbeats 2000000 in
set_option maxRecDepth 100000 in
theorem atom_step (m : Nat) (hpat : ∀ k, k ≤ m → PatC k) : AtomC (m + 1) := by
  intro w r s i h hs hi hm
  have hrlt := h.lt
  have h1 : Rdr (w.alloc (.cells #[.int .i64 0, .int .i64 0, .int .i64 0, .int .i64 0, .int .i64 0, .slice none 0 0] 25)) r s i := Blk.alloc h _
  have hb1 := Blk.new w 25 #[.int .i64 0, .int .i64 0, .int .i64 0, .int .i64 0, .int .i64 0, .slice none 0 0]
  have hc1 : Chg (One r) w (w.alloc (.cells #[.int .i64 0, .int .i64 0, .int .i64 0, .int .i64 0, .int .i64 0, .slice none 0 0] 25)) := (Chg.refl _ _).alloc _
  have c0 := h.c0
  have c1 := h.c1
  have f1 := h.f1
  have hlt := bt_lt s i hi
  have hat := bt_at s i hi
  have hne : ¬ One r w.heap.size := fun e => by unfold One at e; omega
  go_enter Tryd.func106, Tryd.ntmps106
  go_wp2
  go_quiet (fail)
  have h2 : Rdr ((w.alloc (.cells #[.int .i64 0, .int .i64 0, .int .i64 0, .int .i64 0, .int .i64 0, .slice none 0 0] 25)).drewN nq) r s i := h1.drewN nq
  have hb2 := hb1.drewN nq
  have hc2 := hc1.drewN nq
  obtain ⟨w2, hw2⟩ : ∃ w2, (w.alloc (.cells #[.int .i64 0, .int .i64 0, .int .i64 0, .int .i64 0, .int .i64 0, .slice none 0 0] 25)).drewN nq = w2 := ⟨_, rfl⟩
  have hz2 : w2.heap.size = w.heap.size + 1 := by rw [← hw2]; simp
  rw [hw2] at h2 hb2 hc2
  have d0 := h2.c0
  have d1 := h2.c1
  have e1 := h2.f1
  obtain ⟨c, hc⟩ : ∃ c : Nat, s[i].toNat = c := ⟨_, rfl⟩
  have hbc : bt s i = c := by rw [← hat]; exact hc
  rw [hbc] at hlt
  have hfin : atomP s (m + 1) i = if c = 92 then (escP s i).bind fun c j => .ok (byteEx c) j
    else if c = 46 then .ok anyEx (i + 1)
    else if c = 91 then classP s i
    else if c = 40 then (patGo s m [] (i + 1)).bind fun x j => if s.size ≤ j then .bad 23 s.size else if bt s j = 41 then .ok x (j + 1) else .bad 22 j
    else if plainP c = true then .ok (byteEx c) (i + 1)
    else .bad 22 i := by
    conv => lhs; unfold atomP
    rw [hbc]
  rw [hw2, hbc]
  clear hw2 h1 hb1 hc1 hat hc c0 c1 f1
  have hb2f : ∀ w3, Chg (One r) w2 w3 → Blk w3 w.heap.size 25 #[.int .i64 0, .int .i64 0, .int .i64 0, .int .i64 0, .int .i64 0, .slice none 0 0] := fun w3 hc => hb2.chg hc hne
  have hend : ∀ w4 wz : World, Chg (One r) w2 w4 → Chg (One w.heap.size) w4 wz → Chg (One r) w wz := fun w4 wz a b => (hc2.trans a).then_ b fun q hq e => by unfold One at e; omega
  have hrz : ∀ (w4 wz : World) j, Rdr w4 r s j → Chg (One w.heap.size) w4 wz → Rdr wz r s j := fun w4 wz j a b => a.chg b fun e => by unfold One at e; omega
  by_cases k0 : c = 92
  · rw [if_pos k0] at hfin
    have HF := Lib.hid hfin; clear hfin
    subst k0
    go_wp2_with fail
    refine (escape_any _ r s i h2 hs hi).mono ?_
    intro e w3 hp
    cases hq : escP s i with
    | bad c p =>
      rw [hq] at hp
      obtain ⟨rfl, hc3⟩ := hp
      exact ⟨rfl, TPost.bad (by rw [HF.out, hq]; rfl) rfl (hc2.trans hc3)⟩
    | ok a j =>
      rw [hq] at hp
      obtain ⟨rfl, hr3, hc3⟩ := hp
      have ha := escP_ok s i a j hq
      have HE : Hid (atomP s (m + 1) i = .ok (byteEx a) j) := Lib.hid (by rw [HF.out, hq]; rfl)
      clear HF hq
      go_wp2_with fail
      refine (single_any a _ ha.2.2).mono ?_
      rintro e w4 ⟨rfl, hc4⟩
      have hbz := hb2f _ (hc3.trans (hc4.one r))
      go_wp2_with (refine wpList_store_ex rfl _ _ rfl _ _ _ _ _ _ _ hbz rfl _ _ _ _ _ _ _ _ rfl ?_; intro wz hbz hcz)
      refine bodyPost_ret_ex rfl rfl rfl hbz (TPost.ok HE.out rfl (Sl.nil _ _) ?_ ?_)
      · exact hrz _ _ _ (hr3.chg hc4 id) hcz
      · exact hend _ _ (hc3.trans (hc4.one r)) hcz
  rw [if_neg k0] at hfin
  have e0 : ((c : Int) == 92) = false := by simp; omega
  clear k0
  by_cases k1 : c = 46
  · rw [if_pos k1] at hfin
    have HF := Lib.hid hfin; clear hfin e0
    subst k1
    have hc3 : Chg (One r) w2 (w2.setCell ⟨r, 1, none⟩ (.int .i64 ((i : Int) + 1))) := (Chg.refl _ _).setCell _ fun _ => rfl
    have hbz := hb2f _ hc3
    have hr3 : Rdr (w2.setCell ⟨r, 1, none⟩ (.int .i64 ((i : Int) + 1))) r s (i + 1) := h2.step
    go_wp2_with (refine wpList_store_ex rfl _ _ rfl _ _ _ _ _ _ _ hbz rfl _ _ _ _ _ _ _ _ rfl ?_; intro wz hbz hcz)
    refine bodyPost_ret_ex rfl rfl rfl hbz (TPost.ok HF.out rfl (Sl.nil _ _) ?_ ?_)
    · exact hrz _ _ _ hr3 hcz
    · exact hend _ _ hc3 hcz
  rw [if_neg k1] at hfin
  have e1' : ((c : Int) == 46) = false := by simp; omega
  clear k1
  by_cases k2 : c = 91
  · rw [if_pos k2] at hfin
    have HF := Lib.hid hfin; clear hfin e0 e1'
    subst k2
    go_wp2_with fail
    refine (class_any _ r s i h2 hs hi).mono ?_
    intro e w3 hp
    cases hq : classP s i with
    | bad c p =>
      rw [hq] at hp
      obtain ⟨rfl, hc3⟩ := hp
      exact ⟨rfl, TPost.bad (by rw [HF.out, hq]) rfl (hc2.trans hc3)⟩
    | ok x j =>
      rw [hq] at hp
      obtain ⟨A, n, cc, rfl, hsl, hr3, hc3⟩ := hp
      have HE : Hid (atomP s (m + 1) i = .ok x j) := Lib.hid (by rw [HF.out, hq])
      clear HF hq
      have hbz := hb2f _ hc3
      go_wp2_with (refine wpList_store_ex rfl _ _ rfl _ _ _ _ _ _ _ hbz rfl _ _ _ _ _ _ _ _ rfl ?_; intro wz hbz hcz)
      refine bodyPost_ret_ex rfl rfl rfl hbz (TPost.ok HE.out rfl ?_ ?_ ?_)
      · exact Sl.mono (hsl.chg hcz fun k hk e => by unfold One at e; omega) fun k hk => by omega
      · exact hrz _ _ _ hr3 hcz
      · exact hend _ _ hc3 hcz
  rw [if_neg k2] at hfin
  have e2 : ((c : Int) == 91) = false := by simp; omega
  clear k2
  by_cases k3 : c = 40
  · rw [if_pos k3] at hfin
    have HF := Lib.hid hfin; clear hfin e0 e1' e2
    subst k3
    have hc3 : Chg (One r) w2 (w2.setCell ⟨r, 1, none⟩ (.int .i64 ((i : Int) + 1))) := (Chg.refl _ _).setCell _ fun _ => rfl
    have hr3 : Rdr (w2.setCell ⟨r, 1, none⟩ (.int .i64 ((i : Int) + 1))) r s (i + 1) := h2.step
    go_wp2_with fail
    refine (hpat m (Nat.le_refl _) _ r s (i + 1) hr3 hs hi (by omega)).mono ?_
    intro e w3 hp
    cases hq : patGo s m [] (i + 1) with
    | bad c p =>
      rw [hq] at hp
      obtain ⟨rfl, hc4⟩ := hp
      exact ⟨rfl, TPost.bad (by rw [HF.out, hq]; rfl) rfl ((hc2.trans hc3).trans hc4)⟩
    | ok x j =>
      rw [hq] at hp
      obtain ⟨A, n, cc, rfl, hsl, hr4, hc4'⟩ := hp
      have hj := (read_ok s m).1 _ _ _ _ hi hq
      have hc4 := hc3.trans hc4'
      have hz3 : w.heap.size < w3.heap.size := by have := hc4.size; omega
      have hsl3 : Sl w3 (fun k => w.heap.size < k ∧ k < w3.heap.size) A n cc x.l := hsl.keep (fun _ _ _ => rfl) (fun k hk hz => ⟨by simp at hk; omega, hz⟩) (Nat.le_refl _)
      have HF2 : Hid (atomP s (m + 1) i = if s.size ≤ j then .bad 23 s.size else if bt s j = 41 then .ok x (j + 1) else .bad 22 j) := Lib.hid (by rw [HF.out, hq]; rfl)
      clear HF hq hc4' hsl
      have hbx := hb2f _ hc4
      have hbn := Blk.new w3 25 #[.int .i64 0, .int .i64 0, .int .i64 0, .int .i64 0, .int .i64 0, .slice none 0 0]
      have hbx2 := hbx.alloc (.cells #[.int .i64 0, .int .i64 0, .int .i64 0, .int .i64 0, .int .i64 0, .slice none 0 0] 25)
      have hr5 : Rdr (w3.alloc (.cells #[.int .i64 0, .int .i64 0, .int .i64 0, .int .i64 0, .int .i64 0, .slice none 0 0] 25)) r s j := Blk.alloc hr4 _
      have hc5 := hc4.alloc (.cells #[.int .i64 0, .int .i64 0, .int .i64 0, .int .i64 0, .int .i64 0, .slice none 0 0] 25)
      go_wp2_with (refine wpList_store_ex rfl _ _ rfl _ _ _ _ _ _ _ hbn rfl _ _ _ _ _ _ _ _ rfl ?_; intro wz hbz hcz)
      have hr6 : Rdr wz r s j := hr5.chg hcz fun e => by unfold One at e; omega
      have hbx3 := hbx2.chg hcz fun e => by unfold One at e; omega
      have hc6 : Chg (One r) w2 wz := hc5.then_ hcz fun q hq e => by unfold One at e; omega
      have hsl5 : Sl wz (fun k => w.heap.size < k ∧ k < w3.heap.size) A n cc x.l := (hsl3.alloc _).chg hcz fun k hk e => by unfold One at e; omega
      have hcm := hcz.size
      simp only [World.size_alloc] at hcm
      obtain ⟨g4, hg4⟩ : ∃ g4, w3.heap.size = g4 := ⟨_, rfl⟩
      by_cases q0 : s.size ≤ j
      · have HX : Hid (atomP s (m + 1) i = .bad 23 s.size) := Lib.hid (by rw [HF2.out, if_pos q0])
        refine (must_no _ r s j hr6 q0).mono ?_
        rintro e w6 ⟨rfl, nd, rfl⟩
        exact ⟨rfl, TPost.bad HX.out rfl ((hc2.trans hc6).drewN _)⟩
      have hjl : j < s.size := by omega
      have hj3 := bt_lt s j hjl
      refine (must_ok _ r s j hr6 hjl).mono ?_
      rintro e w6 ⟨rfl, nd, rfl⟩
      by_cases q1 : bt s j = 41
      · have HX : Hid (atomP s (m + 1) i = .ok x (j + 1)) := Lib.hid (by rw [HF2.out, if_neg q0, if_pos q1])
        have b0 := hbz.cell 0
        have b1 := hbz.cell 1
        have b2 := hbz.cell 2
        have b3 := hbz.cell 3
        have b4 := hbz.cell 4
        have b5 := hbz.cell 5
        simp only [List.getElem?_toArray, List.getElem?_cons_zero, List.getElem?_cons_succ] at b0 b1 b2 b3 b4 b5
        have x1 := hr6.c1
        have x2 := hr6.f1
        have hr7 : Rdr ((wz.drewN nd).setCell ⟨r, 1, none⟩ (.int .i64 ((j : Int) + 1))) r s (j + 1) := (hr6.drewN nd).step
        have hc7 : Chg (One r) w2 ((wz.drewN nd).setCell ⟨r, 1, none⟩ (.int .i64 ((j : Int) + 1))) := (hc6.drewN nd).setCell _ fun _ => rfl
        have hby := hb2f _ hc7
        have hrg : r ≠ w3.heap.size := by omega
        have hsl7 : Sl ((wz.drewN nd).setCell ⟨r, 1, none⟩ (.int .i64 ((j : Int) + 1))) (fun k => w.heap.size < k ∧ k < w3.heap.size) A n cc x.l :=
          (hsl5.drewN nd).chg (T := One r) ((Chg.refl _ _).setCell _ fun _ => rfl) fun k hk e => by unfold One at e; omega
        have e4 : ((bt s j : Int) == 41) = true := by rw [q1]; rfl
        rw [q1]
        clear HF2 q1 q0 hg4
        go_wp2_with (refine wpList_store_ex rfl _ _ rfl _ _ _ _ _ _ _ hby rfl _ _ _ _ _ _ _ _ rfl ?_; intro wy hbq hcy)
        refine bodyPost_ret_ex rfl rfl rfl hbq (TPost.ok HX.out rfl ?_ ?_ ?_)
        · exact Sl.mono (hsl7.chg hcy fun k hk e => by unfold One at e; omega) fun k hk => by omega
        · exact hrz _ _ _ hr7 hcy
        · exact hend _ _ hc7 hcy
      · have HX : Hid (atomP s (m + 1) i = .bad 22 j) := Lib.hid (by rw [HF2.out, if_neg q0, if_neg q1])
        have e4 : ((bt s j : Int) == 41) = false := by simp; omega
        have e5 : ((bt s j : Int) != 41) = true := by simp; omega
        have x1 := hr6.c1
        clear HF2 q1 q0 hg4
        go_wp2_with fail
        refine (wrong_any _ j).mono ?_
        rintro e w7 ⟨rfl, rfl⟩
        exact ⟨rfl, TPost.bad HX.out rfl ((hc2.trans hc6).drewN _)⟩
  rw [if_neg k3] at hfin
  have e3 : ((c : Int) == 40) = false := by simp; omega
  clear k3
  by_cases k4 : plainP c = true
  · rw [if_pos k4] at hfin
    have HF := Lib.hid hfin; clear hfin
    have hc3 : Chg (One r) w2 (w2.setCell ⟨r, 1, none⟩ (.int .i64 ((i : Int) + 1))) := (Chg.refl _ _).setCell _ fun _ => rfl
    have hr3 : Rdr (w2.setCell ⟨r, 1, none⟩ (.int .i64 ((i : Int) + 1))) r s (i + 1) := h2.step
    go_wp2_with (go_at_call 111; refine (plain_any c _).mono ?_; rintro e w3 ⟨rfl, rfl⟩; rw [k4])
    refine (single_any c _ hlt).mono ?_
    rintro e w4 ⟨rfl, hc4⟩
    have hbz := hb2f _ (hc3.trans (hc4.one r))
    go_wp2_with (refine wpList_store_ex rfl _ _ rfl _ _ _ _ _ _ _ hbz rfl _ _ _ _ _ _ _ _ rfl ?_; intro wz hbz hcz)
    refine bodyPost_ret_ex rfl rfl rfl hbz (TPost.ok HF.out rfl (Sl.nil _ _) ?_ ?_)
    · exact hrz _ _ _ (hr3.chg hc4 id) hcz
    · exact hend _ _ (hc3.trans (hc4.one r)) hcz
  · rw [if_neg k4] at hfin
    have HF := Lib.hid hfin; clear hfin
    simp only [Bool.not_eq_true] at k4
    go_wp2_with (go_at_call 111; refine (plain_any c _).mono ?_; rintro e w3 ⟨rfl, rfl⟩; rw [k4])
    refine (wrong_any _ i).mono ?_
    rintro e w3 ⟨rfl, rfl⟩
    exact ⟨rfl, TPost.bad HF.out rfl hc2⟩

theorem read_all : ∀ m : Nat, PatC m ∧ RowC m ∧ AtomC m := by
  intro m
  induction m using Nat.strongRecOn with
  | ind m ih =>
    cases m with
    | zero => exact ⟨fun w r s i h hs hi hm => by omega, fun w r s i h hs hi hm => by omega, fun w r s i h hs hi hm => by omega⟩
    | succ m => exact ⟨pattern_step m fun k hk => (ih k (by omega)).2.1, row_step m fun k hk => (ih k (by omega)).2.2, atom_step m fun k hk => (ih k (by omega)).1⟩
end Go.Proofs.YticipgjbgcdccaaDoor
namespace Go.Proofs.YticipgjbgcdccaaDoor
open Go.RowKit

mutual
/-- how many values the pattern has, and how deep it lies: counted no further than 4097 -/
def walkedP : Ex → Nat → Nat → Nat × Nat
  | .mk _ _ _ _ _ l, d, s => walkedsP l d (s + 1) d
def walkedsP : List Ex → Nat → Nat → Nat → Nat × Nat
  | [], _, s, m => (s, m)
  | x :: xs, d, s, m => if 4096 < s then (s, m) else walkedsP xs d (walkedP x (d + 1) s).1 (max m (walkedP x (d + 1) s).2)
end

/-- the loop that stops -/
theorem walkedsP_stop (l : List Ex) (d s m : Nat) (h : 4096 < s) : walkedsP l d s m = (s, m) := by
  cases l with
  | nil => simp [walkedsP]
  | cons x l => simp [walkedsP, h]

mutual
theorem walkedP_le : ∀ (x : Ex) (d s : Nat), s ≤ 4096 → d ≤ s + 1 → s < (walkedP x d s).1 ∧ (walkedP x d s).1 ≤ 4097 ∧ d ≤ (walkedP x d s).2 ∧ (walkedP x d s).2 ≤ 4097
  | .mk _ _ _ _ _ l, d, s, h, hd => by
    unfold walkedP
    have := walkedsP_le l d (s + 1) d (by omega) (by omega) (by omega)
    omega
theorem walkedsP_le : ∀ (l : List Ex) (d s m : Nat), s ≤ 4097 → d ≤ s → m ≤ 4097 → s ≤ (walkedsP l d s m).1 ∧ (walkedsP l d s m).1 ≤ 4097 ∧ m ≤ (walkedsP l d s m).2 ∧ (walkedsP l d s m).2 ≤ 4097
  | [], d, s, m, h, hd, hm => by simp [walkedsP]; omega
  | x :: xs, d, s, m, h, hd, hm => by
    unfold walkedsP
    split
    · simp; omega
    · have h1 := walkedP_le x (d + 1) s (by omega) (by omega)
      have h2 := walkedsP_le xs d (walkedP x (d + 1) s).1 (max m (walkedP x (d + 1) s).2) (by omega) (by omega) (by omega)
      omega
end

/-- the loop: what is done, what comes -/
theorem walkedsP_split (l : List Ex) (d s m : Nat) (fin : Nat × Nat) (i : Nat) (hi : i < l.length) (hs : ¬ 4096 < s) (h : walkedsP (l.drop i) d s m = fin) :
    walkedsP (l.drop (i + 1)) d (walkedP l[i] (d + 1) s).1 (max m (walkedP l[i] (d + 1) s).2) = fin := by
  rw [← h, List.drop_eq_getElem_cons hi]
  conv => rhs; unfold walkedsP
  rw [if_neg hs]

set_option maxHeartbeats 2000000 in
set_option maxRecDepth 100000 in
theorem walked_any : ∀ (N : Nat) (k f t a b : Int) (A : Option Addr) (n c : Nat) (l : List Ex) (S : Nat → Prop) (w : World) (d s : Nat), SizeOf.sizeOf (Ex.mk k f t a b l) < N → Sl w S A n c l → s ≤ 4096 → d ≤ s + 1 →
    Calls Tryd.prog 53 #[.agg #[.int .i64 k, .int .i64 f, .int .i64 t, .int .i64 a, .int .i64 b, .slice A n c], .int .i64 (d : Int), .int .i64 (s : Int)] w
      fun e w' => e = .returned (.tuple #[.int .i64 ((walkedP (.mk k f t a b l) d s).1 : Int), .int .i64 ((walkedP (.mk k f t a b l) d s).2 : Int)]) ∧ Chg No w w' := by
  intro N
  induction N with
  | zero => intro _ _ _ _ _ _ _ _ _ _ _ _ _ h; omega
  | succ N ih =>
    intro k f t a b A n c l S w d s hN hl hs hd
    have IH := Lib.hid ih; clear ih
    obtain ⟨rfl, hc1, hc2⟩ : n = l.length ∧ l.length ≤ c ∧ c ≤ 9223372036854775807 := ⟨hl.1, by have := hl.2.1; have := hl.1; omega, hl.2.2.1⟩
    have HL := Lib.hid hl; clear hl
    go_enter Tryd.func53, Tryd.ntmps53
    go_wp2_with fail
    go_loopw [2, 8, 19] (fun v2 v8 v19 wr => ∃ i s' m : Nat, i ≤ l.length ∧ v19 = .int .i64 (i : Int) ∧ v2 = .int .i64 (s' : Int) ∧ v8 = .int .i64 (m : Int) ∧ walkedsP (l.drop i) d s' m = walkedP (.mk k f t a b l) d s ∧ s' ≤ 4097 ∧ d ≤ s' ∧ m ≤ 4097 ∧ Chg No w wr) (fun _ _ v _ => l.length - (intOf v).toNat)
    case atStart => exact ⟨0, s + 1, d, Nat.zero_le _, rfl, by go_num, rfl, by simp [walkedP], by omega, by omega, by omega, (Chg.refl No w).alloc _⟩
    case round =>
      obtain ⟨i, s', m, hi, rfl, rfl, rfl, hw, hs', hds, hm, hc⟩ := hrel
      by_cases hlt : i < l.length
      · obtain ⟨g, o, A', c', rfl, hS, x0, x1, x2, x3, x4, x5, hx⟩ := (HL.out.chgNo hc).at_ i hlt
        by_cases hq : 4096 < s'
        · rw [walkedsP_stop _ _ _ _ hq] at hw
          have HW := Lib.hid hw; clear hw
          go_wp2
          go_ret2
          exact ⟨by rw [← HW.out]; rfl, hc.alloc _⟩
        · have hsz : SizeOf.sizeOf (Ex.mk l[i].k l[i].f l[i].t l[i].a l[i].b l[i].l) < N := by
            have := Ex.lt_of_mem (List.getElem_mem hlt) k f t a b
            have e : Ex.mk l[i].k l[i].f l[i].t l[i].a l[i].b l[i].l = l[i] := by cases l[i]; rfl
            rw [e]; omega
          have hw2 := walkedsP_split l d s' m _ i hlt hq hw
          have hle := walkedP_le l[i] (d + 1) s' (by omega) (by omega)
          rw [← Ex.eta l[i]] at hw2 hle
          obtain ⟨⟨p1, p2⟩, hp⟩ : ∃ p, walkedP (Ex.mk l[i].k l[i].f l[i].t l[i].a l[i].b l[i].l) (d + 1) s' = p := ⟨_, rfl⟩
          have hcall := fun (w1 : World) (hx1 : Sl w1 S A' l[i].l.length c' l[i].l) => IH.out l[i].k l[i].f l[i].t l[i].a l[i].b _ _ _ l[i].l S w1 (d + 1) s' hsz hx1 (by omega) (by omega)
          rw [hp] at hw2 hle hcall
          have HW := Lib.hid hw2; clear hw hw2 hp
          rw [show ((d + 1 : Nat) : Int) = (d : Int) + 1 by omega] at hcall
          go_wp2_with fail
          refine (hcall _ (hx.alloc _)).mono ?_
          rintro e w1 ⟨rfl, hc1⟩
          have hC2 := (hc.alloc (.cells #[.int .i64 l[i].k, .int .i64 l[i].f, .int .i64 l[i].t, .int .i64 l[i].a, .int .i64 l[i].b, .slice A' l[i].l.length c'] 25)).trans hc1
          clear hcall
          go_wp2
          refine ⟨⟨i + 1, p1, max m p2, by omega, by go_num, rfl, ?_, HW.out, by omega, by omega, by omega, hC2⟩, by simp [intOf]; omega⟩
          congr 1
          split <;> omega
      · go_wp2
        go_ret2
        obtain rfl : i = l.length := by omega
        rw [List.drop_length] at hw
        exact ⟨by rw [← hw]; simp only [walkedsP]; rfl, hc⟩

mutual
/-- how many values the pattern has -/
def nodesP : Ex → Nat
  | .mk _ _ _ _ _ l => 1 + nodesS l
def nodesS : List Ex → Nat
  | [] => 0
  | x :: xs => nodesP x + nodesS xs
end
theorem nodesP_pos (x : Ex) : 1 ≤ nodesP x := by cases x; simp [nodesP]
theorem nodesS_len : ∀ l : List Ex, l.length ≤ nodesS l
  | [] => Nat.le_refl _
  | x :: xs => by have := nodesS_len xs; have := nodesP_pos x; simp [nodesS]; omega
theorem nodesS_get (l : List Ex) (i : Nat) (hi : i < l.length) : nodesP l[i] ≤ nodesS l := by
  induction l generalizing i with
  | nil => simp at hi
  | cons x l ih =>
    cases i with
    | zero => simp [nodesS]
    | succ i => have := ih i (by simpa using hi); simp [nodesS]; omega
mutual
theorem walkedP_nodes : ∀ (x : Ex) (d s : Nat), (walkedP x d s).1 ≤ 4096 → (walkedP x d s).1 = s + nodesP x
  | .mk _ _ _ _ _ l, d, s, h => by
    unfold walkedP at h ⊢
    rw [walkedsP_nodes l _ _ _ h]; unfold nodesP; omega
theorem walkedsP_nodes : ∀ (l : List Ex) (d s m : Nat), (walkedsP l d s m).1 ≤ 4096 → (walkedsP l d s m).1 = s + nodesS l
  | [], d, s, m, _ => by simp [walkedsP, nodesS]
  | x :: xs, d, s, m, h => by
    unfold walkedsP at h ⊢
    split at h
    · simp only at h; omega
    · rename_i q
      rw [if_neg q]
      have h2 := walkedsP_nodes xs _ _ _ h
      have h3 : (walkedP x (d + 1) s).1 ≤ 4096 := by omega
      have h4 := walkedP_nodes x _ _ h3
      unfold nodesS; omega
end

/-- how many copies a repeat takes -/
def copiesP (a b : Int) : Int := if b < 0 then max a 1 else b
mutual
/-- how many places the pattern's set has: counted no further than 4097 -/
def positionsP : Ex → Int
  | .mk k _ _ a b l => if k = 1 then 1 else min (if k = 4 then positionsS l * copiesP a b else positionsS l) 4097
def positionsS : List Ex → Int
  | [] => 0
  | x :: xs => positionsP x + positionsS xs
end
theorem positionsS_take (l : List Ex) (i : Nat) (hi : i < l.length) : positionsS (l.take (i + 1)) = positionsS (l.take i) + positionsP l[i] := by
  induction l generalizing i with
  | nil => simp at hi
  | cons x l ih =>
    cases i with
    | zero => simp [positionsS]
    | succ i =>
      have := ih i (by simpa using hi)
      simp only [List.take_succ_cons, positionsS, List.getElem_cons_succ, this]; omega
theorem copiesP_le {k f t a b n : Int} (h : headOk k f t a b n = true) (hk : k = 4) : 0 ≤ copiesP a b ∧ copiesP a b ≤ 1000 := by
  subst hk
  simp [headOk] at h
  unfold copiesP
  split <;> omega
theorem rightP_head {k f t a b : Int} {l : List Ex} (h : rightP (.mk k f t a b l) = true) : headOk k f t a b l.length = true ∧ ∀ x ∈ l, rightP x = true := by
  unfold rightP at h
  rw [rightsP_all, Bool.and_eq_true, List.all_eq_true] at h
  exact h
mutual
theorem positionsP_le : ∀ x : Ex, rightP x = true → 0 ≤ positionsP x ∧ positionsP x ≤ 4097
  | .mk k f t a b l, h => by
    obtain ⟨h1, h2⟩ := rightP_head h
    have h3 := positionsS_le l h2
    unfold positionsP
    split
    · omega
    · split
      · rename_i q
        have := copiesP_le h1 q
        have := Int.mul_nonneg h3.1 this.1
        omega
      · omega
theorem positionsS_le : ∀ l : List Ex, (∀ x ∈ l, rightP x = true) → 0 ≤ positionsS l ∧ positionsS l ≤ 4097 * l.length
  | [], _ => by simp [positionsS]
  | x :: xs, h => by
    have h1 := positionsP_le x (h x (by simp))
    have h2 := positionsS_le xs fun y hy => h y (by simp [hy])
    simp only [positionsS, List.length_cons]; omega
end
end Go.Proofs.YticipgjbgcdccaaDoor
namespace Go.Proofs.YticipgjbgcdccaaDoor
open Go.RowKit

theorem copies_any (k f t a b : Int) (A : Option Addr) (n c : Nat) (w : World) :
    Calls Tryd.prog 89 #[.agg #[.int .i64 k, .int .i64 f, .int .i64 t, .int .i64 a, .int .i64 b, .slice A n c]] w
      fun e w' => e = .returned (.int .i64 (copiesP a b)) ∧ Chg No w w' := by
  unfold copiesP
  go_enter Tryd.func89, Tryd.ntmps89
  by_cases hb : b < 0
  · rw [if_pos hb]
    obtain ⟨v, hv⟩ : ∃ v, max a 1 = v := ⟨_, rfl⟩
    rw [hv]
    go_wp2
    all_goals
      go_ret
      refine ⟨?_, (Chg.refl _ _).alloc _⟩
      refine congrArg (fun z => Ending.returned (.int .i64 z)) ?_
      omega
  · rw [if_neg hb]
    go_wp2
    go_ret
    exact ⟨rfl, (Chg.refl _ _).alloc _⟩

set_option maxHeartbeats 2000000 in
set_option maxRecDepth 100000 in
theorem positions_any : ∀ (N : Nat) (k f t a b : Int) (A : Option Addr) (n c : Nat) (l : List Ex) (S : Nat → Prop) (w : World), SizeOf.sizeOf (Ex.mk k f t a b l) < N → Sl w S A n c l → rightP (.mk k f t a b l) = true → nodesP (.mk k f t a b l) ≤ 4096 →
    Calls Tryd.prog 55 #[.agg #[.int .i64 k, .int .i64 f, .int .i64 t, .int .i64 a, .int .i64 b, .slice A n c]] w
      fun e w' => e = .returned (.int .i64 (positionsP (.mk k f t a b l))) ∧ Chg No w w' := by
  intro N
  induction N with
  | zero => intro _ _ _ _ _ _ _ _ _ _ _ h; omega
  | succ N ih =>
    intro k f t a b A n c l S w hN hl hR hn
    have IH := Lib.hid ih; clear ih
    obtain ⟨rfl, hc1, hc2⟩ : n = l.length ∧ l.length ≤ c ∧ c ≤ 9223372036854775807 := ⟨hl.1, by have := hl.2.1; have := hl.1; omega, hl.2.2.1⟩
    have HL := Lib.hid hl; clear hl
    obtain ⟨hh, hr⟩ := rightP_head hR
    have hns : nodesS l ≤ 4095 := by unfold nodesP at hn; omega
    have hlen := nodesS_len l
    have HR := Lib.hid hr; clear hr
    by_cases hk : k = 1
    · have hfin : positionsP (.mk k f t a b l) = 1 := by unfold positionsP; rw [if_pos hk]
      subst hk
      clear hh hR
      go_enter Tryd.func55, Tryd.ntmps55
      go_wp2
      go_ret
      exact ⟨by rw [hfin]; rfl, (Chg.refl _ _).alloc _⟩
    · have hfin : positionsP (.mk k f t a b l) = min (if k = 4 then positionsS l * copiesP a b else positionsS l) 4097 := by unfold positionsP; rw [if_neg hk]
      have e1 : (k == 1) = false := by simpa using hk
      have hkc : k = 4 → 0 ≤ copiesP a b ∧ copiesP a b ≤ 1000 := copiesP_le hh
      have HF := Lib.hid hfin
      clear hfin hh hR hk
      go_enter Tryd.func55, Tryd.ntmps55
      have hbk := Blk.new w 25 #[.int .i64 k, .int .i64 f, .int .i64 t, .int .i64 a, .int .i64 b, .slice A l.length c]
      go_wp2_with fail
      go_loopw [3, 12] (fun v3 v12 wr => ∃ i : Nat, i ≤ l.length ∧ v12 = .int .i64 (i : Int) ∧ v3 = .int .i64 (positionsS (l.take i)) ∧ Chg No (w.alloc (.cells #[.int .i64 k, .int .i64 f, .int .i64 t, .int .i64 a, .int .i64 b, .slice A l.length c] 25)) wr) (fun _ v _ => l.length - (intOf v).toNat)
      case atStart => exact ⟨0, Nat.zero_le _, rfl, by simp [positionsS], Chg.refl _ _⟩
      case round =>
        obtain ⟨i, hi, rfl, rfl, hc⟩ := hrel
        have hc0 : Chg No w wr := ((Chg.refl No w).alloc _).trans hc
        have hb2 := hbk.chg hc id
        clear hbk
        have hps := positionsS_le (l.take i) fun x hx => HR.out x (List.mem_of_mem_take hx)
        have htl : (l.take i).length ≤ 4095 := by simp; omega
        by_cases hlt : i < l.length
        · obtain ⟨g, o, A', c', rfl, hS, x0, x1, x2, x3, x4, x5, hx⟩ := (HL.out.chgNo hc0).at_ i hlt
          have hsz : SizeOf.sizeOf (Ex.mk l[i].k l[i].f l[i].t l[i].a l[i].b l[i].l) < N := by
            have := Ex.lt_of_mem (List.getElem_mem hlt) k f t a b
            have e : Ex.mk l[i].k l[i].f l[i].t l[i].a l[i].b l[i].l = l[i] := by cases l[i]; rfl
            rw [e]; omega
          have hng := nodesS_get l i hlt
          have hrg := HR.out _ (List.getElem_mem hlt)
          have hle := positionsP_le l[i] hrg
          have hst := positionsS_take l i hlt
          rw [← Ex.eta l[i]] at hng hrg hle hst
          obtain ⟨p, hp⟩ : ∃ p, positionsP (Ex.mk l[i].k l[i].f l[i].t l[i].a l[i].b l[i].l) = p := ⟨_, rfl⟩
          obtain ⟨q, hq⟩ : ∃ q, positionsS (l.take i) = q := ⟨_, rfl⟩
          have hcall := fun (w1 : World) (hx1 : Sl w1 S A' l[i].l.length c' l[i].l) => IH.out l[i].k l[i].f l[i].t l[i].a l[i].b _ _ _ l[i].l S w1 hsz hx1 hrg (by omega)
          rw [hp] at hle hst hcall
          rw [hq] at hps hst
          rw [hq]
          have HS := Lib.hid hst; clear hst hp hq
          go_wp2_with fail
          refine (hcall _ (hx.alloc _)).mono ?_
          rintro e w1 ⟨rfl, hc1⟩
          clear hcall
          have hC2 := (hc.alloc (.cells #[.int .i64 l[i].k, .int .i64 l[i].f, .int .i64 l[i].t, .int .i64 l[i].a, .int .i64 l[i].b, .slice A' l[i].l.length c'] 25)).trans hc1
          go_wp2
          have hI : ∃ i_1 : Nat, i_1 ≤ l.length ∧ Value.int .i64 ((i : Int) + 1) = .int .i64 (i_1 : Int) ∧ Value.int .i64 (q + p) = .int .i64 (positionsS (l.take i_1)) ∧
              Chg No (w.alloc (.cells #[.int .i64 k, .int .i64 f, .int .i64 t, .int .i64 a, .int .i64 b, .slice (some ⟨g, o, none⟩) l.length c] 25)) w1 := ⟨i + 1, by omega, by go_num, by rw [HS.out], hC2⟩
          refine ⟨by first | exact hI | ((repeat apply Exists.intro); exact ⟨hI, rfl⟩), by simp [intOf]; omega⟩
        · obtain rfl : i = l.length := by omega
          rw [List.take_length] at hps
          simp only [List.take_length]
          obtain ⟨q, hq⟩ : ∃ q, positionsS l = q := ⟨_, rfl⟩
          have HQ := Lib.hid hq
          rw [hq] at hps
          rw [hq]
          clear hq hlt
          have y0 := hb2.cell 0
          have y1 := hb2.cell 1
          have y2 := hb2.cell 2
          have y3 := hb2.cell 3
          have y4 := hb2.cell 4
          have y5 := hb2.cell 5
          simp only [List.getElem?_toArray, List.getElem?_cons_zero, List.getElem?_cons_succ] at y0 y1 y2 y3 y4 y5
          by_cases h4 : k = 4
          · obtain ⟨z1, z2⟩ := hkc h4
            have m1 := Int.mul_nonneg hps.1 z1
            have m2 : q * copiesP a b ≤ 4097 * 4095 * 1000 := by
              refine Int.le_trans (Int.mul_le_mul_of_nonneg_left z2 hps.1) ?_
              omega
            have HX : Hid (positionsP (.mk k f t a b l) = min (q * copiesP a b) 4097) := Lib.hid (by rw [HF.out, if_pos h4, HQ.out])
            subst h4
            obtain ⟨u, hu⟩ : ∃ u, copiesP a b = u := ⟨_, rfl⟩
            rw [hu] at m1 m2 HX z1 z2
            have hcp := fun w1 => copies_any 4 f t a b A l.length c w1
            rw [hu] at hcp
            clear HF HQ hu hkc
            go_wp2_with fail
            refine (hcp _).mono ?_
            rintro e w1 ⟨rfl, hc1⟩
            clear hcp
            obtain ⟨v, hv⟩ : ∃ v, q * u = v := ⟨_, rfl⟩
            rw [hv] at m1 m2 HX
            have hw : wrap64 (q * u) = v := by rw [hv]; unfold wrap64; omega
            clear hv
            go_wp2
            all_goals
              go_ret
              refine ⟨?_, hc0.trans hc1⟩
              rw [HX.out]
              refine congrArg (fun z => Ending.returned (.int .i64 z)) ?_
              first | omega | (rw [hw]; omega)
          · have HX : Hid (positionsP (.mk k f t a b l) = min q 4097) := Lib.hid (by rw [HF.out, if_neg h4, HQ.out])
            clear HF HQ hkc
            have e4 : (k == 4) = false := by simpa using h4
            clear h4
            go_wp2
            all_goals
              go_ret
              refine ⟨?_, hc0⟩
              rw [HX.out]
              refine congrArg (fun z => Ending.returned (.int .i64 z)) ?_
              omega

/-- Check: 0, or the number of the error -/
def checkP (x : Ex) : Int :=
  if 4096 < (walkedP x 1 0).1 then 2
  else if 64 < (walkedP x 1 0).2 then 5
  else if rightP x = false then 20
  else if 4096 < positionsP x then 21
  else 0

set_option maxHeartbeats 2000000 in
set_option maxRecDepth 100000 in
theorem check_any (w : World) (k f t a b : Int) (A : Option Addr) (n c : Nat) (l : List Ex) (S : Nat → Prop) (hl : Sl w S A n c l) :
    Calls Tryd.prog 20 #[.agg #[.int .i64 k, .int .i64 f, .int .i64 t, .int .i64 a, .int .i64 b, .slice A n c]] w
      fun e w' => e = .returned (.int .i64 (checkP (.mk k f t a b l))) ∧ Chg No w w' := by
  have hbk := Blk.new w 25 #[.int .i64 k, .int .i64 f, .int .i64 t, .int .i64 a, .int .i64 b, .slice A n c]
  have hc0 : Chg No w (w.alloc (.cells #[.int .i64 k, .int .i64 f, .int .i64 t, .int .i64 a, .int .i64 b, .slice A n c] 25)) := (Chg.refl _ _).alloc _
  have hw := walked_any _ k f t a b A n c l S _ 1 0 (Nat.lt_succ_self _) (hl.chgNo hc0) (by omega) (by omega)
  have hn := walkedP_nodes (.mk k f t a b l) 1 0
  have hle := walkedP_le (.mk k f t a b l) 1 0 (by omega) (by omega)
  obtain ⟨p1, hp1⟩ : ∃ p, (walkedP (.mk k f t a b l) 1 0).1 = p := ⟨_, rfl⟩
  obtain ⟨p2, hp2⟩ : ∃ p, (walkedP (.mk k f t a b l) 1 0).2 = p := ⟨_, rfl⟩
  have hF : checkP (.mk k f t a b l) = if 4096 < p1 then 2 else if 64 < p2 then 5 else if rightP (.mk k f t a b l) = false then 20 else if 4096 < positionsP (.mk k f t a b l) then 21 else 0 := by
    unfold checkP; rw [hp1, hp2]
  rw [hp1, hp2] at hw hle
  rw [hp1] at hn
  have HL := Lib.hid hl
  have HF := Lib.hid hF
  have HN := Lib.hid hn
  clear hF hl hp1 hp2 hn
  go_enter Tryd.func20, Tryd.ntmps20
  go_wp2_with fail
  refine hw.mono ?_
  rintro e w1 ⟨rfl, hc1⟩
  clear hw
  have hb1 := hbk.chg hc1 id
  have cells := fun (w3 : World) (h : Chg No w1 w3) (i : Nat) => (hb1.chg h id).cell i
  have hb1' := hb1
  have y0 := hb1.cell 0
  have y1 := hb1.cell 1
  have y2 := hb1.cell 2
  have y3 := hb1.cell 3
  have y4 := hb1.cell 4
  have y5 := hb1.cell 5
  simp only [List.getElem?_toArray, List.getElem?_cons_zero, List.getElem?_cons_succ] at y0 y1 y2 y3 y4 y5
  have HC := Lib.hid cells
  clear cells hbk
  by_cases q1 : 4096 < p1
  · have HX : Hid (checkP (.mk k f t a b l) = 2) := Lib.hid (by rw [HF.out, if_pos q1])
    go_wp2
    go_ret
    exact ⟨by rw [HX.out]; rfl, hc0.trans hc1⟩
  by_cases q2 : 64 < p2
  · have HX : Hid (checkP (.mk k f t a b l) = 5) := Lib.hid (by rw [HF.out, if_neg q1, if_pos q2])
    go_wp2
    go_ret
    exact ⟨by rw [HX.out]; rfl, hc0.trans hc1⟩
  have hr := right_any _ k f t a b A n c l S w1 (Nat.lt_succ_self _) (HL.out.chgNo (hc0.trans hc1))
  cases hR : rightP (.mk k f t a b l) with
  | false =>
    have HX : Hid (checkP (.mk k f t a b l) = 20) := Lib.hid (by rw [HF.out, if_neg q1, if_neg q2, if_pos hR])
    rw [hR] at hr
    clear hR
    go_wp2_with fail
    refine hr.mono ?_
    rintro e w2 ⟨rfl, hc2⟩
    go_wp2
    go_ret
    exact ⟨by rw [HX.out]; rfl, (hc0.trans hc1).trans hc2⟩
  | true =>
    have hnn := HN.out (by omega)
    rw [hR] at hr
    have hp := fun (w2 : World) (hc2 : Chg No w1 w2) => positions_any _ k f t a b A n c l S w2 (Nat.lt_succ_self _) (HL.out.chgNo ((hc0.trans hc1).trans hc2)) hR (by omega)
    have hpl := positionsP_le _ hR
    obtain ⟨ps, hps⟩ : ∃ ps, positionsP (.mk k f t a b l) = ps := ⟨_, rfl⟩
    have HX : Hid (checkP (.mk k f t a b l) = if 4096 < ps then 21 else 0) := Lib.hid (by rw [HF.out, if_neg q1, if_neg q2, hR, hps]; rfl)
    rw [hps] at hp hpl
    clear hR hps HF hnn HN
    go_wp2_with fail
    refine hr.mono ?_
    rintro e w2 ⟨rfl, hc2⟩
    clear hr
    have hp2 := hp w2 hc2
    clear hp
    have z0 := HC.out w2 hc2 0
    have z1 := HC.out w2 hc2 1
    have z2 := HC.out w2 hc2 2
    have z3 := HC.out w2 hc2 3
    have z4 := HC.out w2 hc2 4
    have z5 := HC.out w2 hc2 5
    simp only [List.getElem?_toArray, List.getElem?_cons_zero, List.getElem?_cons_succ] at z0 z1 z2 z3 z4 z5
    go_wp2_with fail
    refine hp2.mono ?_
    rintro e w3 ⟨rfl, hc3⟩
    clear hp2
    by_cases q3 : 4096 < ps
    · go_wp2
      go_ret
      exact ⟨by rw [HX.out, if_pos q3]; rfl, ((hc0.trans hc1).trans hc2).trans hc3⟩
    · go_wp2
      go_ret
      exact ⟨by rw [HX.out, if_neg (by omega)]; rfl, ((hc0.trans hc1).trans hc2).trans hc3⟩
end Go.Proofs.YticipgjbgcdccaaDoor
namespace Go.Proofs.YticipgjbgcdccaaDoor
open Go.RowKit

theorem catch_idle (p q : Addr) (w : World) :
    CallsD Tryd.prog 40 #[.pointer (some p), .pointer (some q)] .returning w fun e u' w' => e = .returned (.tuple #[]) ∧ u' = .returning ∧ w = w' := by
  refine callsD_of_wpS Tryd.func40 rfl fun c₀ cs hu => ?_
  apply wpS_seq
  apply wpS_region
  simp [wpOpsS, go_sem, recoverD, hu, Tryd.ntmps40, Exit.thenS]
  refine wpS_of_wp ?_
  simp only [show Array.replicate 15 undef = #[undef, undef, undef, undef, undef, undef, undef, undef, undef, undef, undef, undef, undef, undef, undef] from rfl]
  go_wp2
  cases c₀
  simp_all [bodyPostS, results, Tryd.results40]

set_option maxHeartbeats 2000000 in
set_option maxRecDepth 100000 in
theorem catch_fault (g h : Nat) (cc : Int) (at_ : Nat) (v0 v1 v2 v3 v4 v5 u0 u1 u2 : Value) (w : World) (he : Blk w g 25 #[v0, v1, v2, v3, v4, v5]) (hf : Blk w h 28 #[u0, u1, u2]) (hgh : g < h) :
    CallsD Tryd.prog 40 #[.pointer (some ⟨g, 0, none⟩), .pointer (some ⟨h, 0, none⟩)] (.panicking (flt cc at_)) w fun e u' w' => e = .returned (.tuple #[]) ∧
      u' = .panicking [{ v := .iface 69 (.agg #[.int .i64 cc, .int .i64 (at_ : Int)]), recovered := true }] ∧
      Blk w' g 25 #[.int .i64 0, .int .i64 0, .int .i64 0, .int .i64 0, .int .i64 0, .slice none 0 0] ∧ Blk w' h 28 #[.int .i64 cc, .int .i64 (at_ : Int), .string ⟨#[]⟩] ∧ Chg (fun k => k = g ∨ k = h) w w' := by
  refine callsD_of_wpS Tryd.func40 rfl fun c₀ cs hu => ?_
  apply wpS_seq
  apply wpS_region
  simp [wpOpsS, go_sem, recoverD, hu, flt, Tryd.ntmps40, Exit.thenS]
  refine wpS_of_wp ?_
  simp only [show Array.replicate 15 undef = #[undef, undef, undef, undef, undef, undef, undef, undef, undef, undef, undef, undef, undef, undef, undef] from rfl]
  have he' := he.alloc (.cells #[.int .i64 cc, .int .i64 (at_ : Int)] 69)
  have hf' := hf.alloc (.cells #[.int .i64 cc, .int .i64 (at_ : Int)] 69)
  have x0 := he'.cell 0
  have f0 := he'.frozen 0
  have x1 := he'.cell 1
  have f1 := he'.frozen 1
  have x2 := he'.cell 2
  have f2 := he'.frozen 2
  have x3 := he'.cell 3
  have f3 := he'.frozen 3
  have x4 := he'.cell 4
  have f4 := he'.frozen 4
  have x5 := he'.cell 5
  have f5 := he'.frozen 5
  have y0 := hf'.cell 0
  have g0 := hf'.frozen 0
  have y1 := hf'.cell 1
  have g1 := hf'.frozen 1
  have y2 := hf'.cell 2
  have g2 := hf'.frozen 2
  simp only [List.getElem?_toArray, List.getElem?_cons_zero, List.getElem?_cons_succ] at x0 x1 x2 x3 x4 x5 y0 y1 y2
  have n1 : ¬ g = h := by omega
  have n2 : ¬ h = g := by omega
  have hhz := hf.lt
  have hta : ∀ w : World, (Instr.typeAssert (.iface 69 (.agg #[.int .i64 cc, .int .i64 (at_ : Int)])) 20 69 true).run Tryd.prog w = .ok (.tuple #[.agg #[.int .i64 cc, .int .i64 (at_ : Int)], .bool true]) w := fun w => by kernel_rfl
  go_wp2
  go_region
  all_goals
    go_wp2
    cases c₀
    refine ⟨rfl, .panicking [{ v := .iface 69 (.agg #[.int .i64 cc, .int .i64 (at_ : Int)]), recovered := true }], by simp_all, .tuple #[], by simp [results, Tryd.results40, go_sem], rfl, rfl, ?_, ?_, ?_⟩
    · unfold Blk at he' ⊢
      simp [World.setCell, World.drew, Array.getElem?_modify, he', n1, n2]
    · unfold Blk at hf' ⊢
      simp [World.setCell, World.drew, Array.getElem?_modify, hf', n1, n2]
    · repeat' (first | with_reducible exact Chg.refl _ _ | with_reducible refine Chg.drew ?_ | with_reducible refine Chg.setCell ?_ _ ?_ | with_reducible refine Chg.alloc ?_ _ | exact fun _ => Or.inl rfl | exact fun _ => Or.inr rfl)

def zeroEx : Ex := .mk 0 0 0 0 0 []
/-- Parse: the pattern; the error and its place -/
def parseP (s : ByteArray) : Ex × Int × Nat :=
  if 4096 < s.size then (zeroEx, 2, 0)
  else match patGo s (5 * s.size + 4) [] 0 with
    | .bad c p => (zeroEx, c, p)
    | .ok x j => if j < s.size then (zeroEx, 22, j) else if checkP x = 0 then (x, 0, 0) else (zeroEx, checkP x, 0)

def ParsePost (r : Ex × Int × Nat) (w : World) (e : Ending) (w' : World) : Prop :=
  ∃ A n c, e = .returned (.tuple #[.agg #[.int .i64 r.1.k, .int .i64 r.1.f, .int .i64 r.1.t, .int .i64 r.1.a, .int .i64 r.1.b, .slice A n c], .agg #[.int .i64 r.2.1, .int .i64 (r.2.2 : Int), .string ⟨#[]⟩]]) ∧
    Sl w' (fun k => w.heap.size ≤ k) A n c r.1.l ∧ Chg No w w'

theorem res_xf {fn : Func} {tmps : Array Value} {w : World} {t0 t1 : Tmp} {g h : Nat} {k f t a' b : Int} {A : Option Addr} {n c : Nat} {u v : Int} {m : ByteArray} (hr : fn.results = #[.cell t0 25, .cell t1 28])
    (hp : tmps.getD t0 undef = .pointer (some ⟨g, 0, none⟩)) (hq : tmps.getD t1 undef = .pointer (some ⟨h, 0, none⟩))
    (hb : Blk w g 25 #[.int .i64 k, .int .i64 f, .int .i64 t, .int .i64 a', .int .i64 b, .slice A n c]) (hf : Blk w h 28 #[.int .i64 u, .int .i64 v, .string m]) :
    (results fn tmps).run Tryd.prog w = .ok (.tuple #[.agg #[.int .i64 k, .int .i64 f, .int .i64 t, .int .i64 a', .int .i64 b, .slice A n c], .agg #[.int .i64 u, .int .i64 v, .string m]]) w := by
  have z0 := hb.cell 0
  have z1 := hb.cell 1
  have z2 := hb.cell 2
  have z3 := hb.cell 3
  have z4 := hb.cell 4
  have z5 := hb.cell 5
  have y0 := hf.cell 0
  have y1 := hf.cell 1
  have y2 := hf.cell 2
  simp only [List.getElem?_toArray, List.getElem?_cons_zero, List.getElem?_cons_succ] at z0 z1 z2 z3 z4 z5 y0 y1 y2
  have hp2 := hp
  have hq2 := hq
  simp only [Array.getD_eq_getD_getElem?] at hp2 hq2
  simp [results, hr, hp, hp2, hq, hq2, go_sem, z0, z1, z2, z3, z4, z5, y0, y1, y2]

/-- the door at a return: the deferred closure finds nothing -/
theorem door_idle {fn : Func} {a : Act} {w : World} {t0 t1 : Tmp} {g h : Nat} {k f t a' b : Int} {A : Option Addr} {n c : Nat} {u v : Int} {m : ByteArray} {R : Ending → World → Prop}
    (hr : fn.results = #[.cell t0 25, .cell t1 28]) (hd : a.defers = [{ target := .fn (.func 40) #[.pointer (some ⟨g, 0, none⟩), .pointer (some ⟨h, 0, none⟩)], args := #[] }])
    (hp : a.tmps.getD t0 undef = .pointer (some ⟨g, 0, none⟩)) (hq : a.tmps.getD t1 undef = .pointer (some ⟨h, 0, none⟩))
    (hb : Blk w g 25 #[.int .i64 k, .int .i64 f, .int .i64 t, .int .i64 a', .int .i64 b, .slice A n c]) (hf : Blk w h 28 #[.int .i64 u, .int .i64 v, .string m])
    (hR : R (.returned (.tuple #[.agg #[.int .i64 k, .int .i64 f, .int .i64 t, .int .i64 a', .int .i64 b, .slice A n c], .agg #[.int .i64 u, .int .i64 v, .string m]])) w) : bodyPostD Tryd.prog fn R .ret a w := by
  show Leaves Tryd.prog fn a.tmps R a.defers .returning w
  rw [hd]
  refine leaves_cons (f := 40) (args := #[.pointer (some ⟨g, 0, none⟩), .pointer (some ⟨h, 0, none⟩)]) (by simp) (by simp [go_sem]) ?_
  refine (catch_idle _ _ _).mono ?_
  rintro e u' w'' ⟨rfl, rfl, rfl⟩
  exact ⟨_, res_xf hr hp hq hb hf, hR⟩

/-- the door at a fault: the closure recovers, and the results are set -/
theorem door_fault {fn : Func} {a : Act} {w : World} {t0 t1 : Tmp} {g h : Nat} {v0 v1 v2 v3 v4 v5 u0 u1 u2 : Value} {cc : Int} {at_ : Nat} {R : Ending → World → Prop} (hgh : g < h)
    (hr : fn.results = #[.cell t0 25, .cell t1 28]) (hd : a.defers = [{ target := .fn (.func 40) #[.pointer (some ⟨g, 0, none⟩), .pointer (some ⟨h, 0, none⟩)], args := #[] }])
    (hp : a.tmps.getD t0 undef = .pointer (some ⟨g, 0, none⟩)) (hq : a.tmps.getD t1 undef = .pointer (some ⟨h, 0, none⟩))
    (hb : Blk w g 25 #[v0, v1, v2, v3, v4, v5]) (hf : Blk w h 28 #[u0, u1, u2])
    (hR : ∀ w', Chg (fun k => k = g ∨ k = h) w w' → R (.returned (.tuple #[.agg #[.int .i64 0, .int .i64 0, .int .i64 0, .int .i64 0, .int .i64 0, .slice none 0 0], .agg #[.int .i64 cc, .int .i64 (at_ : Int), .string ⟨#[]⟩]])) w') :
    bodyPostD Tryd.prog fn R (.panic (flt cc at_)) a w := by
  show Leaves Tryd.prog fn a.tmps R a.defers (.panicking (flt cc at_)) w
  rw [hd]
  refine leaves_cons (f := 40) (args := #[.pointer (some ⟨g, 0, none⟩), .pointer (some ⟨h, 0, none⟩)]) (by simp) (by simp [go_sem]) ?_
  refine (catch_fault g h cc at_ _ _ _ _ _ _ _ _ _ w hb hf hgh).mono ?_
  rintro e u' w'' ⟨rfl, rfl, hb', hf', hc⟩
  exact ⟨_, res_xf hr hp hq hb' hf', hR _ hc⟩

theorem ParsePost.zero {w w' : World} {c : Int} {p : Nat} {s : ByteArray} (h : parseP s = (zeroEx, c, p)) (hc : Chg No w w') :
    ParsePost (parseP s) w (.returned (.tuple #[.agg #[.int .i64 0, .int .i64 0, .int .i64 0, .int .i64 0, .int .i64 0, .slice none 0 0], .agg #[.int .i64 c, .int .i64 (p : Int), .string ⟨#[]⟩]])) w' := by
  rw [h]
  exact ⟨none, 0, 0, rfl, Sl.nil _ _, hc⟩

set_option maxHeartbeats 2000000 in
set_option maxRecDepth 100000 in
theorem parse_any (s : ByteArray) (w : World) : Calls Tryd.prog 12 #[.string s] w fun e w' => ParsePost (parseP s) w e w' := by
  have hmf : ∀ (fn : Fn) (first cap : Array Value) (w : World), (Instr.makeFunc fn first cap).run Tryd.prog w = .ok (.func fn first cap) w := fun _ _ _ _ => rfl
  have hb0 := (Blk.new w 25 #[.int .i64 0, .int .i64 0, .int .i64 0, .int .i64 0, .int .i64 0, .slice none 0 0]).alloc (.cells #[.int .i64 0, .int .i64 0, .string ⟨#[]⟩] 28)
  have hf0 := Blk.new (w.alloc (.cells #[.int .i64 0, .int .i64 0, .int .i64 0, .int .i64 0, .int .i64 0, .slice none 0 0] 25)) 28 #[.int .i64 0, .int .i64 0, .string ⟨#[]⟩]
  have hc0 : Chg No w ((w.alloc (.cells #[.int .i64 0, .int .i64 0, .int .i64 0, .int .i64 0, .int .i64 0, .slice none 0 0] 25)).alloc (.cells #[.int .i64 0, .int .i64 0, .string ⟨#[]⟩] 28)) := ((Chg.refl _ _).alloc _).alloc _
  go_enter_defers Tryd.func12, Tryd.ntmps12
  by_cases h0 : 4096 < s.size
  · have hP : parseP s = (zeroEx, 2, 0) := by unfold parseP; rw [if_pos h0]
    rw [hP]
    go_wp2_with (refine wpList_store_ex rfl _ _ rfl _ _ _ _ _ _ _ hb0 rfl _ _ _ _ _ _ _ _ rfl ?_; intro wz hbz hcz; have hfz := hf0.chg hcz (fun e => by unfold One at e; simp at e); have q0 := hfz.cell 0; have q1 := hfz.cell 1; have q2 := hfz.cell 2; have r0 := hfz.frozen 0; have r1 := hfz.frozen 1; have r2 := hfz.frozen 2; simp only [World.size_alloc, List.getElem?_toArray, List.getElem?_cons_zero, List.getElem?_cons_succ] at q0 q1 q2 r0 r1 r2)
    have HP := Lib.hid hP
    refine show bodyPostD Tryd.prog _ _ _ _ _ from ?_
    unfold bodyPostD
    have hfq := ((hfz.set_ 0 (.int .i64 2)).set_ 1 (.int .i64 0)).set_ 2 (.string ⟨#[]⟩)
    have hbq : Blk (((wz.setCell ⟨w.heap.size + 1, 0, none⟩ (.int .i64 2)).setCell ⟨w.heap.size + 1, 1, none⟩ (.int .i64 0)).setCell ⟨w.heap.size + 1, 2, none⟩ (.string ⟨#[]⟩)) w.heap.size 25 #[.int .i64 0, .int .i64 0, .int .i64 0, .int .i64 0, .int .i64 0, .slice none 0 0] :=
      Blk.far (Blk.far (Blk.far hbz (by dsimp only; omega) _) (by dsimp only; omega) _) (by dsimp only; omega) _
    have hcq : Chg No w (((wz.setCell ⟨w.heap.size + 1, 0, none⟩ (.int .i64 2)).setCell ⟨w.heap.size + 1, 1, none⟩ (.int .i64 0)).setCell ⟨w.heap.size + 1, 2, none⟩ (.string ⟨#[]⟩)) :=
      (((hc0.then_ hcz fun k hk e => by unfold One at e; omega).setCell _ fun e => by dsimp only at e; omega).setCell _ fun e => by dsimp only at e; omega).setCell _ fun e => by dsimp only at e; omega
    refine ⟨_, res_xf rfl rfl rfl hbq (by simpa using hfq), ?_⟩
    rw [← hP]
    exact ParsePost.zero hP hcq
  · have hP : parseP s = match patGo s (5 * s.size + 4) [] 0 with
        | .bad c p => (zeroEx, c, p)
        | .ok x j => if j < s.size then (zeroEx, 22, j) else if checkP x = 0 then (x, 0, 0) else (zeroEx, checkP x, 0) := by unfold parseP; rw [if_neg h0]
    have HP := Lib.hid hP
    clear hP
    have hs : s.size ≤ 4096 := by omega
    have hr0 : Rdr (((w.alloc (.cells #[.int .i64 0, .int .i64 0, .int .i64 0, .int .i64 0, .int .i64 0, .slice none 0 0] 25)).alloc (.cells #[.int .i64 0, .int .i64 0, .string ⟨#[]⟩] 28)).alloc (.cells #[.string s, .int .i64 0] 72)) (w.heap.size + 2) s 0 := Blk.new' (by simp)
    have hb1 := hb0.alloc (.cells #[.string s, .int .i64 0] 72)
    have hf1 := hf0.alloc (.cells #[.string s, .int .i64 0] 72)
    have hc1 := hc0.alloc (.cells #[.string s, .int .i64 0] 72)
    rw [World.size_alloc] at hf1
    clear hb0 hf0 hc0
    go_wp2_with fail
    refine ((read_all (5 * s.size + 4)).1 _ _ s 0 hr0 (by omega) (by omega) (by omega)).mono ?_
    intro e w2 hp
    have hne : ∀ k, k ≤ w.heap.size + 1 → ¬ One (w.heap.size + 2) k := fun k hk e => by unfold One at e; omega
    cases hq : patGo s (5 * s.size + 4) [] 0 with
    | bad c p =>
      rw [hq] at hp
      obtain ⟨rfl, hc2⟩ := hp
      rw [hq] at HP
      have hb2 := hb1.chg hc2 (hne _ (by omega))
      have hf2 := hf1.chg hc2 (hne _ (by omega))
      have hc3 : Chg No w w2 := hc1.then_ hc2 fun k hk e => by unfold One at e; omega
      refine door_fault (t0 := 2) (t1 := 3) (Nat.lt_succ_self _) rfl rfl rfl rfl hb2 hf2 fun w3 hc4 => ParsePost.zero HP.out (hc3.then_ hc4 fun k hk e => by omega)
    | ok x j =>
      rw [hq] at hp
      obtain ⟨A, n, c, rfl, hsl, hr2, hc2⟩ := hp
      have hj := (read_ok s _).1 _ _ _ _ (by omega) hq
      rw [hq] at HP
      have hb2 := hb1.chg hc2 (hne _ (by omega))
      have hf2 := hf1.chg hc2 (hne _ (by omega))
      have hc3 : Chg No w w2 := hc1.then_ hc2 fun k hk e => by unfold One at e; omega
      have hsl2 : Sl w2 (fun k => w.heap.size + 2 < k) A n c x.l := hsl.mono fun k hk => by simp at hk; omega
      clear hq hb1 hf1 hc1 hc2 hsl hr0 hne
      go_wp2_with (refine wpList_store_ex rfl _ _ rfl _ _ _ _ _ _ _ hb2 rfl _ _ _ _ _ _ _ _ rfl ?_; intro wz hbz hcz)
      have hfz := hf2.chg hcz fun e => by unfold One at e; omega
      have hrz := Blk.chg hr2 hcz fun e => by unfold One at e; omega
      have hcw : Chg No w wz := hc3.then_ hcz fun k hk e => by unfold One at e; omega
      have hslz : Sl wz (fun k => w.heap.size + 2 < k) A n c x.l := hsl2.chg hcz fun k hk e => by unfold One at e; omega
      clear hb2 hf2 hr2 hsl2 hc3 hcz
      by_cases q : j < s.size
      · have hP : parseP s = (zeroEx, 22, j) := by rw [HP.out]; exact if_pos q
        refine (more_any _ _ s j true hrz (by simpa using q)).mono ?_
        rintro e w3 ⟨rfl, nd, rfl⟩
        have c1 := Rdr.c1 hrz
        go_wp2_with fail
        refine (wrong_any _ j).mono ?_
        rintro e w4 ⟨rfl, rfl⟩
        refine door_fault (t0 := 2) (t1 := 3) (Nat.lt_succ_self _) rfl rfl rfl rfl (hbz.drewN nd) (hfz.drewN nd) fun w3 hc4 => ParsePost.zero hP ((hcw.drewN nd).then_ hc4 fun k hk e => by omega)
      · have hP : parseP s = if checkP x = 0 then (x, 0, 0) else (zeroEx, checkP x, 0) := by rw [HP.out]; exact if_neg q
        have HQ := Lib.hid hP
        clear hP HP
        refine (more_any _ _ s j false hrz (by simpa using q)).mono ?_
        rintro e w3 ⟨rfl, nd, rfl⟩
        have z0 := hbz.cell 0
        have z1 := hbz.cell 1
        have z2 := hbz.cell 2
        have z3 := hbz.cell 3
        have z4 := hbz.cell 4
        have z5 := hbz.cell 5
        simp only [List.getElem?_toArray, List.getElem?_cons_zero, List.getElem?_cons_succ] at z0 z1 z2 z3 z4 z5
        have hck := check_any (wz.drewN nd) x.k x.f x.t x.a x.b A n c x.l _ (hslz.drewN nd)
        rw [Ex.eta] at hck
        obtain ⟨u, hu⟩ : ∃ u, checkP x = u := ⟨_, rfl⟩
        rw [hu] at hck
        have HX : Hid (parseP s = if u = 0 then (x, 0, 0) else (zeroEx, u, 0)) := Lib.hid (by rw [HQ.out, hu])
        clear HQ hu
        go_wp2_with fail
        refine hck.mono ?_
        rintro e w4 ⟨rfl, hc4⟩
        clear hck
        have hb4 := (hbz.drewN nd).chg hc4 id
        have hf4 := (hfz.drewN nd).chg hc4 id
        have hsl4 := (hslz.drewN nd).chgNo hc4
        have hcw4 := (hcw.drewN nd).trans hc4
        clear hbz hfz hslz hcw hc4 z0 z1 z2 z3 z4 z5
        by_cases q0 : u = 0
        · have hP : parseP s = (x, 0, 0) := by rw [HX.out, if_pos q0]
          subst q0
          have z0 := hb4.cell 0
          have f0 := hb4.frozen 0
          have z1 := hb4.cell 1
          have f1 := hb4.frozen 1
          have z2 := hb4.cell 2
          have f2 := hb4.frozen 2
          have z3 := hb4.cell 3
          have f3 := hb4.frozen 3
          have z4 := hb4.cell 4
          have f4 := hb4.frozen 4
          have z5 := hb4.cell 5
          have f5 := hb4.frozen 5
          have y0 := hf4.cell 0
          have g0 := hf4.frozen 0
          have y1 := hf4.cell 1
          have g1 := hf4.frozen 1
          have y2 := hf4.cell 2
          have g2 := hf4.frozen 2
          simp only [List.getElem?_toArray, List.getElem?_cons_zero, List.getElem?_cons_succ] at z0 z1 z2 z3 z4 z5 y0 y1 y2
          clear HX
          go_wp2
          go_region
          all_goals
            go_wp2
            refine door_idle (t0 := 2) (t1 := 3) (g := w.heap.size) (h := w.heap.size + 1) (k := x.k) (f := x.f) (t := x.t) (a' := x.a) (b := x.b) (A := A) (n := n) (c := c) (u := 0) (v := 0) (m := ⟨#[]⟩) rfl rfl rfl rfl ?_ ?_ ?_
            · unfold Blk at hb4 ⊢
              simp [World.setCell, World.drew, Array.getElem?_modify, hb4]
            · unfold Blk at hf4 ⊢
              simp [World.setCell, World.drew, Array.getElem?_modify, hf4]
            · rw [hP]
              refine ⟨A, n, c, rfl, ?_, ?_⟩
              · refine Sl.mono (Sl.chg (T := fun k => k ≤ w.heap.size + 1) hsl4 ?_ fun k hk e => by omega) fun k hk => by omega
                repeat' (first | with_reducible exact Chg.refl _ _ | with_reducible refine Chg.drew ?_ | with_reducible refine Chg.setCell ?_ _ ?_ | exact fun _ => by dsimp only; omega)
              · repeat' (first | with_reducible exact hcw4 | with_reducible refine Chg.drew ?_ | with_reducible refine Chg.setCell ?_ _ ?_ | exact fun e => by dsimp only at e; omega)
        · have hP : parseP s = (zeroEx, u, 0) := by rw [HX.out, if_neg q0]
          have e1 : (u != 0) = true := by simpa using q0
          clear HX
          go_wp2_with (refine wpList_store_ex rfl _ _ rfl _ _ _ _ _ _ _ hb4 rfl _ _ _ _ _ _ _ _ rfl ?_; intro wy hby hcy; have hfy := hf4.chg hcy (fun e => by unfold One at e; omega); have q0 := hfy.cell 0; have q1 := hfy.cell 1; have q2 := hfy.cell 2; have r0 := hfy.frozen 0; have r1 := hfy.frozen 1; have r2 := hfy.frozen 2; simp only [List.getElem?_toArray, List.getElem?_cons_zero, List.getElem?_cons_succ] at q0 q1 q2 r0 r1 r2)
          have hfq := ((hfy.set_ 0 (.int .i64 u)).set_ 1 (.int .i64 0)).set_ 2 (.string ⟨#[]⟩)
          have hbq : Blk (((wy.setCell ⟨w.heap.size + 1, 0, none⟩ (.int .i64 u)).setCell ⟨w.heap.size + 1, 1, none⟩ (.int .i64 0)).setCell ⟨w.heap.size + 1, 2, none⟩ (.string ⟨#[]⟩)) w.heap.size 25 #[.int .i64 0, .int .i64 0, .int .i64 0, .int .i64 0, .int .i64 0, .slice none 0 0] :=
            Blk.far (Blk.far (Blk.far hby (by dsimp only; omega) _) (by dsimp only; omega) _) (by dsimp only; omega) _
          have hcq : Chg No w (((wy.setCell ⟨w.heap.size + 1, 0, none⟩ (.int .i64 u)).setCell ⟨w.heap.size + 1, 1, none⟩ (.int .i64 0)).setCell ⟨w.heap.size + 1, 2, none⟩ (.string ⟨#[]⟩)) :=
            (((hcw4.then_ hcy fun k hk e => by unfold One at e; omega).setCell _ fun e => by dsimp only at e; omega).setCell _ fun e => by dsimp only at e; omega).setCell _ fun e => by dsimp only at e; omega
          exact door_idle (t0 := 2) (t1 := 3) rfl rfl rfl rfl hbq (by simpa using hfq) (ParsePost.zero hP hcq)
end Go.Proofs.YticipgjbgcdccaaDoor
