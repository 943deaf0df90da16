/- Package expr: (net).add, newNet: contracts.
   Package expr: what (net).run leans on: bytes in memory, clear.
   Package expr: (net).run: contract.
   Package expr: Match, Longest, Live: contracts. Printed by gen_mt.py.
   Package graftlaw2: known: the document's examples: contract. -/
import Derived.Test.YticipgjbgcdccaaDoorZ7
import Derived.Test.YticipgjbgcdccaaDoorZ4
import Derived.Lib.SliceRun
import Derived.ScopeJumps
import Derived.WalkMore
import Derived.Test.YticipgjbgcdccaaDoorZ3
import Derived.Lib.SlBytesConst
set_option linter.unusedSimpArgs false
set_option linter.unusedVariables false
namespace Go.Proofs.YticipgjbgcdccaaDoor
open Go.RowKit

set_option maxHeartbeats 1000000 in
set_option maxRecDepth 100000 in
theorem add_rep (f0 t0 a b : Int) (y : Ex) (hR : rightP (.mk 4 f0 t0 a b [y]) = true) (hnd : nodesP y ≤ 4096) (hC : copiesP a b ≠ 0 → AddC y) (hpos : positionsP y * copiesP a b ≤ 4096) : AddC (.mk 4 f0 t0 a b [y]) := by
  intro base G sz n vt vf v3 v4 v5 fb A ln c w hz hn hd hg hl hok hr1 hr2
  simp only [Ex.k, Ex.f, Ex.t, Ex.a, Ex.b, Ex.l] at hl ⊢
  obtain rfl : ln = 1 := hl.1
  have hpy := positionsP_le y ((rightP_head hR).2 y (by simp))
  have hcp := copiesP_le (rightP_head hR).1 rfl
  have hE : positionsP (.mk 4 f0 t0 a b [y]) = positionsP y * copiesP a b := by
    conv => lhs; unfold positionsP
    rw [if_neg (by omega), if_pos rfl, show positionsS [y] = positionsP y by simp [positionsS]]
    exact Int.min_eq_left (by omega)
  rw [hE] at hr1 hr2
  have hF : addP (.mk 4 f0 t0 a b [y]) n = repP (positionsS [y]) a b (addsP [y]) n := by unfold addP; rw [if_neg (by omega), if_neg (by omega), if_pos rfl]
  rw [hF]
  have hx := Blk.new w 25 #[.int .i64 4, .int .i64 f0, .int .i64 t0, .int .i64 a, .int .i64 b, .slice A 1 c]
  have c0 : Chg No w ((w.alloc (.cells #[.int .i64 4, .int .i64 f0, .int .i64 t0, .int .i64 a, .int .i64 b, .slice A 1 c] 25)).alloc (.cells #[.bool false, .slice none 0 0, .slice none 0 0] 109)) := ((Chg.refl No w).alloc _).alloc _
  have hr0 : Blk ((w.alloc (.cells #[.int .i64 4, .int .i64 f0, .int .i64 t0, .int .i64 a, .int .i64 b, .slice A 1 c] 25)).alloc (.cells #[.bool false, .slice none 0 0, .slice none 0 0] 109)) (w.heap.size + 1) 109 #[.bool false, .slice none 0 0, .slice none 0 0] := Blk.new' (by simp)
  have nA := hn.keepNo c0
  have hrep := rep_any f0 t0 a b y hR hnd hC hpos base G sz n vt vf v3 v4 v5 fb A c _ hz nA (hd.chg c0 id) hg (hl.chgNo c0) hok hr1 hr2
  obtain ⟨r, hr⟩ : ∃ r, repP (positionsS [y]) a b (addsP [y]) n = r := ⟨_, rfl⟩
  rw [hr] at hrep ⊢
  obtain ⟨n1, o⟩ := r
  have nR := nA.not_net hr0 (by decide) (by decide) (by decide) (.inl (by decide))
  unfold AddPost partV at hrep
  simp only at hrep
  clear hr hF hE hpos hR hC
  go_enter Tryd.func90, Tryd.ntmps90
  go_wp2_with fail
  refine hrep.mono ?_
  rintro e w1 ⟨vt', vf', fb', f, l, rfl, hG, hP, hf, hl', hfl⟩
  have hr1' := hr0.chg hG.chg nR
  obtain ⟨q1, q2, q3, q4, q5, q6⟩ := part_cells hr1'
  go_wp2
  have hbz := ((hr1'.set_ 0 (.bool o.e)).set_ 1 (.slice (some ⟨f, 0, none⟩) sz sz)).set_ 2 (.slice (some ⟨l, 0, none⟩) sz sz)
  refine bodyPost_ret_part rfl rfl rfl hbz ?_
  have hzz := c0.size
  refine add_close _ _ _ (Grow.trans (Grow.start hn c0) hG) hP (by omega) (by omega) hfl hr1' (by omega)

/-- a right pattern of no more than 4096 positions is laid down as addP says -/
theorem add_any : ∀ (N : Nat) (x : Ex), SizeOf.sizeOf x < N → rightP x = true → nodesP x ≤ 4096 → positionsP x ≤ 4096 → AddC x := by
  intro N
  induction N with
  | zero => intro _ h; omega
  | succ N ih =>
    intro x hz hR hn hp
    obtain ⟨k, f, t, a, b, l⟩ := x
    obtain ⟨hh, hr⟩ := rightP_head hR
    have hns : ∀ y ∈ l, nodesP y ≤ 4096 := fun y hy => by
      have := nodesS_mem l y hy
      unfold nodesP at hn; omega
    have hsz : ∀ y ∈ l, SizeOf.sizeOf y < N := fun y hy => by
      have := Ex.lt_of_mem hy k f t a b
      omega
    have hk : k = 1 ∨ k = 2 ∨ k = 3 ∨ k = 4 := by
      unfold headOk at hh
      by_cases h1 : k = 1
      · exact .inl h1
      · by_cases h2 : k = 2
        · exact .inr (.inl h2)
        · by_cases h3 : k = 3
          · exact .inr (.inr (.inl h3))
          · by_cases h4 : k = 4
            · exact .inr (.inr (.inr h4))
            · rw [if_neg h1, if_neg h2, if_neg h3, if_neg h4] at hh; cases hh
    rcases hk with rfl | rfl | rfl | rfl
    · intro base G sz n vt vf v3 v4 v5 fb A ln c w hz hnet hd hg hl hok hr1 hr2
      have e : positionsP (.mk 1 f t a b l) = 1 := by unfold positionsP; rw [if_pos rfl]
      rw [e] at hr1 hr2
      exact add_range base G sz n vt vf v3 v4 v5 fb f t a b l A ln c w hz hnet hok.len (by simp at hr1; omega) (by simp at hr2; omega)
    · have hpS : positionsS l ≤ 4096 := by
        have := positionsS_le l hr
        unfold positionsP at hp
        rw [if_neg (by omega), if_neg (by omega)] at hp; omega
      exact add_seq f t a b l hR (fun y hy => ih y (hsz y hy) (hr y hy) (hns y hy) (by have := positionsP_le_S l hr y hy; omega)) hpS
    · have hpS : positionsS l ≤ 4096 := by
        have := positionsS_le l hr
        unfold positionsP at hp
        rw [if_neg (by omega), if_neg (by omega)] at hp; omega
      exact add_alt f t a b l hR (fun y hy => ih y (hsz y hy) (hr y hy) (hns y hy) (by have := positionsP_le_S l hr y hy; omega)) hpS
    · have hlen : l.length = 1 := by simp [headOk] at hh; omega
      obtain ⟨y, rfl⟩ := List.length_eq_one_iff.1 hlen
      have hpy := positionsP_le y (hr y (by simp))
      have hcp := copiesP_le hh rfl
      have hpS : positionsP y * copiesP a b ≤ 4096 := by
        unfold positionsP at hp
        rw [if_neg (by omega), if_pos rfl, show positionsS [y] = positionsP y by simp [positionsS]] at hp
        omega
      refine add_rep f t a b y hR (hns y (by simp)) (fun hc => ih y (hsz y (by simp)) (hr y (by simp)) (hns y (by simp)) ?_) hpS
      have : positionsP y * 1 ≤ positionsP y * copiesP a b := Int.mul_le_mul_of_nonneg_left (by omega) hpy.1
      omega

theorem Sl.below {w : World} {S : Nat → Prop} {A : Option Addr} {n c : Nat} {l : List Ex} (h : Sl w S A n c l) : Sl w (fun k => k < w.heap.size) A n c l := h.keep (fun _ _ _ => rfl) (fun _ _ hk => hk) (Nat.le_refl _)
/-- the whole pattern's part is stored in the net -/
theorem NetAt.set_all {w : World} {base G sz : Nat} {n : Nt} {vt vf v3 v4 v5 : Value} {fb : List Nat} (h : NetAt w base G sz n vt vf v3 v4 v5 fb) (x y z : Value) :
    NetAt (((w.setCell ⟨G, 3, none⟩ x).setCell ⟨G, 4, none⟩ y).setCell ⟨G, 5, none⟩ z) base G sz n vt vf x y z fb := by
  have c : Chg (One G) w (((w.setCell ⟨G, 3, none⟩ x).setCell ⟨G, 4, none⟩ y).setCell ⟨G, 5, none⟩ z) := Chg.setCell (S := One G) (Chg.setCell (S := One G) (Chg.setCell (S := One G) (Chg.refl (One G) w) (p := ⟨G, 3, none⟩) _ fun _ => rfl) (p := ⟨G, 4, none⟩) _ fun _ => rfl) (p := ⟨G, 5, none⟩) _ fun _ => rfl
  refine ⟨((h.blk.set_ 3 x).set_ 4 y).set_ 5 z, ownsRow_chg h.tk c fun k cs _ hb e => ?_, ownsRow_chg h.fo c fun k cs _ hb e => ?_, h.len, h.nodup, fun p g m hp hm => (h.sets p g m hp hm).chg c fun e => (h.sets p g m hp hm).1.ne_ h.blk (by decide) e, h.old⟩
  · exact hb.ne_ h.blk (by decide) e
  · exact hb.ne_ h.blk (by decide) e

/-- what newNet answers, and leaves -/
def NewPost (w : World) (x : Ex) (e : Ending) (w' : World) : Prop :=
  ∃ G vt vf fb f l, e = .returned (.pointer (some ⟨G, 0, none⟩)) ∧ NetAt w' w.heap.size G (sizeP x) (newP x).1 vt vf (.bool (newP x).2.e) (setV (sizeP x) f) (setV (sizeP x) l) fb ∧ PartAt w' (sizeP x) f l fb (newP x).2 ∧ f ≠ l ∧ Chg No w w'

set_option maxHeartbeats 1000000 in
set_option maxRecDepth 100000 in
theorem newNet_any (x : Ex) (hR : rightP x = true) (hnd : nodesP x ≤ 4096) (hp : positionsP x ≤ 4096) (A : Option Addr) (ln c : Nat) (S : Nat → Prop) (w : World) (hl : Sl w S A ln c x.l) (hd : Deb w) (hg : 0 < w.heap.size) :
    Calls Tryd.prog 57 #[.agg #[.int .i64 x.k, .int .i64 x.f, .int .i64 x.t, .int .i64 x.a, .int .i64 x.b, .slice A ln c]] w (NewPost w x) := by
  have hb := Blk.new w 25 #[.int .i64 x.k, .int .i64 x.f, .int .i64 x.t, .int .i64 x.a, .int .i64 x.b, .slice A ln c]
  have hc0 : Chg No w (w.alloc (.cells #[.int .i64 x.k, .int .i64 x.f, .int .i64 x.t, .int .i64 x.a, .int .i64 x.b, .slice A ln c] 25)) := (Chg.refl _ _).alloc _
  have hps := positions_any _ x.k x.f x.t x.a x.b A ln c x.l S _ (Nat.lt_succ_self _) (hl.chgNo hc0) (by rw [Ex.eta]; exact hR) (by rw [Ex.eta]; exact hnd)
  rw [Ex.eta] at hps
  have hp0 := positionsP_le x hR
  obtain ⟨P, hP⟩ : ∃ P : Nat, positionsP x = (P : Int) := ⟨(positionsP x).toNat, by omega⟩
  have hsz : sizeP x = P / 64 + 1 := by unfold sizeP; rw [hP]; simp
  have hadd := add_any _ x (Nat.lt_succ_self _) hR hnd hp
  rw [hP] at hps hp
  have HP := Lib.hid hP
  have HZ := Lib.hid hsz
  clear hP hsz
  go_enter Tryd.func57, Tryd.ntmps57
  go_wp2_with fail
  refine hps.mono ?_
  rintro e w1 ⟨rfl, hc1⟩
  have hb1 := hb.chg hc1 id
  have y0 := hb1.cell 0
  have y1 := hb1.cell 1
  have y2 := hb1.cell 2
  have y3 := hb1.cell 3
  have y4 := hb1.cell 4
  have y5 := hb1.cell 5
  simp only [List.getElem?_toArray, List.getElem?_cons_zero, List.getElem?_cons_succ] at y0 y1 y2 y3 y4 y5
  have hq : (P : Int).tdiv 64 = ((P / 64 : Nat) : Int) := by rw [Int.tdiv_eq_ediv_of_nonneg (by omega)]; omega
  have hcast : ((P : Int) / 64 + 1) = ((sizeP x : Nat) : Int) := by rw [HZ.out]; omega
  have cN : Chg No w1 (w1.alloc (.cells #[.int .i64 ((sizeP x : Nat) : Int), .slice none 0 0, .slice none 0 0, .bool false, .slice none 0 0, .slice none 0 0] 111)) := (Chg.refl No w1).alloc _
  have hb2 := hb1.chg cN id
  clear y0 y1 y2 y3 y4 y5
  have y0 := hb2.cell 0
  have y1 := hb2.cell 1
  have y2 := hb2.cell 2
  have y3 := hb2.cell 3
  have y4 := hb2.cell 4
  have y5 := hb2.cell 5
  simp only [List.getElem?_toArray, List.getElem?_cons_zero, List.getElem?_cons_succ] at y0 y1 y2 y3 y4 y5
  have c2 : Chg No w (w1.alloc (.cells #[.int .i64 ((sizeP x : Nat) : Int), .slice none 0 0, .slice none 0 0, .bool false, .slice none 0 0, .slice none 0 0] 111)) := (hc0.trans hc1).trans cN
  have hz1 := (hc0.trans hc1).size
  have hz0 := hc0.size
  have hz2 := hc1.size
  have hnet : NetAt (w1.alloc (.cells #[.int .i64 ((sizeP x : Nat) : Int), .slice none 0 0, .slice none 0 0, .bool false, .slice none 0 0, .slice none 0 0] 111)) w.heap.size w1.heap.size (sizeP x) ⟨[], []⟩ (.slice none 0 0) (.slice none 0 0) (.bool false) (.slice none 0 0) (.slice none 0 0) [] := by
    refine ⟨?_, ⟨rfl, .inl ⟨rfl, rfl⟩⟩, ⟨rfl, .inl ⟨rfl, rfl⟩⟩, rfl, by simp, fun p g m hp _ => by simp at hp, hz1, fun g hg => by simp at hg⟩
    have := Blk.new w1 111 #[.int .i64 ((sizeP x : Nat) : Int), .slice none 0 0, .slice none 0 0, .bool false, .slice none 0 0, .slice none 0 0]
    exact this
  have hcall := hadd w.heap.size w1.heap.size (sizeP x) ⟨[], []⟩ (.slice none 0 0) (.slice none 0 0) (.bool false) (.slice none 0 0) (.slice none 0 0) [] A ln c (w1.alloc (.cells #[.int .i64 ((sizeP x : Nat) : Int), .slice none 0 0, .slice none 0 0, .bool false, .slice none 0 0, .slice none 0 0] 111)) (by rw [HZ.out]; omega) hnet (hd.chg c2 id) hg (hl.below.chgNo c2) ⟨rfl, by simp, fun m hm => by simp at hm⟩ (by rw [HP.out, HZ.out]; simp; omega) (by rw [HP.out]; simp; omega)
  have hnb : newP x = addP x ⟨[], []⟩ := rfl
  rw [← hnb] at hcall
  unfold AddPost partV at hcall
  unfold NewPost
  obtain ⟨r, hr⟩ : ∃ r, newP x = r := ⟨_, rfl⟩
  rw [hr] at hcall
  obtain ⟨n1, o⟩ := r
  simp only at hcall
  have HRr := Lib.hid hr
  clear hr hadd
  go_wp2_with fail
  refine hcall.mono ?_
  rintro e w2 ⟨vt', vf', fb', f, l, rfl, hG, hP, hf, hl', hfl⟩
  have z3 := hG.net.blk.cell 3
  have z4 := hG.net.blk.cell 4
  have z5 := hG.net.blk.cell 5
  have f3 := hG.net.blk.frozen 3
  have f4 := hG.net.blk.frozen 4
  have f5 := hG.net.blk.frozen 5
  simp only [List.getElem?_toArray, List.getElem?_cons_zero, List.getElem?_cons_succ] at z3 z4 z5
  clear hcall
  go_wp2
  go_ret
  have cG : ∀ a b c : Value, Chg (One w1.heap.size) w2 (((w2.setCell ⟨w1.heap.size, 3, none⟩ a).setCell ⟨w1.heap.size, 4, none⟩ b).setCell ⟨w1.heap.size, 5, none⟩ c) := fun a b c =>
    Chg.setCell (S := One w1.heap.size) (Chg.setCell (S := One w1.heap.size) (Chg.setCell (S := One w1.heap.size) (Chg.refl (One w1.heap.size) w2) (p := ⟨w1.heap.size, 3, none⟩) _ fun _ => rfl) (p := ⟨w1.heap.size, 4, none⟩) _ fun _ => rfl) (p := ⟨w1.heap.size, 5, none⟩) _ fun _ => rfl
  unfold NewPost
  rw [HRr.out]
  have hbG := hG.net.blk
  refine ⟨w1.heap.size, vt', vf', fb', f, l, rfl, hG.net.set_all _ _ _, ⟨hP.F.chg (cG _ _ _) fun e => hP.F.1.ne_ hbG (by decide) e, hP.L.chg (cG _ _ _) fun e => hP.L.1.ne_ hbG (by decide) e, hP.nF, hP.nL⟩, hfl, ?_⟩
  refine ((c2.then_ hG.chg fun i hi e => ?_).then_ (cG _ _ _) fun i hi e => ?_)
  · have := hnet.base_le e
    omega
  · have e' : i = w1.heap.size := e
    omega
end Go.Proofs.YticipgjbgcdccaaDoor
namespace Go.Proofs.YticipgjbgcdccaaDoor
open Go.RowKit

/-- a slice that reads as a row of bytes -/
def Byt (w : World) (A : Option Addr) (n c : Nat) (bs : List Nat) : Prop :=
  n = bs.length ∧ bs.length ≤ c ∧ c ≤ 9223372036854775807 ∧ (bs ≠ [] → ∃ g o, A = some ⟨g, o, none⟩ ∧ g < w.heap.size ∧ ∀ (i x : Nat), bs[i]? = some x → w.cell? ⟨g, o + i, none⟩ = some (.int .u8 (x : Int)) ∧ x < 256)
theorem Byt.chgNo {w w' : World} {A : Option Addr} {n c : Nat} {bs : List Nat} (h : Byt w A n c bs) (hc : Chg No w w') : Byt w' A n c bs := by
  obtain ⟨h1, h2, h3, h4⟩ := h
  refine ⟨h1, h2, h3, fun hb => ?_⟩
  obtain ⟨g, o, e, hg, hx⟩ := h4 hb
  exact ⟨g, o, e, by have := hc.size; omega, fun i x hi => ⟨(hc.below.cell (p := ⟨g, o + i, none⟩) hg).trans (hx i x hi).1, (hx i x hi).2⟩⟩

set_option maxRecDepth 100000 in
theorem zero_u64 (w : World) : (zeroValue 133).run Tryd.prog w = .ok (.int .u64 0) w := by
  obtain ⟨i, hi, hz⟩ := Option.map_eq_some_iff.1 info_u64
  simp only [Prod.mk.injEq] at hz
  simp [zeroValue, typeInfo, hi, hz.1]
set_option maxRecDepth 100000 in
/-- 'clear(s)' of a set -/
theorem clear_set {w : World} {g sz m : Nat} (h : SetAt w g sz m) (hz : 0 < sz) : ∃ w', (∀ ty, (Builtin.clear_ #[107] ty #[.slice (some ⟨g, 0, none⟩) sz sz]).run Tryd.prog w = .ok (.tuple #[]) w') ∧ SetAt w' g sz 0 ∧ Chg (One g) w w' := by
  obtain ⟨cs', h1, h2, h3, h4⟩ := setCells_blk (t := 133) (List.replicate sz (.int .u64 0)) 0 w (cellsP sz m) h.1 (by simp [cellsP])
  refine ⟨w.setCells g 0 (List.replicate sz (.int .u64 0)), fun ty => Lib.run_clear_slice w 107 133 ty (.int .u64 0) rfl zero_u64 rfl rfl g 0 sz sz hz (fun j hj => ?_) (fun j _ => ?_), ⟨?_, Nat.two_pow_pos _⟩, h4⟩
  · rw [Nat.zero_add, h.cell j hj]; rfl
  · rw [Nat.zero_add]; exact h.1.frozen j
  · have : cs' = cellsP sz 0 := by
      apply Array.ext_getElem?
      intro j
      rw [h3 j, cellsP_get, cellsP_get]
      simp only [List.length_replicate, Nat.zero_add, Nat.zero_le, true_and, Nat.sub_zero]
      by_cases q : j < sz
      · simp [q, List.getElem?_replicate, wordP_zero]
      · simp [q]
    rw [this] at h1
    exact h1
end Go.Proofs.YticipgjbgcdccaaDoor
namespace Go.Proofs.YticipgjbgcdccaaDoor
open Go.RowKit
attribute [local go_sem] Oper.semAt_some

/-- what holds at each byte: next in X, the spare set in Y; nxt, num: the variables' blocks -/
structure RunI (w wr : World) (G sz : Nat) (B : Option Addr) (bn cb : Nat) (ds : List Deferred) (X Y nxt num i next : Nat) : Prop where
  chg : Chg No w wr
  hbn : Blk wr w.heap.size 83 #[.pointer (some ⟨G, 0, none⟩)]
  hbb : Blk wr (w.heap.size + 1) 41 #[.slice B bn cb]
  sX : SetAt wr X sz next
  sY : ∃ m, SetAt wr Y sz m
  ne : X ≠ Y
  hX : w.heap.size ≤ X
  hY : w.heap.size ≤ Y
  hbx : Blk wr nxt 107 #[setV sz X]
  hbi : Blk wr num 3 #[.int .i64 (i : Int)]
  hx : w.heap.size ≤ nxt
  hi : w.heap.size ≤ num
  hds : ∃ Ds : List Nat, ds = Ds.map (fun D => { target := .collected D, args := #[] }) ∧ Ds.Nodup ∧ ∀ D ∈ Ds, w.heap.size ≤ D ∧ wr.heap[D]? = some (.deferred (some []))

/-- behind 'next, spare := n.set(), n.set()' -/
def RunCut (w W0 : World) (sz : Nat) (s7 s8 : Value) (wx : World) : Prop :=
  ∃ X Y nxt, s7 = .pointer (some ⟨nxt, 0, none⟩) ∧ s8 = setV sz Y ∧ Chg No W0 wx ∧ SetAt wx X sz 0 ∧ SetAt wx Y sz 0 ∧ X ≠ Y ∧ w.heap.size ≤ X ∧ w.heap.size ≤ Y ∧ Blk wx nxt 107 #[setV sz X] ∧ w.heap.size ≤ nxt
theorem cut_alloc {w W0 w3 : World} {sz p q : Nat} (k3 : Chg No W0 w3) (sp : SetAt w3 p sz 0) (sq : SetAt w3 q sz 0) (ne : p ≠ q) (hp : w.heap.size ≤ p) (hq : w.heap.size ≤ q) (hw : w.heap.size ≤ w3.heap.size) :
    RunCut w W0 sz (.pointer (some ⟨w3.heap.size, 0, none⟩)) (.slice (some ⟨q, 0, none⟩) sz sz) (w3.alloc (.cells #[.slice (some ⟨p, 0, none⟩) sz sz] 107)) :=
  ⟨p, q, w3.heap.size, rfl, rfl, k3.alloc _, ⟨sp.1.alloc _, sp.2⟩, ⟨sq.1.alloc _, sq.2⟩, ne, hp, hq, Blk.new _ _ _, hw⟩
theorem cut_set {w W0 w3 : World} {sz p q g : Nat} {v : Value} (k3 : Chg No W0 w3) (sp : SetAt w3 p sz 0) (sq : SetAt w3 q sz 0) (bx : Blk w3 g 107 #[v]) (ne : p ≠ q) (hp : w.heap.size ≤ p) (hq : w.heap.size ≤ q) (hg : w.heap.size ≤ g) (hgW : W0.heap.size ≤ g) :
    RunCut w W0 sz (.pointer (some ⟨g, 0, none⟩)) (.slice (some ⟨q, 0, none⟩) sz sz) (w3.setCell ⟨g, 0, none⟩ (.slice (some ⟨p, 0, none⟩) sz sz)) := by
  have c : Chg (One g) w3 (w3.setCell ⟨g, 0, none⟩ (.slice (some ⟨p, 0, none⟩) sz sz)) := Chg.setCell (S := One g) (Chg.refl (One g) w3) (p := ⟨g, 0, none⟩) _ fun _ => rfl
  exact ⟨p, q, g, rfl, rfl, k3.then_ c fun i hi e => by have e' : i = g := e; omega, sp.chg c fun e => sp.1.ne_ bx (by decide) e, sq.chg c fun e => sq.1.ne_ bx (by decide) e, ne, hp, hq, bx.set_ 0 _, hg⟩

/-- the function returns two slots, behind loops over functions that deferred nothing -/
theorem leaves_two {fn : Func} {R : Ending → World → Prop} {tmps : Array Value} {k : Nat} {t0 t1 : Tmp} {x y : Value} (h : fn.results = #[.tmp t0, .tmp t1]) (hx : tmps.getD t0 undef = x) (hy : tmps.getD t1 undef = y) :
    ∀ (Ds : List Nat) (w : World), Ds.Nodup → (∀ D ∈ Ds, w.heap[D]? = some (.deferred (some []))) → (∀ w', Chg (fun k => k ∈ Ds) w w' → R (.returned (.tuple #[x, y])) w') →
    LeavesInM Fence.wide k Tryd.prog fn tmps R (Ds.map fun D => { target := .collected D, args := #[] }) .returning w
  | [], w, _, _, hR => by
    simp only [Array.getD_eq_getD_getElem?] at hx hy
    exact ⟨_, by simp [results, h, hx, hy, go_sem], hR w (Chg.refl _ w)⟩
  | D :: Ds, w, hn, hD, hR => by
    have hn' := List.nodup_cons.1 hn
    refine ⟨by simp, .inl ⟨_, _, rfl, run_takeDeferred (hD D (by simp)), leaves_two h hx hy Ds _ hn'.2 (fun E hE => ?_) fun w' hc => hR w' ?_⟩⟩
    · have hne : E ≠ D := fun e => hn'.1 (e ▸ hE)
      exact (World.putObj_heap_other hne).trans (hD E (by simp [hE]))
    · exact (Chg.putObj (Chg.refl _ w) _ fun _ => by simp).then_ hc fun i _ e => by simp [e]

/-- what holds between two rounds over the positions that may come next -/
def RunR (ws : World) (n : Nt) (L c sz Y eb : Nat) {m : Nat} (pre : List (Mem m)) (W : World) : Prop :=
  Chg (fun k => k = Y ∨ k = eb) ws W ∧ SetAt W Y sz (stepP n L c (pre.map (·.1))).1 ∧ Blk W eb 4 #[.bool (stepP n L c (pre.map (·.1))).2]
theorem RunR.own (ws : World) (n : Nt) (L c sz Y eb m : Nat) : OwnFrom ws.heap.size (RunR ws n L c sz Y eb (m := m)) := by
  intro s W W' row hs hg hr
  have hc : Chg (fun k => row = some k) W W' := Chg.of_grown hg fun k e _ => e
  have key : ∀ g t cs, Blk W g t cs → ¬ row = some g := fun g t cs hb e => by
    obtain ⟨_, o, ho, hn⟩ := hr g e
    unfold Blk at hb
    rw [ho] at hb
    injection hb with hb
    subst hb
    simp [Obj.isCells] at hn
  exact ⟨hs.1.then_ hc fun i hi e => by have := (hr i e).1; omega, hs.2.1.chg hc (key _ _ _ hs.2.1.1), hs.2.2.chg hc (key _ _ _ hs.2.2)⟩
theorem stepP_snoc (n : Nt) (L c : Nat) (l : List Nat) (p : Nat) : stepP n L c (l ++ [p]) = if (c : Int) < (n.tk.getD p (0, 0)).1 ∨ (n.tk.getD p (0, 0)).2 < (c : Int) then stepP n L c l else ((stepP n L c l).1 ||| n.fo.getD p 0, (stepP n L c l).2 || L.testBit p) := by
  simp [stepP, List.foldl_append]
theorem tkCells_get : ∀ (l : List (Int × Int)) (p : Nat) (x : Int × Int), l[p]? = some x → (tkCells l)[p * 2]? = some (.int .i64 x.1) ∧ (tkCells l)[p * 2 + 1]? = some (.int .i64 x.2)
  | [], _, _, h => by simp at h
  | y :: l, 0, x, h => by simp at h; subst h; simp [tkCells]
  | y :: l, p + 1, x, h => by
    have := tkCells_get l p x (by simpa using h)
    have e : tkCells (y :: l) = .int .i64 y.1 :: .int .i64 y.2 :: tkCells l := rfl
    rw [e, show (p + 1) * 2 = p * 2 + 2 by omega]
    simpa using this

theorem Chg.cell {S : Nat → Prop} {w w' : World} (h : Chg S w w') {g o : Nat} (hlt : g < w.heap.size) (hn : ¬ S g) : w'.cell? ⟨g, o, none⟩ = w.cell? ⟨g, o, none⟩ := by
  simp only [World.cell?, h.block g hlt hn]
/-- what a round leaves -/
theorem RunR.round {ws W W' : World} {n : Nt} {L c sz X Y eb m m' : Nat} {pre : List (Mem m)} {x : Mem m} (hI : RunR ws n L c sz Y eb pre W) (hX : SetAt W X sz m') (hXY : X ≠ Y) (hXe : eb ≠ X) (hg : 0 < W.heap.size) (hgY : 0 ≠ Y) (hge : 0 ≠ eb)
    (hch : Chg (fun k => k = Y ∨ k = eb) W W') (hY : SetAt W' Y sz (stepP n L c (pre.map (·.1) ++ [x.1])).1) (hE : Blk W' eb 4 #[.bool (stepP n L c (pre.map (·.1) ++ [x.1])).2]) : KeepsOthers W W' ∧ EachK X W W' ∧ RunR ws n L c sz Y eb (pre ++ [x]) W' := by
  refine ⟨keeps_of_chg hch fun k o hk ho => ?_, ⟨hch.block X hX.lt fun e => ?_, hch.block _ hg fun e => ?_⟩, hI.1.then_ hch fun i _ e => e, ?_, ?_⟩
  · rcases hk with rfl | rfl
    · exact blk_cells hI.2.1.1 o ho
    · exact blk_cells hI.2.2 o ho
  · rcases e with e | e
    · exact hXY e
    · exact hXe e.symm
  · rcases e with e | e
    · exact hgY e
    · exact hge e
  · simpa using hY
  · simpa using hE

theorem stepP_lt {n : Nt} {N : Nat} (h : NtOk N n) (L c : Nat) (l : List Nat) : (stepP n L c l).1 < 2 ^ N := by
  unfold stepP
  have key : ∀ (l : List Nat) (r : Nat × Bool), r.1 < 2 ^ N → (l.foldl (fun r p => if (c : Int) < (n.tk.getD p (0, 0)).1 ∨ (n.tk.getD p (0, 0)).2 < (c : Int) then r else (r.1 ||| n.fo.getD p 0, r.2 || L.testBit p)) r).1 < 2 ^ N := by
    intro l
    induction l with
    | nil => intro r hr; exact hr
    | cons p l ih =>
      intro r hr
      rw [List.foldl_cons]
      refine ih _ ?_
      split
      · exact hr
      · refine Nat.or_lt_two_pow hr ?_
        rw [List.getD_eq_getElem?_getD]
        cases hq : n.fo[p]? with
        | none => exact Nat.two_pow_pos N
        | some m => exact h.fo m (List.mem_of_getElem? hq)
  exact key l _ (Nat.two_pow_pos N)

/-- a scope with one label whose tail is walked once: behind the fall through and behind each jump -/
theorem scope_once {P : Program} {c tail : Code} {Q : Exit → Act → World → Prop} {a : Act} {w : World} (l : Nat) (J : Act → World → Prop) (μ : Act → World → Nat) (hf : findLabel c l = some (.seq .skip tail))
    (first : (∀ a w, J a w → tail.wp P (Exit.jump l J Q) a w) → c.wp P (Exit.jump l J Q) a w)
    (pass : ∀ a w, J a w → tail.wp P (Exit.jump l (fun a' w' => J a' w' ∧ μ a' w' < μ a w) Q) a w) : (Code.scope c).wp P Q a w := by
  refine wp_scope_jumps l J μ hf (first fun a w h => wp_mono (pass a w h) ?_) fun a w h => wp_seq (wp_skip (pass a w h))
  intro e a' w' h
  cases e <;> first | exact h | exact ⟨h.1, h.2.1⟩

set_option maxHeartbeats 4000000 in
set_option maxRecDepth 100000 in
theorem run_any (base G sz : Nat) (n : Nt) (vt vf : Value) (e : Bool) (F L f l : Nat) (fb : List Nat) (bs : List Nat) (B : Option Addr) (bn cb : Nat) (w : World) (hz : sz ≤ 1000) (hz0 : 0 < sz) (hn : NetAt w base G sz n vt vf (.bool e) (setV sz f) (setV sz l) fb)
    (hP : PartAt w sz f l fb ⟨e, F, L⟩) (hfl : f ≠ l) (hd : Deb w) (hg : 0 < base) (hB : Byt w B bn cb bs) (hok : NtOk n.tk.length n) (hF : F < 2 ^ n.tk.length) (hsz : n.tk.length ≤ 64 * sz) (hlen : bs.length ≤ 262144) :
    Calls Tryd.prog 58 #[.pointer (some ⟨G, 0, none⟩), .slice B bn cb] w
      fun e' w' => e' = .returned (.tuple #[.int .i64 (runP n L sz 0 bs F (if e = true then 0 else -1)).1, .bool (runP n L sz 0 bs F (if e = true then 0 else -1)).2]) ∧ Chg No w w' := by
  obtain ⟨R0, hR0⟩ : ∃ R, runP n L sz 0 bs F (if e = true then 0 else -1) = R := ⟨_, rfl⟩
  rw [hR0]
  obtain ⟨rfl, hc1, hc2, hB4⟩ := hB
  have HB := Lib.hid (show Byt w B bs.length cb bs from ⟨rfl, hc1, hc2, hB4⟩)
  clear hB4
  have c0 : Chg No w ((w.alloc (.cells #[.pointer (some ⟨G, 0, none⟩)] 83)).alloc (.cells #[.slice B bs.length cb] 41)) := ((Chg.refl No w).alloc _).alloc _
  have bn0 : Blk ((w.alloc (.cells #[.pointer (some ⟨G, 0, none⟩)] 83)).alloc (.cells #[.slice B bs.length cb] 41)) w.heap.size 83 #[.pointer (some ⟨G, 0, none⟩)] := (Blk.new' rfl).alloc _
  have bb0 : Blk ((w.alloc (.cells #[.pointer (some ⟨G, 0, none⟩)] 83)).alloc (.cells #[.slice B bs.length cb] 41)) (w.heap.size + 1) 41 #[.slice B bs.length cb] := Blk.new' (by simp)
  have hG0 := hn.blk.chg c0 id
  have y0 := bn0.cell 0
  have g0 := hG0.cell 0
  have g3 := hG0.cell 3
  have g4 := hG0.cell 4
  simp only [List.getElem?_toArray, List.getElem?_cons_zero, List.getElem?_cons_succ] at y0 g0 g3 g4
  refine (callsIn_wide (n := 6)).1 ?_
  refine callsIn_of_wp_marks Tryd.func58 rfl trivial ?_ rfl
  simp only [Tryd.ntmps58, List.size_toArray, List.length_cons, List.length_nil, Nat.reduceAdd, Nat.reduceSub, Array.replicate_succ, Array.replicate_zero, List.push_toArray, List.append_toArray, List.nil_append, List.cons_append]
  refine wpIn_wide.2 (wp_mono ?_ (calm_le _))
  go_wp2_with fail
  refine scope_once 0 (fun a' wr => ∃ (ds : List Deferred) (i next X Y nxt num : Nat) (lo : Int) (u10 u11 u12 u13 u14 u15 u16 u17 u18 u19 u20 u21 u22 u23 u24 u25 u26 u27 u28 u29 u30 u31 u32 u33 u34 u35 u36 u37 u38 u39 u40 u41 u42 u43 u44 u45 u46 u47 u48 u49 u50 u51 u52 u53 u54 u55 u56 u57 u58 u59 u60 u61 u62 u63 u64 u65 u66 u67 u68 u69 u70 u71 u72 u73 u74 u75 u76 u77 u78 u79 u80 u81 u82 u83 u84 u85 u86 u87 u88 u89 u90 u91 u92 : Value), a' = { tmps := #[.pointer (some ⟨G, 0, none⟩), .slice B bs.length cb, .pointer (some ⟨w.heap.size, 0, none⟩), .pointer (some ⟨w.heap.size + 1, 0, none⟩), .int .i64 0, .bool false, .int .i64 lo, .pointer (some ⟨nxt, 0, none⟩), setV sz Y, .pointer (some ⟨num, 0, none⟩), u10, u11, u12, u13, u14, u15, u16, u17, u18, u19, u20, u21, u22, u23, u24, u25, u26, u27, u28, u29, u30, u31, u32, u33, u34, u35, u36, u37, u38, u39, u40, u41, u42, u43, u44, u45, u46, u47, u48, u49, u50, u51, u52, u53, u54, u55, u56, u57, u58, u59, u60, u61, u62, u63, u64, u65, u66, u67, u68, u69, u70, u71, u72, u73, u74, u75, u76, u77, u78, u79, u80, u81, u82, u83, u84, u85, u86, u87, u88, u89, u90, u91, u92], defers := ds } ∧
      RunI w wr G sz B bs.length cb ds X Y nxt num i next ∧ i ≤ bs.length ∧ next < 2 ^ n.tk.length ∧ runP n L sz i (bs.drop i) next lo = R0)
    (fun a' wr => match a'.tmps.getD 9 undef with | .pointer (some p) => bs.length - (intOf ((wr.cell? p).getD undef)).toNat | _ => 0) rfl ?first ?pass
  case first =>
    intro hpass
    have HR0 := Lib.hid hR0
    clear hR0
    have hset := fun (wx : World) (hc : Chg No w wx) => set_any G sz wx hz ((hn.blk.chg hc id).cell 0)
    have hnp := fun (wx : World) (hc : Chg No ((w.alloc (.cells #[.pointer (some ⟨G, 0, none⟩)] 83)).alloc (.cells #[.slice B bs.length cb] 41)) wx) => (bn0.chg hc id).cell 0
    cases e
    all_goals
      go_wp2_with fail
      go_cut [7, 8] from 19 to 22 (fun s7 s8 wx => RunCut w ((w.alloc (.cells #[.pointer (some ⟨G, 0, none⟩)] 83)).alloc (.cells #[.slice B bs.length cb] 41)) sz s7 s8 wx)
      case first =>
        have k0 : Chg No ((w.alloc (.cells #[.pointer (some ⟨G, 0, none⟩)] 83)).alloc (.cells #[.slice B bs.length cb] 41)) ((w.alloc (.cells #[.pointer (some ⟨G, 0, none⟩)] 83)).alloc (.cells #[.slice B bs.length cb] 41)).drew := (Chg.refl No _).drew
        have yd := hnp _ k0
        have ka : Chg No ((w.alloc (.cells #[.pointer (some ⟨G, 0, none⟩)] 83)).alloc (.cells #[.slice B bs.length cb] 41)) (((w.alloc (.cells #[.pointer (some ⟨G, 0, none⟩)] 83)).alloc (.cells #[.slice B bs.length cb] 41)).alloc (.cells #[.slice none 0 0] 107)) := (Chg.refl No _).alloc _
        have ya := hnp _ ka
        have bxa : Blk (((w.alloc (.cells #[.pointer (some ⟨G, 0, none⟩)] 83)).alloc (.cells #[.slice B bs.length cb] 41)).alloc (.cells #[.slice none 0 0] 107)) (w.heap.size + 2) 107 #[.slice none 0 0] := Blk.new' (by simp)
        have hWs : ((w.alloc (.cells #[.pointer (some ⟨G, 0, none⟩)] 83)).alloc (.cells #[.slice B bs.length cb] 41)).heap.size = w.heap.size + 2 := by simp
        go_region_law (first | (go_simp; go_at_call 91; refine (hset _ (c0.trans k0)).mono ?_; rintro ee w2 ⟨rfl, hs2, hc2⟩; have hs2 : SetAt w2 (w.heap.size + 2) sz 0 := (by simpa using hs2); have k2 := k0.trans hc2; have ye := hnp _ k2; have yg := hnp _ (k2.alloc (.cells #[.slice none 0 0] 107)); have bxb := Blk.new w2 107 #[.slice none 0 0]) | (go_simp; go_at_call 91; refine (hset _ (c0.trans ka.drew)).mono ?_; rintro ee w2 ⟨rfl, hs2, hc2⟩; have hs2 : SetAt w2 (w.heap.size + 3) sz 0 := (by simpa using hs2); have k2 := ka.drew.trans hc2; have ye := hnp _ k2; have bx2 := bxa.drew.chg hc2 id; have x2 := bx2.cell 0; have f2 := bx2.frozen 0; simp only [List.getElem?_toArray, List.getElem?_cons_zero] at x2) | (go_simp; go_at_call 91; refine (hset _ (c0.trans k2)).mono ?_; rintro ee w3 ⟨rfl, hs3, hc3⟩; have k3 := k2.trans hc3; have hs2' := hs2.chg hc3 id; try (have bx3 := bx2.chg hc3 id; have x3 := bx3.cell 0; have f3 := bx3.frozen 0; simp only [List.getElem?_toArray, List.getElem?_cons_zero] at x3)) | (go_simp; go_at_call 91; refine (hset _ (c0.trans (k2.alloc (.cells #[.slice none 0 0] 107)))).mono ?_; rintro ee w3 ⟨rfl, hs3, hc3⟩; have hs3 : SetAt w3 (w2.heap.size + 1) sz 0 := (by simpa using hs3); have k3 := (k2.alloc (.cells #[.slice none 0 0] 107)).trans hc3; have hs2' := (hs2.chg ((Chg.refl No w2).alloc (.cells #[.slice none 0 0] 107)) id).chg hc3 id; have bx3 := bxb.chg hc3 id; have x3 := bx3.cell 0; have f3 := bx3.frozen 0; simp only [List.getElem?_toArray, List.getElem?_cons_zero] at x3))
        all_goals
          go_wp2
          go_meet
          have hlt2 := hs2.lt
          have hlt3 := hs3.lt
          have hkz := k2.size
          first
          | exact cut_alloc k3 hs2' hs3 (by omega) (by omega) (by omega) (by have := k3.size; omega)
          | exact cut_alloc k3 hs3 hs2' (by omega) (by omega) (by omega) (by have := k3.size; omega)
          | exact cut_set k3 hs2' hs3 bx3 (by omega) (by omega) (by omega) (by omega) (by omega)
          | exact cut_set k3 hs3 hs2' bx3 (by omega) (by omega) (by omega) (by omega) (by omega)
      case rest =>
        obtain ⟨X, Y, nxt, h7, h8, k, sX, sY, ne, hX, hY, bx, hx⟩ := hcut
        subst h7 h8
        have ck := c0.trans k
        have yn := hnp _ k
        have yG := (hn.blk.chg ck id).cell 4
        have yx := bx.cell 0
        unfold setV at yG yx
        simp only [List.getElem?_toArray, List.getElem?_cons_zero, List.getElem?_cons_succ] at yn yG yx
        have nXf : f ≠ X := by have := hP.F.lt; omega
        have hj := join_any X f sz 0 F wc.drew hz ⟨sX.1, sX.2⟩ ((hP.F.chg ck id).chg (Chg.refl No wc).drew id) nXf
        go_wp2_with fail
        go_still_tail 6, (by kernel_rfl)
        go_wp2_with fail
        refine hj.mono ?_
        rintro ee w6 ⟨⟨_, rfl⟩, s6, c6⟩
        go_wp2_with fail
        go_step3
        have HPS := Lib.hid hpass
        clear hpass
        have hw6 := c6.size
        rename_i hK
        refine hK _ _ (HPS.out _ _ ?_)
        refine ⟨[], 0, F, X, Y, nxt, w6.heap.size, _, _, _, _, _, _, _, _, _, _, _, _, _, _, _, _, _, _, _, _, _, _, _, _, _, _, _, _, _, _, _, _, _, _, _, _, _, _, _, _, _, _, _, _, _, _, _, _, _, _, _, _, _, _, _, _, _, _, _, _, _, _, _, _, _, _, _, _, _, _, _, _, _, _, _, _, _, _, _, _, _, _, _, _, rfl, ?_, Nat.zero_le _, hF, ?_⟩
        case refine_2 => rw [List.drop_zero]; simpa using HR0.out
        have cX : ∀ i, i < w.heap.size → One X i → No i := fun i hi e => by have e' : i = X := e; omega
        have nbn : ¬ One X w.heap.size := fun e => (bn0.chg k id).ne_ sX.1 (by decide) e
        have nbb : ¬ One X (w.heap.size + 1) := fun e => (bb0.chg k id).ne_ sX.1 (by decide) e
        have nbx : ¬ One X nxt := fun e => bx.ne_ sX.1 (by decide) e
        have nY : ¬ One X Y := fun e => ne e.symm
        have hsz6 := ck.size
        have hdr : wc.drew.heap.size = wc.heap.size := rfl
        rw [Nat.zero_or] at s6
        exact ⟨(ck.drew.then_ c6 cX).alloc _, ((bn0.chg k id).drew.chg c6 nbn).alloc _, ((bb0.chg k id).drew.chg c6 nbb).alloc _, ⟨s6.1.alloc _, s6.2⟩,
          ⟨0, ((sY.chg (Chg.refl No wc).drew id).chg c6 nY).1.alloc _, sY.2⟩, ne, hX, hY, (bx.drew.chg c6 nbx).alloc _, Blk.new _ _ _, hx, by omega, [], rfl, List.nodup_nil, by simp⟩
  case pass =>
    rintro a' wr ⟨ds, i, next, X, Y, nxt, num, lo, u10, u11, u12, u13, u14, u15, u16, u17, u18, u19, u20, u21, u22, u23, u24, u25, u26, u27, u28, u29, u30, u31, u32, u33, u34, u35, u36, u37, u38, u39, u40, u41, u42, u43, u44, u45, u46, u47, u48, u49, u50, u51, u52, u53, u54, u55, u56, u57, u58, u59, u60, u61, u62, u63, u64, u65, u66, u67, u68, u69, u70, u71, u72, u73, u74, u75, u76, u77, u78, u79, u80, u81, u82, u83, u84, u85, u86, u87, u88, u89, u90, u91, u92, rfl, HR, hil, hnx, hrun⟩
    have HRH := Lib.hid HR
    obtain ⟨chg, rbn, rbb, sX, ⟨my, sY⟩, neXY, hX, hY, bx, bi, hx, hi, Ds, hdse, hDs, hDv⟩ := HR
    have HDS := Lib.hid (show Ds.Nodup ∧ (∀ D ∈ Ds, w.heap.size ≤ D ∧ wr.heap[D]? = some (.deferred (some []))) from ⟨hDs, hDv⟩)
    clear hDs hDv
    have hrunH := Lib.hid hrun
    clear hrun hR0
    have yn := rbn.cell 0
    have yb := rbb.cell 0
    have yx := bx.cell 0
    have yi := bi.cell 0
    unfold setV at yx
    have h8 : setV sz Y = .slice (some ⟨Y, 0, none⟩) sz sz := rfl
    rw [h8]
    simp only [List.getElem?_toArray, List.getElem?_cons_zero, List.getElem?_cons_succ] at yn yb yx yi
    by_cases hlt : i < bs.length
    · have hne : ((i : Int) == (bs.length : Int)) = false := by simp; omega
      have fx := bx.frozen 0
      subst hdse
      have kx : Chg (One nxt) wr (wr.setCell ⟨nxt, 0, none⟩ (.slice (some ⟨Y, 0, none⟩) sz sz)) := Chg.setCell (S := One nxt) (Chg.refl (One nxt) wr) (p := ⟨nxt, 0, none⟩) _ fun _ => rfl
      obtain ⟨w2, hcl, s2, c2⟩ := clear_set (w := wr.setCell ⟨nxt, 0, none⟩ (.slice (some ⟨Y, 0, none⟩) sz sz)) (g := Y) (sz := sz) (m := my) (sY.chg kx fun e => sY.1.ne_ bx (by decide) e) hz0
      have hiN := i
      go_wp2_with fail
      -- the world behind 'ends := false'
      have nxX : X ≠ nxt := sX.1.ne_ bx (by decide)
      have nxY : Y ≠ nxt := sY.1.ne_ bx (by decide)
      have bx1 : Blk (wr.setCell ⟨nxt, 0, none⟩ (.slice (some ⟨Y, 0, none⟩) sz sz)) nxt 107 #[setV sz Y] := bx.set_ 0 _
      have hold : ∀ {g t cs}, Blk wr g t cs → g ≠ nxt → g ≠ Y → Blk (w2.alloc (.cells #[.bool false] 4)) g t cs := fun h h1 h2 => ((h.chg kx fun e => h1 e).chg c2 fun e => h2 e).alloc _
      have bn1 := hold rbn (rbn.ne_ bx (by decide)) (rbn.ne_ sY.1 (by decide))
      have bb1 := hold rbb (rbb.ne_ bx (by decide)) (rbb.ne_ sY.1 (by decide))
      have bi1 := hold bi (bi.ne_ bx (by decide)) (bi.ne_ sY.1 (by decide))
      have sX1 : SetAt (w2.alloc (.cells #[.bool false] 4)) X sz next := ⟨hold sX.1 nxX neXY, sX.2⟩
      have sY1 : SetAt (w2.alloc (.cells #[.bool false] 4)) Y sz 0 := ⟨s2.1.alloc _, s2.2⟩
      have bx2 : Blk (w2.alloc (.cells #[.bool false] 4)) nxt 107 #[setV sz Y] := (bx1.chg c2 fun e => nxY e.symm).alloc _
      have be2 : Blk (w2.alloc (.cells #[.bool false] 4)) w2.heap.size 4 #[.bool false] := Blk.new _ _ _
      have cw : Chg No w (w2.alloc (.cells #[.bool false] 4)) := ((chg.then_ kx fun j hj e => by have e' : j = nxt := e; omega).then_ c2 fun j hj e => by have e' : j = Y := e; omega).alloc _
      have hzr : wr.heap.size ≤ w2.heap.size := by have h1 := kx.size; have h2 := c2.size; omega
      have hzw := chg.size
      have hds2 : ∀ D ∈ Ds, (w2.alloc (.cells #[.bool false] 4)).heap[D]? = some (.deferred (some [])) := fun D hD => by
        have hv := (HDS.out.2 D hD).2
        have hlt' : D < w2.heap.size := by
          rcases Nat.lt_or_ge D wr.heap.size with q | q
          · omega
          · rw [Array.getElem?_eq_none q] at hv; cases hv
        refine (Below.heap_alloc _ _ _ hlt').trans ((c2.heap (kx.heap hv ?_) ?_))
        · intro e; have e' : D = nxt := e; exact bx.not_deferred hv e'.symm
        · intro e; have e' : D = Y := e; exact sY.1.not_deferred hv e'.symm
      have hez : w2.heap.size < (w2.alloc (.cells #[.bool false] 4)).heap.size := be2.lt
      have heY : w2.heap.size ≠ Y := be2.ne_ sY1.1 (by decide)
      have heX : w2.heap.size ≠ X := be2.ne_ sX1.1 (by decide)
      have hen : w2.heap.size ≠ nxt := be2.ne_ bx2 (by decide)
      have hei : w2.heap.size ≠ num := be2.ne_ bi1 (by decide)
      generalize hWS : w2.alloc (.cells #[.bool false] 4) = ws at *
      generalize hEB : w2.heap.size = eb at *
      clear hold hcl s2 c2 bx1 kx yn yb yx yi fx
      have hDs : Deb ws := fun j hj => (cw.below.cell (World.block_lt_of_cell? _ _ (hd j hj))).trans (hd j hj)
      have hgl := hn.blk.lt
      have hgo := hn.old.1
      obtain ⟨gB, oB, hBe, hgB, hBc⟩ := HB.out.2.2.2 (by intro e; rw [e] at hlt; simp at hlt)
      subst hBe
      obtain ⟨c, hc⟩ : ∃ c, bs[i]? = some c := ⟨_, List.getElem?_eq_getElem hlt⟩
      obtain ⟨hbc, hc256⟩ := hBc i c hc
      refine (wpIn_wide (n := 6)).1 ?_
      refine' each_law (n := 4) hz rfl sX1 hDs (by omega) rfl (RunR ws n L c sz Y eb) (RunR.own ws n L c sz Y eb _)
        ⟨Chg.refl _ _, sY1, be2⟩ _ ?assign ?body ?done
      case assign =>
        intro l x W K hK
        gi_wp2
        exact hK
      case body =>
        rintro lr pre x W ⟨hI1, hI2, hI3⟩ hsx
        have hlx : x.1 < n.tk.length := Nat.lt_of_not_le fun h => by have := x.2; rw [testBit_zero_of_lt hnx h] at this; cases this
        have nbY : w.heap.size ≠ Y := bn1.ne_ sY1.1 (by decide)
        have nbe : w.heap.size ≠ eb := bn1.ne_ be2 (by decide)
        have ncY : w.heap.size + 1 ≠ Y := bb1.ne_ sY1.1 (by decide)
        have nce : w.heap.size + 1 ≠ eb := bb1.ne_ be2 (by decide)
        have niY : num ≠ Y := bi1.ne_ sY1.1 (by decide)
        have heO : w.heap.size ≤ eb := by omega
        have hWz := hI1.size
        have hwz := cw.size
        have hol : ∀ {g t cs}, Blk w g t cs → Blk W g t cs := fun {g t cs} h => (h.chg cw id).chg hI1 fun e => by have := h.lt; omega
        have y2 := (bn1.chg hI1 (by omega)).cell 0
        have y3 := (bb1.chg hI1 (by omega)).cell 0
        have y7 := (bx2.chg hI1 (by omega)).cell 0
        have y9 := (bi1.chg hI1 (by omega)).cell 0
        have hnW := hol hn.blk
        have z1 := hnW.cell 1
        have z2 := hnW.cell 2
        obtain ⟨gt, capt, curt, hvt, hcapt, -, hbt, htc⟩ := ownsRow_cell hn.tk (by intro e; have := (tkCells_get n.tk x.1 _ (List.getElem?_eq_getElem hlx)).1; rw [e] at this; simp at this)
        have hfl' : n.fo.length = n.tk.length := hok.len
        have hlen := hn.len
        have hfx : x.1 < fb.length := by omega
        obtain ⟨gf, capf, curf, hvf, hcapf, -, hbf, hfc⟩ := ownsRow_cell hn.fo (by intro e; have := congrArg List.length e; simp at this; rw [this] at hlen; simp at hlen; omega)
        subst hvt hvf
        obtain ⟨⟨p1, p2⟩, hpq⟩ : ∃ p, n.tk[x.1]? = some p := ⟨_, List.getElem?_eq_getElem hlx⟩
        obtain ⟨hk1, hk2⟩ := tkCells_get n.tk x.1 _ hpq
        have zt1 := ((hol hbt).cell (x.1 * 2)).trans ((hbt.cell (x.1 * 2)).symm.trans (htc _ _ hk1))
        have zt2 := ((hol hbt).cell (x.1 * 2 + 1)).trans ((hbt.cell (x.1 * 2 + 1)).symm.trans (htc _ _ hk2))
        have zf := ((hol hbf).cell x.1).trans ((hbf.cell x.1).symm.trans (hfc x.1 (setV sz fb[x.1]) (by rw [List.getElem?_map, List.getElem?_eq_getElem hfx]; rfl)))
        have yB := (hI1.cell (o := oB + i) (by omega) (by omega)).trans ((cw.cell (o := oB + i) hgB id).trans hbc)
        have hs2 := ((hn.sets x.1 _ _ (List.getElem?_eq_getElem hfx) (List.getElem?_eq_getElem (by omega))).chg cw id).chg hI1 (fun e => by have := hn.fb_lt _ (List.getElem_mem hfx); omega)
        have hsL := (hP.L.chg cw id).chg hI1 (fun e => by have := hP.L.lt; omega)
        have hgD : n.tk.getD x.1 (0, 0) = (p1, p2) := by simp [hpq]
        have hfD : n.fo.getD x.1 0 = n.fo[x.1]'(by omega) := by simp [List.getElem?_eq_getElem (show x.1 < n.fo.length by omega)]
        have hst := stepP_snoc n L c (pre.map (·.1)) x.1
        rw [hgD, hfD] at hst
        simp only at hst
        generalize hm : n.fo[x.1]'(by omega) = m at hs2 hst
        have HST := Lib.hid hst
        clear hst hgD hfD hm
        unfold setV at zf y7
        simp only [List.getElem?_toArray, List.getElem?_cons_zero, List.getElem?_cons_succ] at y2 y3 y7 y9 z1 z2
        have hRR := Lib.hid (show RunR ws n L c sz Y eb pre W from ⟨hI1, hI2, hI3⟩)
        have hKG : 0 < W.heap.size ∧ 0 ≠ Y ∧ 0 ≠ eb := by omega
        by_cases q1 : (c : Int) < p1
        · have q1' : decide ((c : Int) < p1) = true := by simpa using q1
          have hst := HST.out
          rw [if_pos (.inl q1)] at hst
          gi_wp2
          exact hRR.out.round hsx neXY heX hKG.1 hKG.2.1 hKG.2.2 (Chg.refl _ _) (by rw [hst]; exact hI2) (by rw [hst]; exact hI3)
        · have q1' : decide ((c : Int) < p1) = false := by simpa using q1
          by_cases q2 : p2 < (c : Int)
          · have q2' : decide (p2 < (c : Int)) = true := by simpa using q2
            gi_wp2
            have hst := HST.out
            rw [if_pos (.inr q2)] at hst
            exact hRR.out.round hsx neXY heX hKG.1 hKG.2.1 hKG.2.2 (Chg.refl _ _) (by rw [hst]; exact hI2) (by rw [hst]; exact hI3)
          · have q2' : decide (p2 < (c : Int)) = false := by simpa using q2
            have hmx : Tryd.prog.follows .mixedOrders = true := by kernel_rfl
            have hfY : fb[x.1] ≠ Y := fun e => by have := hn.fb_lt _ (List.getElem_mem hfx); omega
            have hj := join_any Y fb[x.1] sz _ m W.drew hz hI2 hs2 hfY
            have hlY : l ≠ Y := fun e => by have := hP.L.lt; omega
            have hx64 : x.1 < 64 * sz := by omega
            gi_wp2
            refine region_round 8 hmx (by kernel_rfl) (by kernel_rfl) (fun ⟨_, _, h⟩ => h) ?_
            simp only [List.take_succ_cons, List.take_zero, List.drop_succ_cons, List.drop_zero]
            repeat still_step
            try refine wpStill_nil ?_
            go_wp2_with fail
            refine hj.mono ?_
            rintro e w' ⟨⟨_, rfl⟩, hj1, hj2⟩
            have cj : Chg (One Y) W w' := ((Chg.refl (One Y) W).drew).trans hj2
            have hbW := bn1.chg hI1 (by omega)
            have y2' := (hbW.chg cj fun e => nbY e).cell 0
            have zz := (hnW.chg cj fun e => by have e' : G = Y := e; omega).cell 5
            have hsL' := hsL.chg cj fun e => hlY e
            have heW := hI3.chg cj fun e => heY e
            have hef := heW.frozen 0
            have hec := heW.cell 0
            have hh := setHas_any l sz L x.1 w' hz hsL' hx64
            unfold setV at zz
            simp only [List.getElem?_toArray, List.getElem?_cons_zero, List.getElem?_cons_succ] at y2' zz hec
            have hst := HST.out
            rw [if_neg (by omega)] at hst
            have HST2 := Lib.hid hst
            clear hst
            go_wp2_with fail
            gi_wp2_with fail
            refine ⟨trivial, ((callsIn_wide.2 hh).inRound lr).mono ?_⟩
            rintro e w2 ⟨rfl, rfl⟩
            have kj : Chg (fun k => k = Y ∨ k = eb) W w' := cj.mono fun k _ e => .inl e
            cases hb : L.testBit x.1
            · gi_wp2
              have hst := HST2.out
              exact hRR.out.round hsx neXY heX hKG.1 hKG.2.1 hKG.2.2 kj (by rw [hst]; exact hj1) (by rw [hst, hb, Bool.or_false]; exact heW)
            · gi_wp2
              have hst := HST2.out
              exact hRR.out.round hsx neXY heX hKG.1 hKG.2.1 hKG.2.2 (Chg.setCell kj _ fun _ => .inr rfl) (by rw [hst]; exact hj1.chg (Chg.setCell (S := One eb) (Chg.refl (One eb) w') (p := ⟨eb, 0, none⟩) _ fun _ => rfl) fun e => heY e.symm) (by rw [hst, hb, Bool.or_true]; exact heW.set_ 0 (.bool true))
      case done =>
        rintro D xs W hDl hxs ⟨hI1, hI2, hI3⟩ hD
        rw [hxs] at hI2 hI3
        have hWz := hI1.size
        have hwz := cw.size
        have nbY : w.heap.size ≠ Y := bn1.ne_ sY1.1 (by decide)
        have nbe : w.heap.size ≠ eb := bn1.ne_ be2 (by decide)
        have ncY : w.heap.size + 1 ≠ Y := bb1.ne_ sY1.1 (by decide)
        have nce : w.heap.size + 1 ≠ eb := bb1.ne_ be2 (by decide)
        have niY : num ≠ Y := bi1.ne_ sY1.1 (by decide)
        have heO : w.heap.size ≤ eb := by omega
        have biW := bi1.chg hI1 (by omega)
        have y9 := biW.cell 0
        have f9 := biW.frozen 0
        have ye := hI3.cell 0
        have bxW := bx2.chg hI1 (by omega)
        have yx := bxW.cell 0
        unfold setV at yx
        simp only [List.getElem?_toArray, List.getElem?_cons_zero, List.getElem?_cons_succ] at y9 ye yx
        obtain ⟨r, hr⟩ : ∃ r, stepP n L c (eachP sz next) = r := ⟨_, rfl⟩
        rw [hr] at hI2 hI3 ye
        obtain ⟨r1, r2⟩ := r
        simp only at hI2 hI3 ye
        have hdrop : bs.drop i = c :: bs.drop (i + 1) := by
          rw [List.drop_eq_getElem_cons hlt]
          rw [List.getElem?_eq_getElem hlt] at hc
          injection hc with hc
          rw [hc]
        have hrun := hrunH.out
        rw [hdrop, runP, hr] at hrun
        simp only at hrun
        have HRUN := Lib.hid hrun
        have HR := Lib.hid hr
        have HC := Lib.hid hc
        have HX := Lib.hid hxs
        clear hrun hr hdrop hc hxs
        have kz : Chg (One num) W (W.setCell ⟨num, 0, none⟩ (.int .i64 ((i : Int) + 1))) := Chg.setCell (S := One num) (Chg.refl (One num) W) (p := ⟨num, 0, none⟩) _ fun _ => rfl
        have cWz : Chg No w (W.setCell ⟨num, 0, none⟩ (.int .i64 ((i : Int) + 1))) := (cw.then_ hI1 fun j hj e => by omega).then_ kz fun j hj e => by have e' : j = num := e; omega
        have nbn : w.heap.size ≠ num := bn1.ne_ bi1 (by decide)
        have nbc : w.heap.size + 1 ≠ num := bb1.ne_ bi1 (by decide)
        have nYn : Y ≠ num := fun e => niY e.symm
        have nXn : X ≠ num := sX1.1.ne_ bi1 (by decide)
        have nnn : nxt ≠ num := bx2.ne_ bi1 (by decide)
        have sYz : SetAt (W.setCell ⟨num, 0, none⟩ (.int .i64 ((i : Int) + 1))) Y sz r1 := hI2.chg kz fun e => nYn e
        have bxz := bxW.chg kz fun e => nnn e
        have hDD : ∀ D' ∈ D :: Ds, w.heap.size ≤ D' ∧ (W.setCell ⟨num, 0, none⟩ (.int .i64 ((i : Int) + 1))).heap[D']? = some (.deferred (some [])) := by
          intro D' hD'
          have hkey : W.heap[D']? = some (.deferred (some [])) := by
            rcases List.mem_cons.1 hD' with rfl | hm
            · exact hD
            · refine hI1.heap (hds2 D' hm) fun e => ?_
              rcases e with e | e
              · exact sY1.1.not_deferred (hds2 D' hm) e.symm
              · exact be2.not_deferred (hds2 D' hm) e.symm
          refine ⟨?_, kz.heap hkey fun e => biW.not_deferred hkey (Eq.symm e)⟩
          rcases List.mem_cons.1 hD' with rfl | hm
          · omega
          · exact (HDS.out.2 D' hm).1
        have hnd : (D :: Ds).Nodup := List.nodup_cons.2 ⟨fun hm => by
          have := hds2 D hm
          have h2 : D < ws.heap.size := (Array.getElem?_eq_some_iff.1 this).1
          omega, HDS.out.1⟩
        have hRI : RunI w (W.setCell ⟨num, 0, none⟩ (.int .i64 ((i : Int) + 1))) G sz (some ⟨gB, oB, none⟩) bs.length cb ({ target := .collected D, args := #[] } :: Ds.map fun D => { target := .collected D, args := #[] }) Y X nxt num (i + 1) r1 :=
          ⟨cWz, (bn1.chg hI1 (by omega)).chg kz fun e => nbn e, (bb1.chg hI1 (by omega)).chg kz fun e => nbc e, sYz, ⟨next, (sX1.chg hI1 (by omega)).chg kz fun e => nXn e⟩, fun e => neXY e.symm, hY, hX, bxz,
            by rw [show ((i + 1 : Nat) : Int) = (i : Int) + 1 by omega]; exact biW.set_ 0 _, hx, hi, ⟨D :: Ds, rfl, hnd, hDD⟩⟩
        have hRIH := Lib.hid hRI
        have hDDH := Lib.hid hDD
        clear hRI hDD hD hds2
        have hnext : r1 < 2 ^ n.tk.length := by have := stepP_lt hok L c (eachP sz next); rw [HR.out] at this; exact this
        have hwi := bi.cell 0
        simp only [List.getElem?_toArray, List.getElem?_cons_zero] at hwi
        have mz : bs.length - (i + 1) < bs.length - i := by omega
        cases r2
        · by_cases hr0 : r1 = 0
          · have hno := none_any Y sz r1 _ hz sYz
            rw [show (r1 == 0) = true by simpa using hr0] at hno
            have yxz := bxz.cell 0
            unfold setV at yxz
            simp only [List.getElem?_toArray, List.getElem?_cons_zero] at yxz
            go_wp2_with fail
            refine hno.mono ?_
            rintro e5 w5 ⟨rfl, rfl⟩
            go_wp2_with fail
            obtain rfl : R0 = (lo, false) := by have := HRUN.out; simpa [hr0] using this.symm
            exact leaves_two (k := 6) (fn := Tryd.f58) (t0 := 4) (t1 := 5) (x := .int .i64 lo) (y := .bool false) rfl rfl rfl (D :: Ds) _ hnd (fun D' hD' => (hDDH.out D' hD').2) fun w' hc => ⟨rfl, cWz.then_ hc fun j hj e => by have := (hDDH.out j e).1; omega⟩
          · have hno := none_any Y sz r1 _ hz sYz
            rw [show (r1 == 0) = false by simpa using hr0] at hno
            have yxz := bxz.cell 0
            unfold setV at yxz
            simp only [List.getElem?_toArray, List.getElem?_cons_zero] at yxz
            go_wp2_with fail
            refine hno.mono ?_
            rintro e5 w5 ⟨rfl, rfl⟩
            go_wp2_with fail
            go_step3
            refine ⟨rfl, ⟨_, i + 1, r1, Y, X, nxt, num, lo, _, _, _, _, _, _, _, _, _, _, _, _, _, _, _, _, _, _, _, _, _, _, _, _, _, _, _, _, _, _, _, _, _, _, _, _, _, _, _, _, _, _, _, _, _, _, _, _, _, _, _, _, _, _, _, _, _, _, _, _, _, _, _, _, _, _, _, _, _, _, _, _, _, _, _, _, _, _, _, _, _, _, _, rfl, hRIH.out, by omega, hnext, ?_⟩, ?_⟩
            · have := HRUN.out; simpa [hr0] using this
            · have h1 := biW.set_ 0 (.int .i64 ((i : Int) + 1))
              have h2 := h1.cell 0
              simp only [List.setIfInBounds_toArray, List.set_cons_zero, List.getElem?_toArray, List.getElem?_cons_zero] at h2
              simp [h2, hwi, intOf]
              omega
        · go_wp2_with fail
          go_step3
          refine ⟨rfl, ⟨_, i + 1, r1, Y, X, nxt, num, (i : Int) + 1, _, _, _, _, _, _, _, _, _, _, _, _, _, _, _, _, _, _, _, _, _, _, _, _, _, _, _, _, _, _, _, _, _, _, _, _, _, _, _, _, _, _, _, _, _, _, _, _, _, _, _, _, _, _, _, _, _, _, _, _, _, _, _, _, _, _, _, _, _, _, _, _, _, _, _, _, _, _, _, _, _, _, _, rfl, hRIH.out, by omega, hnext, ?_⟩, ?_⟩
          · have := HRUN.out; simpa using this
          · have h1 := biW.set_ 0 (.int .i64 ((i : Int) + 1))
            have h2 := h1.cell 0
            simp only [List.setIfInBounds_toArray, List.set_cons_zero, List.getElem?_toArray, List.getElem?_cons_zero] at h2
            simp [h2, hwi, intOf]
            omega
    · obtain rfl : i = bs.length := by omega
      subst hdse
      go_wp2_with fail
      obtain ⟨hDs, hDv⟩ := HDS.out
      have hr := hrunH.out
      rw [List.drop_length] at hr
      obtain rfl : R0 = (lo, true) := hr.symm
      exact leaves_two (k := 6) (fn := Tryd.f58) (t0 := 4) (t1 := 5) (x := .int .i64 lo) (y := .bool true) rfl rfl rfl Ds wr hDs (fun D hD => (hDv D hD).2) fun w' hc => ⟨rfl, chg.then_ hc fun j hj e => by have := (hDv j e).1; omega⟩
end Go.Proofs.YticipgjbgcdccaaDoor
namespace Go.Proofs.YticipgjbgcdccaaDoor
open Go.RowKit

theorem new_ok (x : Ex) (hR : rightP x = true) (hp : positionsP x ≤ 4096) : NtOk (newP x).1.tk.length (newP x).1 ∧ (newP x).2.F < 2 ^ (newP x).1.tk.length ∧ (newP x).1.tk.length ≤ 64 * sizeP x ∧ sizeP x ≤ 1000 ∧ 0 < sizeP x := by
  obtain ⟨n1, n2, n3⟩ := addP_lays (positionsP x).toNat _ x (Nat.lt_succ_self _) hR hp ⟨[], []⟩ ⟨rfl, by simp, by simp⟩ (by simp)
  have hps := positionsP_le x hR
  have h3 : (newP x).1.tk.length = (positionsP x).toNat := by simpa [newP] using n3
  rw [h3]
  exact ⟨n1, n2.F, by unfold sizeP; omega, by unfold sizeP; omega, by unfold sizeP; omega⟩

/-- run, of the net that newNet has made -/
theorem run_new (x : Ex) (hR : rightP x = true) (hp : positionsP x ≤ 4096) (bs : List Nat) (B : Option Addr) (bn cb : Nat) (w1 w : World) (G f l : Nat) (vt vf : Value) (fb : List Nat) (hz : w1.heap.size ≤ w.heap.size) (hn : NetAt w w1.heap.size G (sizeP x) (newP x).1 vt vf (.bool (newP x).2.e) (setV (sizeP x) f) (setV (sizeP x) l) fb)
    (hP : PartAt w (sizeP x) f l fb (newP x).2) (hfl : f ≠ l) (hd : Deb w) (hg : 0 < w1.heap.size) (hB : Byt w B bn cb bs) (hlen : bs.length ≤ 262144) :
    Calls Tryd.prog 58 #[.pointer (some ⟨G, 0, none⟩), .slice B bn cb] w
      fun e' w' => e' = .returned (.tuple #[.int .i64 (ranP x bs).1, .bool (ranP x bs).2]) ∧ Chg No w w' := by
  obtain ⟨h1, h2, h3, h4, h5⟩ := new_ok x hR hp
  exact run_any w1.heap.size G (sizeP x) (newP x).1 vt vf (newP x).2.e (newP x).2.F (newP x).2.L f l fb bs B bn cb w h4 h5 hn hP hfl hd hg hB h1 h2 h3 hlen

theorem askedP_zero {x : Ex} {m : Nat} (h : askedP x m = 0) : checkP x = 0 ∧ m ≤ 262144 := by
  unfold askedP at h
  split at h
  · exact absurd h ‹_›
  · split at h
    · cases h
    · exact ⟨by simp_all, by omega⟩
theorem Deb.chgNo {w w' : World} (h : Deb w) (hc : Chg No w w') : Deb w' := fun j hj => (hc.below.cell (World.block_lt_of_cell? _ _ (h j hj))).trans (h j hj)

/-- Match: does it match all of the bytes; or the error -/
def matchP (x : Ex) (bs : List Nat) : Bool × Int := if askedP x bs.length ≠ 0 then (false, askedP x bs.length) else (decide ((ranP x bs).1 = (bs.length : Int)), 0)
set_option maxHeartbeats 1000000 in
set_option maxRecDepth 100000 in
theorem Match_any (x : Ex) (A : Option Addr) (n c : Nat) (S : Nat → Prop) (w : World) (hl : Sl w S A n c x.l) (B : Option Addr) (m cb : Nat) (bs : List Nat) (hB : Byt w B m cb bs) (hd : Deb w) (hg : 0 < w.heap.size) :
    Calls Tryd.prog 21 #[.agg #[.int .i64 x.k, .int .i64 x.f, .int .i64 x.t, .int .i64 x.a, .int .i64 x.b, .slice A n c], .slice B m cb] w
      fun e w' => e = .returned (.tuple #[.bool (matchP x bs).1, .int .i64 (matchP x bs).2]) ∧ Chg No w w' := by
  have hb := Blk.new w 25 #[.int .i64 x.k, .int .i64 x.f, .int .i64 x.t, .int .i64 x.a, .int .i64 x.b, .slice A n c]
  have hc0 : Chg No w (w.alloc (.cells #[.int .i64 x.k, .int .i64 x.f, .int .i64 x.t, .int .i64 x.a, .int .i64 x.b, .slice A n c] 25)) := (Chg.refl _ _).alloc _
  obtain ⟨hm, hB2⟩ := hB
  subst hm
  have HB := Lib.hid (show Byt w B bs.length cb bs from ⟨rfl, hB2⟩)
  have hcb := hB2.2.1
  have hlc := hB2.1
  clear hB2
  have has := asked_any x A n c S _ (hl.chgNo hc0) B bs.length cb
  have hnew := fun (h0 : checkP x = 0) (w1 : World) (hc : Chg No w w1) => newNet_any x (checkP_nodes x h0).1 (checkP_nodes x h0).2.1 (checkP_nodes x h0).2.2 A n c S w1 (hl.chgNo hc) (hd.chgNo hc) (by have := hc.size; omega)
  have hF : matchP x bs = if askedP x bs.length ≠ 0 then (false, askedP x bs.length) else (decide ((ranP x bs).1 = (bs.length : Int)), 0) := rfl
  obtain ⟨R, hR⟩ : ∃ R, matchP x bs = R := ⟨_, rfl⟩
  rw [hR] at hF ⊢
  have hzero := fun h => @askedP_zero x bs.length h
  obtain ⟨e0, he⟩ : ∃ e, askedP x bs.length = e := ⟨_, rfl⟩
  rw [he] at has hF hzero
  clear he hR
  go_enter Tryd.func21, Tryd.ntmps21
  go_wp2_with fail
  refine has.mono ?_
  rintro e w1 ⟨rfl, hc1⟩
  have hb1 := hb.chg hc1 id
  have y0 := hb1.cell 0
  have y1 := hb1.cell 1
  have y2 := hb1.cell 2
  have y3 := hb1.cell 3
  have y4 := hb1.cell 4
  have y5 := hb1.cell 5
  simp only [List.getElem?_toArray, List.getElem?_cons_zero, List.getElem?_cons_succ] at y0 y1 y2 y3 y4 y5
  by_cases q : e0 = 0
  · subst q
    rw [if_neg (by simp)] at hF
    obtain ⟨hck, hlen⟩ := hzero rfl
    have hnw := hnew hck w1 (hc0.trans hc1)
    have hrun := fun (w2 : World) (h2 : Chg No w1 w2) (G f l : Nat) (vt vf : Value) (fb : List Nat) (hn : NetAt w2 w1.heap.size G (sizeP x) (newP x).1 vt vf (.bool (newP x).2.e) (setV (sizeP x) f) (setV (sizeP x) l) fb) (hP : PartAt w2 (sizeP x) f l fb (newP x).2) (hfl : f ≠ l) =>
      run_new x (checkP_nodes x hck).1 (checkP_nodes x hck).2.2 bs B bs.length cb w1 w2 G f l vt vf fb h2.size hn hP hfl (hd.chgNo ((hc0.trans hc1).trans h2)) (by have := (hc0.trans hc1).size; omega) (HB.out.chgNo ((hc0.trans hc1).trans h2)) hlen
    obtain ⟨r, hr⟩ : ∃ r, ranP x bs = r := ⟨_, rfl⟩
    rw [hr] at hrun hF
    have HF := Lib.hid hF
    clear hF hnew hzero hr hck has
    obtain ⟨r1, r2⟩ := r
    simp only at hrun
    go_wp2_with fail
    refine hnw.mono ?_
    rintro e w2 ⟨G, vt, vf, fb, f, l, rfl, hn, hP, hfl, hc2⟩
    have hrn := hrun w2 hc2 G f l vt vf fb hn hP hfl
    clear hrun hn
    go_wp2_with fail
    refine hrn.mono ?_
    rintro e w3 ⟨rfl, hc3⟩
    go_wp2
    go_ret2
    exact ⟨by rw [HF.out]; rfl, ((hc0.trans hc1).trans hc2).trans hc3⟩
  · rw [if_pos q] at hF
    have e1 : (e0 != 0) = true := by simpa using q
    have HF := Lib.hid hF
    clear hF hnew hzero has
    go_wp2
    go_ret2
    exact ⟨by rw [HF.out]; rfl, hc0.trans hc1⟩

/-- Longest: how many bytes at most; or the error -/
def longestP (x : Ex) (bs : List Nat) : Int × Int := if askedP x bs.length ≠ 0 then (0, askedP x bs.length) else ((ranP x bs).1, 0)
set_option maxHeartbeats 1000000 in
set_option maxRecDepth 100000 in
theorem Longest_any (x : Ex) (A : Option Addr) (n c : Nat) (S : Nat → Prop) (w : World) (hl : Sl w S A n c x.l) (B : Option Addr) (m cb : Nat) (bs : List Nat) (hB : Byt w B m cb bs) (hd : Deb w) (hg : 0 < w.heap.size) :
    Calls Tryd.prog 25 #[.agg #[.int .i64 x.k, .int .i64 x.f, .int .i64 x.t, .int .i64 x.a, .int .i64 x.b, .slice A n c], .slice B m cb] w
      fun e w' => e = .returned (.tuple #[.int .i64 (longestP x bs).1, .int .i64 (longestP x bs).2]) ∧ Chg No w w' := by
  have hb := Blk.new w 25 #[.int .i64 x.k, .int .i64 x.f, .int .i64 x.t, .int .i64 x.a, .int .i64 x.b, .slice A n c]
  have hc0 : Chg No w (w.alloc (.cells #[.int .i64 x.k, .int .i64 x.f, .int .i64 x.t, .int .i64 x.a, .int .i64 x.b, .slice A n c] 25)) := (Chg.refl _ _).alloc _
  obtain ⟨hm, hB2⟩ := hB
  subst hm
  have HB := Lib.hid (show Byt w B bs.length cb bs from ⟨rfl, hB2⟩)
  have hcb := hB2.2.1
  have hlc := hB2.1
  clear hB2
  have has := asked_any x A n c S _ (hl.chgNo hc0) B bs.length cb
  have hnew := fun (h0 : checkP x = 0) (w1 : World) (hc : Chg No w w1) => newNet_any x (checkP_nodes x h0).1 (checkP_nodes x h0).2.1 (checkP_nodes x h0).2.2 A n c S w1 (hl.chgNo hc) (hd.chgNo hc) (by have := hc.size; omega)
  have hF : longestP x bs = if askedP x bs.length ≠ 0 then (0, askedP x bs.length) else ((ranP x bs).1, 0) := rfl
  obtain ⟨R, hR⟩ : ∃ R, longestP x bs = R := ⟨_, rfl⟩
  rw [hR] at hF ⊢
  have hzero := fun h => @askedP_zero x bs.length h
  obtain ⟨e0, he⟩ : ∃ e, askedP x bs.length = e := ⟨_, rfl⟩
  rw [he] at has hF hzero
  clear he hR
  go_enter Tryd.func25, Tryd.ntmps25
  go_wp2_with fail
  refine has.mono ?_
  rintro e w1 ⟨rfl, hc1⟩
  have hb1 := hb.chg hc1 id
  have y0 := hb1.cell 0
  have y1 := hb1.cell 1
  have y2 := hb1.cell 2
  have y3 := hb1.cell 3
  have y4 := hb1.cell 4
  have y5 := hb1.cell 5
  simp only [List.getElem?_toArray, List.getElem?_cons_zero, List.getElem?_cons_succ] at y0 y1 y2 y3 y4 y5
  by_cases q : e0 = 0
  · subst q
    rw [if_neg (by simp)] at hF
    obtain ⟨hck, hlen⟩ := hzero rfl
    have hnw := hnew hck w1 (hc0.trans hc1)
    have hrun := fun (w2 : World) (h2 : Chg No w1 w2) (G f l : Nat) (vt vf : Value) (fb : List Nat) (hn : NetAt w2 w1.heap.size G (sizeP x) (newP x).1 vt vf (.bool (newP x).2.e) (setV (sizeP x) f) (setV (sizeP x) l) fb) (hP : PartAt w2 (sizeP x) f l fb (newP x).2) (hfl : f ≠ l) =>
      run_new x (checkP_nodes x hck).1 (checkP_nodes x hck).2.2 bs B bs.length cb w1 w2 G f l vt vf fb h2.size hn hP hfl (hd.chgNo ((hc0.trans hc1).trans h2)) (by have := (hc0.trans hc1).size; omega) (HB.out.chgNo ((hc0.trans hc1).trans h2)) hlen
    obtain ⟨r, hr⟩ : ∃ r, ranP x bs = r := ⟨_, rfl⟩
    rw [hr] at hrun hF
    have HF := Lib.hid hF
    clear hF hnew hzero hr hck has
    obtain ⟨r1, r2⟩ := r
    simp only at hrun
    go_wp2_with fail
    refine hnw.mono ?_
    rintro e w2 ⟨G, vt, vf, fb, f, l, rfl, hn, hP, hfl, hc2⟩
    have hrn := hrun w2 hc2 G f l vt vf fb hn hP hfl
    clear hrun hn
    go_wp2_with fail
    refine hrn.mono ?_
    rintro e w3 ⟨rfl, hc3⟩
    go_wp2
    go_ret2
    exact ⟨by rw [HF.out]; rfl, ((hc0.trans hc1).trans hc2).trans hc3⟩
  · rw [if_pos q] at hF
    have e1 : (e0 != 0) = true := by simpa using q
    have HF := Lib.hid hF
    clear hF hnew hzero has
    go_wp2
    go_ret2
    exact ⟨by rw [HF.out]; rfl, hc0.trans hc1⟩

/-- Live: do the bytes begin a row; or the error -/
def liveP (x : Ex) (bs : List Nat) : Bool × Int := if askedP x bs.length ≠ 0 then (false, askedP x bs.length) else ((ranP x bs).2, 0)
set_option maxHeartbeats 1000000 in
set_option maxRecDepth 100000 in
theorem Live_any (x : Ex) (A : Option Addr) (n c : Nat) (S : Nat → Prop) (w : World) (hl : Sl w S A n c x.l) (B : Option Addr) (m cb : Nat) (bs : List Nat) (hB : Byt w B m cb bs) (hd : Deb w) (hg : 0 < w.heap.size) :
    Calls Tryd.prog 26 #[.agg #[.int .i64 x.k, .int .i64 x.f, .int .i64 x.t, .int .i64 x.a, .int .i64 x.b, .slice A n c], .slice B m cb] w
      fun e w' => e = .returned (.tuple #[.bool (liveP x bs).1, .int .i64 (liveP x bs).2]) ∧ Chg No w w' := by
  have hb := Blk.new w 25 #[.int .i64 x.k, .int .i64 x.f, .int .i64 x.t, .int .i64 x.a, .int .i64 x.b, .slice A n c]
  have hc0 : Chg No w (w.alloc (.cells #[.int .i64 x.k, .int .i64 x.f, .int .i64 x.t, .int .i64 x.a, .int .i64 x.b, .slice A n c] 25)) := (Chg.refl _ _).alloc _
  obtain ⟨hm, hB2⟩ := hB
  subst hm
  have HB := Lib.hid (show Byt w B bs.length cb bs from ⟨rfl, hB2⟩)
  have hcb := hB2.2.1
  have hlc := hB2.1
  clear hB2
  have has := asked_any x A n c S _ (hl.chgNo hc0) B bs.length cb
  have hnew := fun (h0 : checkP x = 0) (w1 : World) (hc : Chg No w w1) => newNet_any x (checkP_nodes x h0).1 (checkP_nodes x h0).2.1 (checkP_nodes x h0).2.2 A n c S w1 (hl.chgNo hc) (hd.chgNo hc) (by have := hc.size; omega)
  have hF : liveP x bs = if askedP x bs.length ≠ 0 then (false, askedP x bs.length) else ((ranP x bs).2, 0) := rfl
  obtain ⟨R, hR⟩ : ∃ R, liveP x bs = R := ⟨_, rfl⟩
  rw [hR] at hF ⊢
  have hzero := fun h => @askedP_zero x bs.length h
  obtain ⟨e0, he⟩ : ∃ e, askedP x bs.length = e := ⟨_, rfl⟩
  rw [he] at has hF hzero
  clear he hR
  go_enter Tryd.func26, Tryd.ntmps26
  go_wp2_with fail
  refine has.mono ?_
  rintro e w1 ⟨rfl, hc1⟩
  have hb1 := hb.chg hc1 id
  have y0 := hb1.cell 0
  have y1 := hb1.cell 1
  have y2 := hb1.cell 2
  have y3 := hb1.cell 3
  have y4 := hb1.cell 4
  have y5 := hb1.cell 5
  simp only [List.getElem?_toArray, List.getElem?_cons_zero, List.getElem?_cons_succ] at y0 y1 y2 y3 y4 y5
  by_cases q : e0 = 0
  · subst q
    rw [if_neg (by simp)] at hF
    obtain ⟨hck, hlen⟩ := hzero rfl
    have hnw := hnew hck w1 (hc0.trans hc1)
    have hrun := fun (w2 : World) (h2 : Chg No w1 w2) (G f l : Nat) (vt vf : Value) (fb : List Nat) (hn : NetAt w2 w1.heap.size G (sizeP x) (newP x).1 vt vf (.bool (newP x).2.e) (setV (sizeP x) f) (setV (sizeP x) l) fb) (hP : PartAt w2 (sizeP x) f l fb (newP x).2) (hfl : f ≠ l) =>
      run_new x (checkP_nodes x hck).1 (checkP_nodes x hck).2.2 bs B bs.length cb w1 w2 G f l vt vf fb h2.size hn hP hfl (hd.chgNo ((hc0.trans hc1).trans h2)) (by have := (hc0.trans hc1).size; omega) (HB.out.chgNo ((hc0.trans hc1).trans h2)) hlen
    obtain ⟨r, hr⟩ : ∃ r, ranP x bs = r := ⟨_, rfl⟩
    rw [hr] at hrun hF
    have HF := Lib.hid hF
    clear hF hnew hzero hr hck has
    obtain ⟨r1, r2⟩ := r
    simp only at hrun
    go_wp2_with fail
    refine hnw.mono ?_
    rintro e w2 ⟨G, vt, vf, fb, f, l, rfl, hn, hP, hfl, hc2⟩
    have hrn := hrun w2 hc2 G f l vt vf fb hn hP hfl
    clear hrun hn
    go_wp2_with fail
    refine hrn.mono ?_
    rintro e w3 ⟨rfl, hc3⟩
    go_wp2
    go_ret2
    exact ⟨by rw [HF.out]; rfl, ((hc0.trans hc1).trans hc2).trans hc3⟩
  · rw [if_pos q] at hF
    have e1 : (e0 != 0) = true := by simpa using q
    have HF := Lib.hid hF
    clear hF hnew hzero has
    go_wp2
    go_ret2
    exact ⟨by rw [HF.out]; rfl, hc0.trans hc1⟩
end Go.Proofs.YticipgjbgcdccaaDoor
namespace Go.Proofs.YticipgjbgcdccaaDoor
open Go.RowKit

def strK : ByteArray := ⟨#[40, 97, 98, 41, 42, 124, 91, 99, 45, 101, 93, 123, 50, 44, 125]⟩
def exK : Ex := .mk 3 0 0 0 0 [.mk 4 0 0 0 (-1) [.mk 2 0 0 0 0 [.mk 1 97 97 0 0 [], .mk 1 98 98 0 0 []]], .mk 4 0 0 2 (-1) [.mk 1 99 101 0 0 []]]
theorem parse_known : parseP strK = (exK, 0, 0) := by kernel_rfl
theorem print_known : printP exK = (strK, 0) := by kernel_rfl
theorem match_known : matchP exK [97, 98, 97, 98] = (true, 0) := by kernel_rfl
theorem longest_known : longestP exK [99, 100, 101, 120] = (3, 0) := by kernel_rfl

theorem byt4 {w : World} {g a b c d : Nat} {fr : Nat × Nat} (h : w.heap[g]? = some (.cells #[.int .u8 (a : Int), .int .u8 (b : Int), .int .u8 (c : Int), .int .u8 (d : Int)] 5 fr)) (ha : a < 256) (hb : b < 256) (hc : c < 256) (hd : d < 256) : Byt w (some ⟨g, 0, none⟩) 4 4 [a, b, c, d] := by
  refine ⟨rfl, by simp, by omega, fun _ => ⟨g, 0, rfl, (Array.getElem?_eq_some_iff.1 h).1, fun i x hx => ?_⟩⟩
  have h' := cell_of_row w g (0 + i) _ _ _ h
  rw [Nat.zero_add] at h' ⊢
  rw [h']
  rcases i with _ | _ | _ | _ | i <;> simp at hx <;> subst hx <;> simp <;> assumption

set_option maxHeartbeats 1000000 in
set_option maxRecDepth 100000 in
theorem known_any (w : World) (hd : Deb w) (hg : 0 < w.heap.size) (ht : Tab w) :
    Calls Tryd.prog 15 #[] w fun e w' => e = .returned (.bool true) ∧ Chg No w w' := by
  have hpa := parse_any ⟨#[40, 97, 98, 41, 42, 124, 91, 99, 45, 101, 93, 123, 50, 44, 125]⟩ w
  rw [show parseP ⟨#[40, 97, 98, 41, 42, 124, 91, 99, 45, 101, 93, 123, 50, 44, 125]⟩ = (exK, 0, 0) from parse_known] at hpa
  have hpr := fun A n c S w1 hl hw => print_any exK A n c S w1 hl (ht.chgNo hw)
  rw [show printP exK = (⟨#[40, 97, 98, 41, 42, 124, 91, 99, 45, 101, 93, 123, 50, 44, 125]⟩, 0) from print_known] at hpr
  have hma := fun A n c S w1 hl B m cb hB hw hz => Match_any exK A n c S w1 hl B m cb [97, 98, 97, 98] hB (hd.chgNo hw) hz
  rw [match_known] at hma
  have hlo := fun A n c S w1 hl B m cb hB hw hz => Longest_any exK A n c S w1 hl B m cb [99, 100, 101, 120] hB (hd.chgNo hw) hz
  rw [longest_known] at hlo
  generalize exK = X at hpa hpr hma hlo
  unfold ParsePost at hpa
  simp only at hpa hpr hma hlo
  have kc := fun (w : World) (C : Array Value) (n c : Nat) => Lib.run_convert_bytes_const (P := Tryd.prog) w 41 5 C n c rfl rfl
  go_enter Tryd.func15, Tryd.ntmps15
  go_wp2_with fail
  refine hpa.mono ?_
  rintro e w1 ⟨A, n, c, rfl, hl, hc1⟩
  go_wp2_with fail
  have hb := (Blk.new w1 25 #[.int .i64 X.k, .int .i64 X.f, .int .i64 X.t, .int .i64 X.a, .int .i64 X.b, .slice A n c]).alloc (.cells #[.int .i64 0, .int .i64 0, .string ⟨#[]⟩] 28)
  have k2 : Chg No w1 ((w1.alloc (.cells #[.int .i64 X.k, .int .i64 X.f, .int .i64 X.t, .int .i64 X.a, .int .i64 X.b, .slice A n c] 25)).alloc (.cells #[.int .i64 0, .int .i64 0, .string ⟨#[]⟩] 28)) := ((Chg.refl No w1).alloc _).alloc _
  refine (hpr A n c _ _ (hl.chgNo k2) (hc1.trans k2)).mono ?_
  rintro e w3 ⟨rfl, hc3⟩
  have hb3 := hb.chg hc3 id
  have y0 := hb3.cell 0
  have y1 := hb3.cell 1
  have y2 := hb3.cell 2
  have y3 := hb3.cell 3
  have y4 := hb3.cell 4
  have y5 := hb3.cell 5
  simp only [List.getElem?_toArray, List.getElem?_cons_zero, List.getElem?_cons_succ] at y0 y1 y2 y3 y4 y5
  have k3 := (hc1.trans k2).trans hc3
  have k4 : Chg No w3 (w3.alloc (.cells #[.int .u8 97, .int .u8 98, .int .u8 97, .int .u8 98] 5 (4, 5))) := (Chg.refl No w3).alloc _
  have hm := hma A n c _ _ (((hl.chgNo k2).chgNo hc3).chgNo k4) _ 4 4 (byt4 (heap_alloc_new w3 _) (by omega) (by omega) (by omega) (by omega)) (k3.trans k4) (by have := (k3.trans k4).size; omega)
  go_wp2_with fail
  refine hm.mono ?_
  rintro e w5 ⟨rfl, hc5⟩
  clear y0 y1 y2 y3 y4 y5
  have hb5 := (hb3.chg k4 id).chg hc5 id
  have y0 := hb5.cell 0
  have y1 := hb5.cell 1
  have y2 := hb5.cell 2
  have y3 := hb5.cell 3
  have y4 := hb5.cell 4
  have y5 := hb5.cell 5
  simp only [List.getElem?_toArray, List.getElem?_cons_zero, List.getElem?_cons_succ] at y0 y1 y2 y3 y4 y5
  have k5 := (k3.trans k4).trans hc5
  have k6 : Chg No w5 (w5.alloc (.cells #[.int .u8 99, .int .u8 100, .int .u8 101, .int .u8 120] 5 (4, 5))) := (Chg.refl No w5).alloc _
  have hm := hlo A n c _ _ (((((hl.chgNo k2).chgNo hc3).chgNo k4).chgNo hc5).chgNo k6) _ 4 4 (byt4 (heap_alloc_new w5 _) (by omega) (by omega) (by omega) (by omega)) (k5.trans k6) (by have := (k5.trans k6).size; omega)
  go_wp2_with fail
  refine hm.mono ?_
  rintro e w7 ⟨rfl, hc7⟩
  go_wp2
  go_ret
  exact ⟨rfl, (k5.trans k6).trans hc7⟩
end Go.Proofs.YticipgjbgcdccaaDoor
