/- Package expr: empty, Empty: contracts.
   Package expr: the net of a pattern (positions, what they take, which may follow), in plain Lean.
   Package expr: sets of positions in memory, and the functions on them: contracts.
   Package expr: the members of a set, one by one: (set).each as an iterator.
   A region that draws its order in a round of a range over a function: a still head, then a tail in order. No condition: lemmas.
   Package expr: the net in memory; (net).cat: contract.
   Package expr: the net grows: appends to its rows; (net).add of a range: contracts. -/
import Derived.Test.YticipgjbgcdccaaDoorZ4
import Derived.Deep.RegionLaw
import Derived.Test.YticipgjbgcdccaaDoorZ1
import Derived.Test.YticipgjbgcdccaaDoorZ3
import Derived.Laws.Bits64b
import Derived.RangeFuncNested
import Derived.RangeFuncBound
import Derived.RangeFuncCalls
import Derived.RangeFuncLeaves
import Derived.Shelf.Abstract
import Derived.Shelf.RegionOpen
import Derived.OwnWalkIn
import Derived.TacticsInMore
import Derived.LoopNIn
import Derived.LoopIn
import Derived.StillTailTactics
set_option linter.unusedSimpArgs false
set_option linter.unusedVariables false
namespace Go.Proofs.YticipgjbgcdccaaDoor
open Go.RowKit

def loopE (k : Int) : List Bool → Bool
  | [] => k == 2
  | e :: es => if (e != (k == 2)) = true then k == 3 else loopE k es
mutual
/-- does a right pattern match the empty row? -/
def emptyP : Ex → Bool
  | .mk k _ _ a _ l => if k = 1 then false else if k = 4 then a == 0 || (emptiesP l).headD false else loopE k (emptiesP l)
def emptiesP : List Ex → List Bool
  | [] => []
  | x :: xs => emptyP x :: emptiesP xs
end
theorem emptiesP_eq (l : List Ex) : emptiesP l = l.map emptyP := by
  induction l with
  | nil => simp [emptiesP]
  | cons x l ih => simp [emptiesP, ih]

set_option maxHeartbeats 2000000 in
set_option maxRecDepth 100000 in
theorem empty_any : ∀ (N : Nat) (x : Ex) (A : Option Addr) (n c : Nat) (S : Nat → Prop) (w : World), SizeOf.sizeOf x < N → rightP x = true → Sl w S A n c x.l →
    Calls Tryd.prog 65 #[.agg #[.int .i64 x.k, .int .i64 x.f, .int .i64 x.t, .int .i64 x.a, .int .i64 x.b, .slice A n c]] w
      fun e w' => e = .returned (.bool (emptyP x)) ∧ Chg No w w' := by
  intro N
  induction N with
  | zero => intro _ _ _ _ _ _ h; omega
  | succ N ih =>
    intro x A n c S w hN hR hl
    have IH := Lib.hid ih; clear ih
    obtain ⟨k, f, t, a, b, l⟩ := x
    simp only [Ex.k, Ex.f, Ex.t, Ex.a, Ex.b, Ex.l] at hl ⊢
    obtain ⟨rfl, hc1, hc2⟩ : n = l.length ∧ l.length ≤ c ∧ c ≤ 9223372036854775807 := ⟨hl.1, by have := hl.2.1; have := hl.1; omega, hl.2.2.1⟩
    obtain ⟨hh, hr⟩ := rightP_head hR
    have hb := Blk.new w 25 #[.int .i64 k, .int .i64 f, .int .i64 t, .int .i64 a, .int .i64 b, .slice A l.length c]
    have hc0 : Chg No w (w.alloc (.cells #[.int .i64 k, .int .i64 f, .int .i64 t, .int .i64 a, .int .i64 b, .slice A l.length c] 25)) := (Chg.refl _ _).alloc _
    have y0 := hb.cell 0
    have y3 := hb.cell 3
    have y5 := hb.cell 5
    simp only [List.getElem?_toArray, List.getElem?_cons_zero, List.getElem?_cons_succ] at y0 y3 y5
    by_cases k1 : k = 1
    · have HF : Hid (emptyP (.mk k f t a b l) = false) := Lib.hid (by unfold emptyP; rw [if_pos k1])
      subst k1
      clear hh
      go_enter Tryd.func65, Tryd.ntmps65
      go_wp2
      go_ret
      exact ⟨by rw [HF.out]; rfl, hc0⟩
    have e1 : (k == 1) = false := by simpa using k1
    by_cases k4 : k = 4
    · subst k4
      have hab : l.length = 1 := by simp [headOk] at hh; omega
      obtain ⟨y, rfl⟩ : ∃ y, l = [y] := List.length_eq_one_iff.1 hab
      have hF : emptyP (.mk 4 f t a b [y]) = (a == 0 || emptyP y) := by
        conv => lhs; unfold emptyP
        rw [if_neg (by omega), if_pos rfl, emptiesP_eq]; rfl
      have hy := fun (w1 : World) (A' : Option Addr) (n' c' : Nat) (h : Sl w1 S A' n' c' y.l) => IH.out y A' n' c' S w1 (by have := Ex.lt_of_mem (l := [y]) (x := y) (by simp) 4 f t a b; omega) (hr y (by simp)) h
      obtain ⟨k0, h0⟩ : ∃ q : Bool, (a == 0) = q := ⟨_, rfl⟩
      obtain ⟨E, hE⟩ : ∃ E, emptyP y = E := ⟨_, rfl⟩
      rw [h0, hE] at hF
      rw [hE] at hy
      have HF := Lib.hid hF
      clear hF hE hh hr
      simp only [List.length_cons, List.length_nil, Nat.zero_add] at hl hb hc0 y0 y3 y5
      obtain ⟨g, o, A', c', rfl, hS, x0, x1, x2, x3, x4, x5, hx⟩ := (hl.chgNo hc0).at_ 0 (by simp)
      simp only [List.getElem_cons_zero, Nat.zero_mul, Nat.add_zero] at x0 x1 x2 x3 x4 x5 hx
      have hc := hy _ A' _ c' hx
      go_enter Tryd.func65, Tryd.ntmps65
      cases k0
      all_goals
        go_wp2_with (go_at_call 65; refine hc.mono ?_; rintro e w2 ⟨rfl, hu⟩)
        go_ret
        refine ⟨by rw [HF.out]; rfl, ?_⟩
        first | exact hc0.trans hu | exact hc0
    have e4 : (k == 4) = false := by simpa using k4
    have hF : emptyP (.mk k f t a b l) = loopE k (emptiesP l) := by
      conv => lhs; unfold emptyP
      rw [if_neg k1, if_neg k4]
    have HF := Lib.hid hF
    have HR := Lib.hid hr
    obtain ⟨q2, h2⟩ : ∃ q : Bool, (k == 2) = q := ⟨_, rfl⟩
    obtain ⟨q3, h3⟩ : ∃ q : Bool, (k == 3) = q := ⟨_, rfl⟩
    clear hF hh hr k1 k4
    go_enter Tryd.func65, Tryd.ntmps65
    go_wp2_with fail
    go_loopw [24] (fun v24 wr => ∃ i : Nat, i ≤ l.length ∧ v24 = .int .i64 (i : Int) ∧ loopE k (emptiesP l) = loopE k (emptiesP (l.drop i)) ∧ Chg No (w.alloc (.cells #[.int .i64 k, .int .i64 f, .int .i64 t, .int .i64 a, .int .i64 b, .slice A l.length c] 25)) wr) (fun v _ => l.length - (intOf v).toNat)
    case atStart => exact ⟨0, Nat.zero_le _, rfl, by simp, Chg.refl No _⟩
    case round =>
      obtain ⟨i, hi, rfl, hw, hc⟩ := hrel
      have z0 := (hb.chg hc id).cell 0
      simp only [List.getElem?_toArray, List.getElem?_cons_zero, List.getElem?_cons_succ] at z0
      by_cases hlt : i < l.length
      · obtain ⟨g, o, A', c', rfl, hS, x0, x1, x2, x3, x4, x5, hx⟩ := (hl.chgNo (hc0.trans hc)).at_ i hlt
        have hy := fun (w1 : World) (h : Sl w1 S A' l[i].l.length c' l[i].l) => IH.out l[i] A' _ c' S w1 (by have := Ex.lt_of_mem (List.getElem_mem hlt) k f t a b; omega) (HR.out _ (List.getElem_mem hlt)) h
        have hst : loopE k (emptiesP (l.drop i)) = if (emptyP l[i] != q2) = true then q3 else loopE k (emptiesP (l.drop (i + 1))) := by
          rw [List.drop_eq_getElem_cons hlt, ← h2, ← h3]; rfl
        obtain ⟨E, hE⟩ : ∃ E, emptyP l[i] = E := ⟨_, rfl⟩
        rw [hE] at hy hst
        have HW := Lib.hid (hw.trans hst)
        clear hw hst hE
        have hmix : Chg No wr (wr.alloc (.cells #[.int .i64 l[i].k, .int .i64 l[i].f, .int .i64 l[i].t, .int .i64 l[i].a, .int .i64 l[i].b, .slice A' l[i].l.length c'] 25)) := (Chg.refl No wr).alloc _
        have hB := (hb.chg hc id).chg hmix id
        have w0 := hB.cell 0
        simp only [List.getElem?_toArray, List.getElem?_cons_zero, List.getElem?_cons_succ] at w0
        have hkeep : ∀ w2, Chg No (wr.alloc (.cells #[.int .i64 l[i].k, .int .i64 l[i].f, .int .i64 l[i].t, .int .i64 l[i].a, .int .i64 l[i].b, .slice A' l[i].l.length c'] 25)) w2 → w2.cell? ⟨w.heap.size, 0, none⟩ = some (.int .i64 k) := fun w2 h => (h.below.cell (World.block_lt_of_cell? _ _ w0)).trans w0
        go_wp2_with fail
        go_region_law (go_simp; go_at_call 65; refine (hy _ (hx.chgNo (hmix.trans ((Chg.refl No (wr.alloc (.cells #[.int .i64 l[i].k, .int .i64 l[i].f, .int .i64 l[i].t, .int .i64 l[i].a, .int .i64 l[i].b, .slice A' l[i].l.length c'] 25))).drew)))).mono ?_; rintro e w2 ⟨rfl, hu⟩; have HU := ((Chg.refl No (wr.alloc (.cells #[.int .i64 l[i].k, .int .i64 l[i].f, .int .i64 l[i].t, .int .i64 l[i].a, .int .i64 l[i].b, .slice A' l[i].l.length c'] 25))).drew).trans hu; have u0 := hkeep _ HU)
        all_goals
          have hC := (hc.trans hmix).trans HU
          cases E <;> cases q2
        all_goals
          go_wp2
          first
          | (go_ret; exact ⟨by rw [HF.out, HW.out]; rfl, hc0.trans hC⟩)
          | exact ⟨⟨i + 1, by omega, by go_num, HW.out, hC⟩, by simp [intOf]; omega⟩
      · obtain rfl : i = l.length := by omega
        have HW : Hid (loopE k (emptiesP l) = (k == 2)) := Lib.hid (by rw [hw, List.drop_length]; rfl)
        rw [h2] at HW
        clear hw
        go_wp2
        go_ret
        exact ⟨by rw [HF.out, HW.out]; rfl, hc0.trans hc⟩

def EmptyP (x : Ex) : Bool := decide (checkP x = 0) && emptyP x
set_option maxHeartbeats 1000000 in
set_option maxRecDepth 100000 in
theorem Empty_any (x : Ex) (A : Option Addr) (n c : Nat) (S : Nat → Prop) (w : World) (hl : Sl w S A n c x.l) :
    Calls Tryd.prog 33 #[.agg #[.int .i64 x.k, .int .i64 x.f, .int .i64 x.t, .int .i64 x.a, .int .i64 x.b, .slice A n c]] w
      fun e w' => e = .returned (.bool (EmptyP x)) ∧ Chg No w w' := by
  have hb := Blk.new w 25 #[.int .i64 x.k, .int .i64 x.f, .int .i64 x.t, .int .i64 x.a, .int .i64 x.b, .slice A n c]
  have hc0 : Chg No w (w.alloc (.cells #[.int .i64 x.k, .int .i64 x.f, .int .i64 x.t, .int .i64 x.a, .int .i64 x.b, .slice A n c] 25)) := (Chg.refl _ _).alloc _
  have hck := fun w1 (h : Chg No w w1) => check_any w1 x.k x.f x.t x.a x.b A n c x.l S (hl.chgNo h)
  rw [Ex.eta] at hck
  have hF : EmptyP x = (decide (checkP x = 0) && emptyP x) := rfl
  have hpr := fun (h : checkP x = 0) w1 (h1 : Sl w1 S A n c x.l) => empty_any _ x A n c S w1 (Nat.lt_succ_self _) (checkP_nodes x h).1 h1
  obtain ⟨e0, he⟩ : ∃ e, checkP x = e := ⟨_, rfl⟩
  obtain ⟨T, hT⟩ : ∃ T, emptyP x = T := ⟨_, rfl⟩
  rw [he] at hck hF hpr
  rw [hT] at hF hpr
  have HL := Lib.hid hl
  clear hT he
  go_enter Tryd.func33, Tryd.ntmps33
  go_wp2_with fail
  refine (hck _ hc0).mono ?_
  rintro e w1 ⟨rfl, hc1⟩
  have hb1 := hb.chg hc1 id
  have y0 := hb1.cell 0
  have y1 := hb1.cell 1
  have y2 := hb1.cell 2
  have y3 := hb1.cell 3
  have y4 := hb1.cell 4
  have y5 := hb1.cell 5
  simp only [List.getElem?_toArray, List.getElem?_cons_zero, List.getElem?_cons_succ] at y0 y1 y2 y3 y4 y5
  by_cases q : e0 = 0
  · subst q
    rw [decide_eq_true rfl, Bool.true_and] at hF
    have hp := hpr rfl w1 (HL.out.chgNo (hc0.trans hc1))
    have HF := Lib.hid hF
    clear hpr hck hF
    go_wp2_with (go_at_call 65; refine hp.mono ?_; rintro e w2 ⟨rfl, hcp⟩)
    go_ret
    exact ⟨by rw [HF.out]; rfl, (hc0.trans hc1).trans hcp⟩
  · rw [decide_eq_false q, Bool.false_and] at hF
    have e1 : (e0 == 0) = false := by simpa using q
    have HF := Lib.hid hF
    clear hF hpr hck
    go_wp2
    go_ret
    exact ⟨by rw [HF.out]; rfl, hc0.trans hc1⟩
end Go.Proofs.YticipgjbgcdccaaDoor
namespace Go.Proofs.YticipgjbgcdccaaDoor
open Go.RowKit

/-- a piece of an unrolled pattern: may it be nothing; with which positions it begins, ends -/
structure Part where
  e : Bool
  F : Nat
  L : Nat
/-- what has been unrolled: what each position takes, which may follow it -/
structure Nt where
  tk : List (Int × Int)
  fo : List Nat

/-- behind each position of a all of b may follow -/
def linkP (a b : Nat) : Nat → List Nat → List Nat
  | _, [] => []
  | p, m :: ms => (if a.testBit p = true then m ||| b else m) :: linkP a b (p + 1) ms
def outP (a b : Part) : Part := ⟨a.e && b.e, if a.e = true then a.F ||| b.F else a.F, if b.e = true then b.L ||| a.L else b.L⟩
def altP : List (Nt → Nt × Part) → Nt → Part → Nt × Part
  | [], n, o => (n, o)
  | g :: gs, n, o => altP gs (g n).1 ⟨o.e || (g n).2.e, o.F ||| (g n).2.F, o.L ||| (g n).2.L⟩
def catP (n : Nt) (a b : Part) : Nt × Part := (⟨n.tk, linkP a.L b.F 0 n.fo⟩, outP a b)
def seqP : List (Nt → Nt × Part) → Nt → Part → Nt × Part
  | [], n, o => (n, o)
  | g :: gs, n, o => seqP gs (catP (g n).1 o (g n).2).1 (catP (g n).1 o (g n).2).2
def iterP (g : Nt → Nt × Part) (n : Nt) : Nat → Nt × List Part
  | 0 => (n, [])
  | i + 1 => ((g (iterP g n i).1).1, (iterP g n i).2 ++ [(g (iterP g n i).1).2])
/-- one copy ahead of what is there -/
def backStep (a b : Int) (last : Bool) (i : Nat) (p : Part) (r : List Nat × Part) : List Nat × Part :=
  let fo := if b < 0 ∧ last = true then linkP p.L p.F 0 r.1 else r.1
  (linkP p.L r.2.F 0 fo, ⟨(p.e && r.2.e) || decide (a ≤ i), (outP p r.2).F, (outP p r.2).L⟩)
def backP (a b : Int) : Nat → List Part → List Nat → List Nat × Part
  | _, [], fo => (fo, ⟨true, 0, 0⟩)
  | i, p :: ps, fo => backStep a b ps.isEmpty i p (backP a b (i + 1) ps fo)
def repP (pos : Int) (a b : Int) (gs : List (Nt → Nt × Part)) (n : Nt) : Nt × Part :=
  if pos = 0 then (n, ⟨true, 0, 0⟩)
  else match gs with
    | [] => (n, ⟨true, 0, 0⟩)
    | g :: _ => let r := iterP g n (copiesP a b).toNat; let q := backP a b 0 r.2 r.1.fo; (⟨r.1.tk, q.1⟩, q.2)
mutual
def addP : Ex → Nt → Nt × Part
  | .mk k f t a b l => fun n =>
    if k = 1 then (⟨n.tk ++ [(f, t)], n.fo ++ [0]⟩, ⟨false, 2 ^ n.tk.length, 2 ^ n.tk.length⟩)
    else if k = 3 then altP (addsP l) n ⟨false, 0, 0⟩
    else if k = 4 then repP (positionsS l) a b (addsP l) n
    else seqP (addsP l) n ⟨true, 0, 0⟩
def addsP : List Ex → List (Nt → Nt × Part)
  | [] => []
  | x :: xs => addP x :: addsP xs
end
theorem addsP_eq (l : List Ex) : addsP l = l.map addP := by
  induction l with
  | nil => simp [addsP]
  | cons x l ih => simp [addsP, ih]
def sizeP (x : Ex) : Nat := (positionsP x).toNat / 64 + 1
def newP (x : Ex) : Nt × Part := addP x ⟨[], []⟩

/-- one byte read: which positions may come next; does a row end with it? -/
def stepP (n : Nt) (L c : Nat) (l : List Nat) : Nat × Bool :=
  l.foldl (fun r p => if (c : Int) < (n.tk.getD p (0, 0)).1 ∨ (n.tk.getD p (0, 0)).2 < (c : Int) then r else (r.1 ||| n.fo.getD p 0, r.2 || L.testBit p)) (0, false)
def runP (n : Nt) (L sz : Nat) : Nat → List Nat → Nat → Int → Int × Bool
  | _, [], _, lo => (lo, true)
  | i, c :: cs, next, lo =>
    if (stepP n L c (eachP sz next)).2 = true then runP n L sz (i + 1) cs (stepP n L c (eachP sz next)).1 (i + 1)
    else if (stepP n L c (eachP sz next)).1 = 0 then (lo, false)
    else runP n L sz (i + 1) cs (stepP n L c (eachP sz next)).1 lo
def ranP (x : Ex) (b : List Nat) : Int × Bool :=
  runP (newP x).1 (newP x).2.L (sizeP x) 0 b (newP x).2.F (if (newP x).2.e = true then 0 else -1)

theorem linkP_length (a b : Nat) (l : List Nat) : ∀ i, (linkP a b i l).length = l.length := by
  induction l with
  | nil => intro i; rfl
  | cons m l ih => intro i; simp [linkP, ih]
theorem linkP_get (a b : Nat) (l : List Nat) : ∀ i p, (linkP a b i l)[p]? = l[p]?.map fun m => if a.testBit (i + p) = true then m ||| b else m := by
  induction l with
  | nil => intro i p; simp [linkP]
  | cons m l ih =>
    intro i p
    cases p with
    | zero => simp [linkP]
    | succ p => simp only [linkP, List.getElem?_cons_succ, ih]; rw [show i + 1 + p = i + (p + 1) by omega]
/-- the same, one position at a time -/
def linkL (b : Nat) (ps : List Nat) (fo : List Nat) : List Nat := ps.foldl (fun fo p => fo.modify p (· ||| b)) fo
theorem linkL_get (b : Nat) (ps : List Nat) : ∀ (fo : List Nat) (p : Nat), (linkL b ps fo)[p]? = fo[p]?.map fun m => if p ∈ ps then m ||| b else m := by
  induction ps with
  | nil => intro fo p; simp [linkL]
  | cons q ps ih =>
    intro fo p
    have : linkL b (q :: ps) fo = linkL b ps (fo.modify q (· ||| b)) := rfl
    rw [this, ih, List.getElem?_modify]
    cases fo[p]? with
    | none => simp
    | some m =>
      simp only [Option.map_some, Option.map_map, Option.some.injEq, List.mem_cons]
      by_cases h : q = p
      · subst h
        by_cases h2 : q ∈ ps <;> simp [h2, Nat.or_assoc, Nat.or_self]
      · have : ¬ p = q := fun e => h e.symm
        simp [h, this]
theorem linkL_each {sz a : Nat} (h : a < 2 ^ (64 * sz)) (b : Nat) (fo : List Nat) : linkL b (eachP sz a) fo = linkP a b 0 fo := by
  apply List.ext_getElem?
  intro p
  rw [linkL_get, linkP_get, Nat.zero_add]
  congr 1
  funext m
  simp only [mem_eachP h p]
theorem linkL_length (b : Nat) (ps : List Nat) (fo : List Nat) : (linkL b ps fo).length = fo.length := by
  unfold linkL
  induction ps generalizing fo with
  | nil => rfl
  | cons q ps ih => rw [List.foldl_cons, ih]; simp

/-- as many sets as positions; all within the first N -/
structure NtOk (N : Nat) (n : Nt) : Prop where
  len : n.fo.length = n.tk.length
  le : n.tk.length ≤ N
  fo : ∀ m ∈ n.fo, m < 2 ^ N
structure PartOk (N : Nat) (p : Part) : Prop where
  F : p.F < 2 ^ N
  L : p.L < 2 ^ N
theorem linkP_ok {N a b : Nat} (hb : b < 2 ^ N) {l : List Nat} (h : ∀ m ∈ l, m < 2 ^ N) : ∀ i, ∀ m ∈ linkP a b i l, m < 2 ^ N := by
  induction l with
  | nil => intro i m hm; simp [linkP] at hm
  | cons x l ih =>
    intro i m hm
    simp only [linkP, List.mem_cons] at hm
    rcases hm with rfl | hm
    · split
      · exact Nat.or_lt_two_pow (h x (by simp)) hb
      · exact h x (by simp)
    · exact ih (fun y hy => h y (by simp [hy])) _ m hm
theorem outP_ok {N : Nat} {a b : Part} (ha : PartOk N a) (hb : PartOk N b) : PartOk N (outP a b) := by
  constructor
  · simp only [outP]; split
    · exact Nat.or_lt_two_pow ha.F hb.F
    · exact ha.F
  · simp only [outP]; split
    · exact Nat.or_lt_two_pow hb.L ha.L
    · exact hb.L
theorem catP_ok {N : Nat} {n : Nt} {a b : Part} (hn : NtOk N n) (ha : PartOk N a) (hb : PartOk N b) : NtOk N (catP n a b).1 ∧ PartOk N (catP n a b).2 ∧ (catP n a b).1.tk = n.tk :=
  ⟨⟨by simp only [catP, linkP_length]; exact hn.len, hn.le, linkP_ok hb.F hn.fo 0⟩, outP_ok ha hb, rfl⟩
theorem PartOk.zero (N : Nat) (e : Bool) : PartOk N ⟨e, 0, 0⟩ := ⟨Nat.two_pow_pos N, Nat.two_pow_pos N⟩

/-- what a function that lays down positions keeps, where it lays down j -/
def Lays (N : Nat) (g : Nt → Nt × Part) (j : Nat) : Prop := ∀ n, NtOk N n → n.tk.length + j ≤ N → NtOk N (g n).1 ∧ PartOk N (g n).2 ∧ (g n).1.tk.length = n.tk.length + j
theorem NtOk.mono {N : Nat} {n : Nt} (h : NtOk N n) : NtOk N n := h
theorem altP_lays {N : Nat} : ∀ (gs : List (Nt → Nt × Part)) (js : List Nat), gs.length = js.length → (∀ (i : Nat) (g : Nt → Nt × Part) (j : Nat), gs[i]? = some g → js[i]? = some j → Lays N g j) →
    ∀ n o, NtOk N n → PartOk N o → n.tk.length + js.sum ≤ N → NtOk N (altP gs n o).1 ∧ PartOk N (altP gs n o).2 ∧ (altP gs n o).1.tk.length = n.tk.length + js.sum
  | [], [], _, _, n, o, hn, ho, _ => ⟨hn, ho, by simp [altP]⟩
  | [], _ :: _, h, _, _, _, _, _, _ => by simp at h
  | _ :: _, [], h, _, _, _, _, _, _ => by simp at h
  | g :: gs, j :: js, h, hl, n, o, hn, ho, hb => by
    simp only [List.sum_cons] at hb ⊢
    obtain ⟨h1, h2, h3⟩ := hl 0 g j rfl rfl n hn (by omega)
    have := altP_lays gs js (by simpa using h) (fun i g' j' hg hj => hl (i + 1) g' j' (by simpa using hg) (by simpa using hj)) (g n).1 ⟨o.e || (g n).2.e, o.F ||| (g n).2.F, o.L ||| (g n).2.L⟩ h1
      ⟨Nat.or_lt_two_pow ho.F h2.F, Nat.or_lt_two_pow ho.L h2.L⟩ (by omega)
    refine ⟨this.1, this.2.1, ?_⟩
    rw [show (altP (g :: gs) n o) = altP gs (g n).1 ⟨o.e || (g n).2.e, o.F ||| (g n).2.F, o.L ||| (g n).2.L⟩ from rfl, this.2.2]; omega
theorem seqP_lays {N : Nat} : ∀ (gs : List (Nt → Nt × Part)) (js : List Nat), gs.length = js.length → (∀ (i : Nat) (g : Nt → Nt × Part) (j : Nat), gs[i]? = some g → js[i]? = some j → Lays N g j) →
    ∀ n o, NtOk N n → PartOk N o → n.tk.length + js.sum ≤ N → NtOk N (seqP gs n o).1 ∧ PartOk N (seqP gs n o).2 ∧ (seqP gs n o).1.tk.length = n.tk.length + js.sum
  | [], [], _, _, n, o, hn, ho, _ => ⟨hn, ho, by simp [seqP]⟩
  | [], _ :: _, h, _, _, _, _, _, _ => by simp at h
  | _ :: _, [], h, _, _, _, _, _, _ => by simp at h
  | g :: gs, j :: js, h, hl, n, o, hn, ho, hb => by
    simp only [List.sum_cons] at hb ⊢
    obtain ⟨h1, h2, h3⟩ := hl 0 g j rfl rfl n hn (by omega)
    obtain ⟨c1, c2, c3⟩ := catP_ok h1 ho h2
    have := seqP_lays gs js (by simpa using h) (fun i g' j' hg hj => hl (i + 1) g' j' (by simpa using hg) (by simpa using hj)) _ _ c1 c2 (by rw [c3]; omega)
    refine ⟨this.1, this.2.1, ?_⟩
    rw [show (seqP (g :: gs) n o) = seqP gs (catP (g n).1 o (g n).2).1 (catP (g n).1 o (g n).2).2 from rfl, this.2.2, c3]; omega
theorem iterP_lays {N : Nat} {g : Nt → Nt × Part} {j : Nat} (hg : Lays N g j) (n : Nt) (hn : NtOk N n) : ∀ i, n.tk.length + i * j ≤ N →
    NtOk N (iterP g n i).1 ∧ (∀ p ∈ (iterP g n i).2, PartOk N p) ∧ (iterP g n i).1.tk.length = n.tk.length + i * j ∧ (iterP g n i).2.length = i
  | 0, _ => ⟨hn, by simp [iterP], by simp [iterP], rfl⟩
  | i + 1, h => by
    rw [Nat.succ_mul] at h ⊢
    obtain ⟨h1, h2, h3, h4⟩ := iterP_lays hg n hn i (by omega)
    obtain ⟨k1, k2, k3⟩ := hg _ h1 (by omega)
    refine ⟨k1, ?_, ?_, ?_⟩
    · intro p hp
      simp only [iterP, List.mem_append, List.mem_singleton] at hp
      rcases hp with hp | rfl
      · exact h2 p hp
      · exact k2
    · show (g (iterP g n i).1).1.tk.length = _
      rw [k3]; omega
    · simp [iterP, h4]
theorem backStep_ok {N : Nat} {a b : Int} {last : Bool} {i : Nat} {p : Part} {r : List Nat × Part} (hp : PartOk N p) (hr : PartOk N r.2) (hf : ∀ m ∈ r.1, m < 2 ^ N) :
    PartOk N (backStep a b last i p r).2 ∧ (∀ m ∈ (backStep a b last i p r).1, m < 2 ^ N) ∧ (backStep a b last i p r).1.length = r.1.length := by
  have ho := outP_ok hp hr
  refine ⟨⟨ho.F, ho.L⟩, ?_, ?_⟩
  · simp only [backStep]
    refine linkP_ok hr.F ?_ 0
    split
    · exact linkP_ok hp.F hf 0
    · exact hf
  · simp only [backStep, linkP_length]
    split <;> simp [linkP_length]
theorem backP_ok {N : Nat} (a b : Int) : ∀ (ps : List Part) (i : Nat) (fo : List Nat), (∀ p ∈ ps, PartOk N p) → (∀ m ∈ fo, m < 2 ^ N) →
    PartOk N (backP a b i ps fo).2 ∧ (∀ m ∈ (backP a b i ps fo).1, m < 2 ^ N) ∧ (backP a b i ps fo).1.length = fo.length
  | [], _, _, _, hf => ⟨PartOk.zero N true, hf, rfl⟩
  | p :: ps, i, fo, hp, hf => by
    obtain ⟨h1, h2, h3⟩ := backP_ok a b ps (i + 1) fo (fun q hq => hp q (by simp [hq])) hf
    obtain ⟨k1, k2, k3⟩ := backStep_ok (a := a) (b := b) (last := ps.isEmpty) (i := i) (hp p (by simp)) h1 h2
    exact ⟨k1, k2, k3.trans h3⟩

theorem positionsS_nat (l : List Ex) (hr : ∀ x ∈ l, rightP x = true) : (positionsS l).toNat = (l.map fun x => (positionsP x).toNat).sum := by
  induction l with
  | nil => simp [positionsS]
  | cons x l ih =>
    have h1 := positionsP_le x (hr x (by simp))
    have h2 := positionsS_le l fun y hy => hr y (by simp [hy])
    simp only [positionsS, List.map_cons, List.sum_cons, ← ih fun y hy => hr y (by simp [hy])]; omega
theorem positionsP_le_S (l : List Ex) (hr : ∀ x ∈ l, rightP x = true) : ∀ x ∈ l, positionsP x ≤ positionsS l := by
  induction l with
  | nil => intro x h; simp at h
  | cons y l ih =>
    intro x h
    have h1 := positionsP_le y (hr y (by simp))
    have h2 := positionsS_le l fun y hy => hr y (by simp [hy])
    simp only [List.mem_cons] at h
    simp only [positionsS]
    rcases h with rfl | h
    · omega
    · have := ih (fun z hz => hr z (by simp [hz])) x h; omega

/-- a pattern lays down as many positions as it has -/
theorem addP_lays (N : Nat) : ∀ (z : Nat) (x : Ex), SizeOf.sizeOf x < z → rightP x = true → positionsP x ≤ 4096 → Lays N (addP x) (positionsP x).toNat := by
  intro z
  induction z with
  | zero => intro _ h; omega
  | succ z ih =>
    intro x hz hR hp
    obtain ⟨k, f, t, a, b, l⟩ := x
    obtain ⟨hh, hr⟩ := rightP_head hR
    intro n hn hN
    unfold addP
    by_cases k1 : k = 1
    · have e : positionsP (.mk k f t a b l) = 1 := by unfold positionsP; rw [if_pos k1]
      rw [e] at hN ⊢
      rw [if_pos k1]
      have hlt : 2 ^ n.tk.length < 2 ^ N := Nat.pow_lt_pow_right (by decide) (by simp at hN; omega)
      refine ⟨⟨by simp [hn.len], by simp at hN ⊢; omega, ?_⟩, ⟨hlt, hlt⟩, by simp⟩
      intro m hm
      simp only [List.mem_append, List.mem_singleton] at hm
      rcases hm with hm | rfl
      · exact hn.fo m hm
      · exact Nat.two_pow_pos N
    · rw [if_neg k1]
      have e : positionsP (.mk k f t a b l) = min (if k = 4 then positionsS l * copiesP a b else positionsS l) 4097 := by unfold positionsP; rw [if_neg k1]
      have hs := positionsS_le l hr
      by_cases k4 : k = 4
      · rw [if_neg (by omega), if_pos k4]
        rw [if_pos k4] at e
        have hc := copiesP_le hh k4
        subst k4
        have hlen : l.length = 1 := by simp [headOk] at hh; omega
        obtain ⟨y, rfl⟩ := List.length_eq_one_iff.1 hlen
        have ey : positionsS [y] = positionsP y := by simp [positionsS]
        rw [ey] at e ⊢
        unfold repP
        by_cases p0 : positionsP y = 0
        · rw [if_pos p0]
          rw [p0, Int.zero_mul] at e
          exact ⟨hn, PartOk.zero N true, by rw [e]; rfl⟩
        · rw [if_neg p0]
          have hy := positionsP_le y (hr y (by simp))
          simp only [addsP_eq, List.map_cons, List.map_nil]
          have e2 : (positionsP (.mk 4 f t a b [y])).toNat = (copiesP a b).toNat * (positionsP y).toNat := by
            have : positionsP y * copiesP a b ≤ 4096 := by omega
            rw [e, Int.min_eq_left (by omega), Int.mul_comm]
            exact Int.toNat_mul hc.1 hy.1
          rw [e2] at hN ⊢
          by_cases c0 : copiesP a b = 0
          · rw [c0]
            simp only [Int.toNat_zero, iterP, backP, Nat.zero_mul, Nat.add_zero]
            exact ⟨hn, PartOk.zero N true, by simp⟩
          · have hy2 : positionsP y ≤ 4096 := by
              have h1 : positionsP y * 1 ≤ positionsP y * copiesP a b := Int.mul_le_mul_of_nonneg_left (by omega) hy.1
              omega
            have hL := ih y (by have := Ex.lt_of_mem (l := [y]) (x := y) (by simp) 4 f t a b; omega) (hr y (by simp)) hy2
            obtain ⟨i1, i2, i3, i4⟩ := iterP_lays hL n hn _ hN
            obtain ⟨b1, b2, b3⟩ := backP_ok a b _ 0 _ i2 i1.fo
            exact ⟨⟨b3.trans i1.len, i1.le, b2⟩, b1, i3⟩
      · rw [if_neg k4] at e
        have hS : positionsP (.mk k f t a b l) = positionsS l := by omega
        rw [hS, positionsS_nat l hr] at hN ⊢
        have hl : ∀ (i : Nat) (g : Nt → Nt × Part) (j : Nat), (addsP l)[i]? = some g → (l.map fun x => (positionsP x).toNat)[i]? = some j → Lays N g j := by
          intro i g j hg hj
          rw [addsP_eq, List.getElem?_map] at hg
          rw [List.getElem?_map] at hj
          cases hx : l[i]? with
          | none => rw [hx] at hg; simp at hg
          | some x =>
            rw [hx] at hg hj
            simp only [Option.map_some, Option.some.injEq] at hg hj
            subst hg hj
            have hm : x ∈ l := List.mem_of_getElem? hx
            exact ih x (by have := Ex.lt_of_mem hm k f t a b; omega) (hr x hm) (by have := positionsP_le_S l hr x hm; omega)
        split
        · exact altP_lays _ _ (by simp [addsP_eq]) hl n _ hn (PartOk.zero N false) hN
        · exact seqP_lays _ _ (by simp [addsP_eq]) hl n _ hn (PartOk.zero N true) hN
end Go.Proofs.YticipgjbgcdccaaDoor
namespace Go.Proofs.YticipgjbgcdccaaDoor
open Go.RowKit

def cellsP (sz m : Nat) : Array Value := ((List.range sz).map fun i => Value.int .u64 (swP m i : Int)).toArray
theorem cellsP_get (sz m i : Nat) : (cellsP sz m)[i]? = if i < sz then some (.int .u64 (swP m i : Int)) else none := by
  unfold cellsP
  rw [List.getElem?_toArray, List.getElem?_map]
  by_cases h : i < sz
  · rw [if_pos h, List.getElem?_range h]; rfl
  · rw [if_neg h, List.getElem?_eq_none (by simpa using h)]; rfl
/-- block g holds the set m, of sz words -/
def SetAt (w : World) (g sz m : Nat) : Prop := Blk w g 133 (cellsP sz m) ∧ m < 2 ^ (64 * sz)
namespace SetAt
variable {w w' : World} {g sz m : Nat} {S : Nat → Prop}
theorem chg (h : SetAt w g sz m) (hc : Chg S w w') (hn : ¬ S g) : SetAt w' g sz m := ⟨h.1.chg hc hn, h.2⟩
theorem cell (h : SetAt w g sz m) (i : Nat) (hi : i < sz) : w.cell? ⟨g, i, none⟩ = some (.int .u64 (swP m i : Int)) := by
  rw [h.1.cell, cellsP_get, if_pos hi]
theorem lt (h : SetAt w g sz m) : g < w.heap.size := h.1.lt
end SetAt
def mixP (sz a b i : Nat) : Array Value := ((List.range sz).map fun j => Value.int .u64 ((if j < i then swP (a ||| b) j else swP a j : Nat) : Int)).toArray
theorem mixP_get (sz a b i j : Nat) : (mixP sz a b i)[j]? = if j < sz then some (.int .u64 ((if j < i then swP (a ||| b) j else swP a j : Nat) : Int)) else none := by
  unfold mixP
  rw [List.getElem?_toArray, List.getElem?_map]
  by_cases h : j < sz
  · rw [if_pos h, List.getElem?_range h]; rfl
  · rw [if_neg h, List.getElem?_eq_none (by simpa using h)]; rfl
theorem mixP_zero (sz a b : Nat) : mixP sz a b 0 = cellsP sz a := by
  apply Array.ext_getElem?
  intro j
  rw [mixP_get, cellsP_get]; simp
theorem mixP_all (sz a b : Nat) : mixP sz a b sz = cellsP sz (a ||| b) := by
  apply Array.ext_getElem?
  intro j
  rw [mixP_get, cellsP_get]
  by_cases h : j < sz <;> simp [h]
theorem mixP_size (sz a b i : Nat) : (mixP sz a b i).size = sz := by simp [mixP]
theorem mixP_step (sz a b i : Nat) (hi : i < sz) : (mixP sz a b i).setIfInBounds i (.int .u64 ((swP a i ||| swP b i : Nat) : Int)) = mixP sz a b (i + 1) := by
  apply Array.ext_getElem?
  intro j
  rw [Array.getElem?_setIfInBounds, mixP_get, mixP_get, mixP_size, ← wordP_or]
  by_cases e : i = j
  · subst e; simp [hi]
  · have : (j < i + 1) = (j < i) := by apply propext; omega
    simp [e, this]

set_option maxHeartbeats 400000 in
set_option maxRecDepth 100000 in
theorem join_any (g h sz a b : Nat) (w : World) (hz : sz ≤ 1000) (ha : SetAt w g sz a) (hb : SetAt w h sz b) (hgh : h ≠ g) :
    Calls Tryd.prog 92 #[.slice (some ⟨g, 0, none⟩) sz sz, .slice (some ⟨h, 0, none⟩) sz sz] w
      fun e w' => (∃ v, e = .returned v) ∧ SetAt w' g sz (a ||| b) ∧ Chg (One g) w w' := by
  go_enter Tryd.func92, Tryd.ntmps92
  go_wp2_with fail
  go_loopw [8] (fun v8 wr => ∃ i : Nat, i ≤ sz ∧ v8 = .int .i64 (i : Int) ∧ Blk wr g 133 (mixP sz a b i) ∧ Chg (One g) w wr) (fun v _ => sz - (intOf v).toNat)
  case atStart => exact ⟨0, Nat.zero_le _, rfl, by rw [mixP_zero]; exact ha.1, Chg.refl _ _⟩
  case round =>
    obtain ⟨i, hi, rfl, hB, hc⟩ := hrel
    by_cases hlt : i < sz
    · have x0 := (hb.chg hc hgh).cell i hlt
      have x1 := hB.cell i
      have x2 := hB.frozen i
      rw [mixP_get, if_pos hlt, if_neg (by omega)] at x1
      have hor := bits_or_u64_nat (swP a i) (swP b i) (wordP_lt _ _) (wordP_lt _ _)
      go_wp2
      refine ⟨⟨i + 1, by omega, by go_num, ?_, ?_⟩, by simp [intOf]; omega⟩
      · rw [← mixP_step _ _ _ _ hlt]; exact hB.set_ i _
      · exact hc.setCell _ fun _ => rfl
    · obtain rfl : i = sz := by omega
      rw [mixP_all] at hB
      go_wp2
      go_end0
      exact ⟨⟨_, rfl⟩, ⟨hB, or_lt ha.2 hb.2⟩, hc⟩

theorem wordP_none {sz m : Nat} (hm : m < 2 ^ (64 * sz)) (h : ∀ i, i < sz → swP m i = 0) : m = 0 :=
  eq_of_words hm (Nat.two_pow_pos _) fun i hi => by rw [h i hi, wordP_zero]

set_option maxHeartbeats 400000 in
set_option maxRecDepth 100000 in
theorem none_any (g sz m : Nat) (w : World) (hz : sz ≤ 1000) (ha : SetAt w g sz m) :
    Calls Tryd.prog 95 #[.slice (some ⟨g, 0, none⟩) sz sz] w fun e w' => e = .returned (.bool (m == 0)) ∧ w = w' := by
  go_enter Tryd.func95, Tryd.ntmps95
  go_wp2_with fail
  go_loopw [7] (fun v7 wr => ∃ i : Nat, i ≤ sz ∧ v7 = .int .i64 (i : Int) ∧ (∀ j, j < i → swP m j = 0) ∧ w = wr) (fun v _ => sz - (intOf v).toNat)
  case atStart => exact ⟨0, Nat.zero_le _, rfl, fun j hj => by omega, by first | rfl | trivial⟩
  case round =>
    obtain ⟨i, hi, rfl, hA, rfl⟩ := hrel
    by_cases hlt : i < sz
    · have x0 := ha.cell i hlt
      by_cases q : swP m i = 0
      · have q1 : ((swP m i : Int) != 0) = false := by simp [q]
        have HA := Lib.hid hA
        have HQ := Lib.hid q
        clear hA q
        go_wp2
        refine ⟨⟨i + 1, by omega, by go_num, fun j hj => ?_, by first | rfl | trivial⟩, by simp [intOf]; omega⟩
        by_cases e : j = i
        · rw [e]; exact HQ.out
        · exact HA.out j (by omega)
      · have q1 : ((swP m i : Int) != 0) = true := by simp; omega
        have hne : (m == 0) = false := by
          rw [← Bool.not_eq_true]; intro h
          have : m = 0 := by simpa using h
          rw [this, wordP_zero] at q; exact q rfl
        clear hA
        go_wp2
        go_ret
        exact ⟨by rw [hne]; rfl, rfl⟩
    · obtain rfl : i = sz := by omega
      have hne : m = 0 := wordP_none ha.2 hA
      subst hne
      clear hA
      go_wp2
      go_ret
      exact ⟨rfl, rfl⟩

theorem nat_ne (z : Nat) : ((z : Int) != 0) = (z != 0) := by rw [Bool.eq_iff_iff]; simp
theorem wrap_pow (k : Nat) (h : k < 64) : IntKind.u64.wrap ((2 : Int) ^ k) = ((2 ^ k : Nat) : Int) := by
  have h1 : 2 ^ k < 2 ^ 64 := Nat.pow_lt_pow_right (by decide) h
  rw [IntKind.wrap_u64, show (2 : Int) ^ k = ((2 ^ k : Nat) : Int) by simp]
  generalize 2 ^ k = z at h1 ⊢
  omega
theorem cellsP_put (sz m p : Nat) (hp : p < 64 * sz) : (cellsP sz m).setIfInBounds (p / 64) (.int .u64 ((swP m (p / 64) ||| 2 ^ (p % 64) : Nat) : Int)) = cellsP sz (m ||| 2 ^ p) := by
  apply Array.ext_getElem?
  intro j
  rw [Array.getElem?_setIfInBounds, cellsP_get, cellsP_get, wordP_or, wordP_pow]
  have hs : (cellsP sz m).size = sz := by simp [cellsP]
  rw [hs]
  by_cases e : p / 64 = j
  · subst e
    rw [if_pos rfl, if_pos (by omega), if_pos (by omega), if_pos rfl]
  · have : ¬ j = p / 64 := fun h => e h.symm
    rw [if_neg e, if_neg this, Nat.or_zero]
theorem word_bit (m p : Nat) : ((swP m (p / 64) / 2 ^ (p % 64) &&& 1 : Nat) != 0) = m.testBit p := by
  have h := testBit_wordP m (p / 64) (p % 64)
  rw [decide_eq_true (by omega : p % 64 < 64), Bool.true_and, show 64 * (p / 64) + p % 64 = p by omega] at h
  rw [← h, Nat.testBit, Nat.shiftRight_eq_div_pow, Nat.and_comm]

set_option maxHeartbeats 400000 in
set_option maxRecDepth 100000 in
theorem setHas_any (g sz m p : Nat) (w : World) (hz : sz ≤ 1000) (ha : SetAt w g sz m) (hp : p < 64 * sz) :
    Calls Tryd.prog 94 #[.slice (some ⟨g, 0, none⟩) sz sz, .int .i64 (p : Int)] w fun e w' => e = .returned (.bool (m.testBit p)) ∧ w = w' := by
  have x0 := ha.cell (p / 64) (by omega)
  have hq : (p : Int).tdiv 64 = ((p / 64 : Nat) : Int) := by rw [Int.tdiv_eq_ediv_of_nonneg (by omega)]; omega
  have hm : (p : Int).tmod 64 = ((p % 64 : Nat) : Int) := by rw [Int.tmod_eq_emod_of_nonneg (by omega)]; omega
  have hlt : p / 64 < sz := by omega
  have hlt2 : p % 64 < 64 := by omega
  go_enter Tryd.func94, Tryd.ntmps94
  go_wp2_with fail
  go_ret
  refine ⟨?_, rfl⟩
  rw [← word_bit m p]
  have h1 := wordP_lt m (p / 64)
  have h2 : swP m (p / 64) / 2 ^ (p % 64) < 18446744073709551616 := Nat.lt_of_le_of_lt (Nat.div_le_self _ _) h1
  have h3 := bits_and_u64_nat (swP m (p / 64) / 2 ^ (p % 64)) 1 h2 (by omega)
  rw [Int.natCast_ediv, Int.natCast_pow] at h3
  rw [← nat_ne (swP m (p / 64) / 2 ^ (p % 64) &&& 1), ← h3]
  rfl

set_option maxHeartbeats 400000 in
set_option maxRecDepth 100000 in
theorem put_any (g sz m p : Nat) (w : World) (hz : sz ≤ 1000) (ha : SetAt w g sz m) (hp : p < 64 * sz) :
    Calls Tryd.prog 119 #[.slice (some ⟨g, 0, none⟩) sz sz, .int .i64 (p : Int)] w fun e w' => (∃ v, e = .returned v) ∧ SetAt w' g sz (m ||| 2 ^ p) ∧ Chg (One g) w w' := by
  have x0 := ha.cell (p / 64) (by omega)
  have x1 := ha.1.frozen (p / 64)
  have hq : (p : Int).tdiv 64 = ((p / 64 : Nat) : Int) := by rw [Int.tdiv_eq_ediv_of_nonneg (by omega)]; omega
  have hm : (p : Int).tmod 64 = ((p % 64 : Nat) : Int) := by rw [Int.tmod_eq_emod_of_nonneg (by omega)]; omega
  have hlt : p / 64 < sz := by omega
  have hlt2 : p % 64 < 64 := by omega
  go_enter Tryd.func119, Tryd.ntmps119
  go_wp2_with fail
  go_region
  all_goals
    go_wp2
    go_end0
    have hv : bits BinOp.or IntKind.u64 (swP m (p / 64) : Int) (IntKind.u64.wrap ((2 : Int) ^ (p % 64))) = ((swP m (p / 64) ||| 2 ^ (p % 64) : Nat) : Int) := by
      rw [wrap_pow _ hlt2]
      exact bits_or_u64_nat _ _ (wordP_lt _ _) (Nat.pow_lt_pow_right (by decide) hlt2)
    refine ⟨⟨_, rfl⟩, ⟨?_, or_lt ha.2 (pow_lt_ hp)⟩, ?_⟩
    · rw [hv, ← cellsP_put sz m p hp]; exact ha.1.set_ _ _
    · exact ((Chg.refl (One g) w).setCell (p := ⟨g, p / 64, none⟩) _ fun _ => rfl).drew

theorem info_u64 : (Tryd.prog.info? 133).map (fun i => (i.zero, i.size, i.bytes)) = some (some (.int .u64 0), 1, 8) := by kernel_rfl
theorem made_set (sz : Nat) : madeCells #[.int .u64 0] (sz * 1) = cellsP sz 0 := by
  apply Array.ext_getElem?
  intro j
  rw [cellsP_get]
  unfold madeCells
  by_cases h : j < sz
  · simp [h, wordP_zero, Nat.mod_one]
  · simp [h]
set_option maxRecDepth 100000 in
theorem make_set (w : World) (sz : Nat) (hz : sz ≤ 1000) : (Instr.makeSlice 107 (.int .i64 (sz : Int)) (.int .i64 (sz : Int))).run Tryd.prog w = .ok (.slice (some ⟨w.heap.size, 0, none⟩) sz sz) (w.alloc (.cells (cellsP sz 0) 133)) := by
  obtain ⟨i, hi, hz'⟩ := Option.map_eq_some_iff.1 info_u64
  simp only [Prod.mk.injEq] at hz'
  obtain ⟨h1, h2, h3⟩ := hz'
  have := run_makeSlice (P := Tryd.prog) w 107 133 i (.int .u64 0) rfl hi h1 .i64 .i64 (sz : Int) (sz : Int) (by omega) (by omega) (by rw [h2]; simp; omega) (by rw [h3]; omega) (by omega)
  rw [h2] at this
  simp only [Int.toNat_natCast] at this
  rw [show (Value.int IntKind.u64 0).cells = #[.int .u64 0] from rfl, made_set] at this
  exact this

set_option maxHeartbeats 400000 in
set_option maxRecDepth 100000 in
theorem set_any (G sz : Nat) (w : World) (hz : sz ≤ 1000) (hG : w.cell? ⟨G, 0, none⟩ = some (.int .i64 (sz : Int))) :
    Calls Tryd.prog 91 #[.pointer (some ⟨G, 0, none⟩)] w fun e w' => e = .returned (.slice (some ⟨w.heap.size, 0, none⟩) sz sz) ∧ SetAt w' w.heap.size sz 0 ∧ Chg No w w' := by
  have hmk := make_set w sz hz
  go_enter Tryd.func91, Tryd.ntmps91
  go_wp2
  go_ret
  exact ⟨rfl, ⟨Blk.new _ _ _, Nat.two_pow_pos _⟩, (Chg.refl _ _).alloc _⟩

/-- a result that is a part, in a variable of its own -/
theorem bodyPost_ret_part {fn : Func} {R : Ending → World → Prop} {a : Act} {w : World} {t0 : Tmp} {g : Nat} {e : Bool} {A B : Option Addr} {n c m d : Nat} (h : fn.results = #[.cell t0 109]) (hd : a.defers = [])
    (hp : a.tmps.getD t0 undef = .pointer (some ⟨g, 0, none⟩)) (hb : Blk w g 109 #[.bool e, .slice A n c, .slice B m d])
    (hR : R (.returned (.agg #[.bool e, .slice A n c, .slice B m d])) w) : bodyPost Tryd.prog fn R .ret a w := by
  have z0 := hb.cell 0
  have z1 := hb.cell 1
  have z2 := hb.cell 2
  simp only [List.getElem?_toArray, List.getElem?_cons_zero, List.getElem?_cons_succ] at z0 z1 z2
  have hp2 := hp
  simp only [Array.getD_eq_getD_getElem?] at hp2
  exact bodyPost_ret (by simp [results, h, hp, hp2, go_sem, z0, z1, z2]) hd hR

/-- a part, as a value -/
def partV (sz : Nat) (e : Bool) (f l : Nat) : Value := .agg #[.bool e, .slice (some ⟨f, 0, none⟩) sz sz, .slice (some ⟨l, 0, none⟩) sz sz]

set_option maxHeartbeats 400000 in
set_option maxRecDepth 100000 in
theorem bare_any (G sz : Nat) (e : Bool) (w : World) (hz : sz ≤ 1000) (hG : w.cell? ⟨G, 0, none⟩ = some (.int .i64 (sz : Int))) :
    Calls Tryd.prog 118 #[.pointer (some ⟨G, 0, none⟩), .bool e] w fun v w' => ∃ f l, v = .returned (partV sz e f l) ∧ w.heap.size ≤ f ∧ f < l ∧ SetAt w' f sz 0 ∧ SetAt w' l sz 0 ∧ Chg No w w' := by
  have hs := fun w1 (h : Chg No w w1) => set_any G sz w1 hz ((h.below.cell (World.block_lt_of_cell? _ _ hG)).trans hG)
  go_enter Tryd.func118, Tryd.ntmps118
  go_wp2_with fail
  refine (hs _ ((Chg.refl No w).alloc _)).mono ?_
  rintro e1 w1 ⟨rfl, hs1, hc1⟩
  go_wp2_with fail
  refine (hs _ (((Chg.refl No w).alloc _).trans hc1)).mono ?_
  rintro e2 w2 ⟨rfl, hs2, hc2⟩
  have hb2 := ((Blk.new w 109 #[.bool false, .slice none 0 0, .slice none 0 0]).chg hc1 id).chg hc2 id
  have y0 := hb2.cell 0
  have y1 := hb2.cell 1
  have y2 := hb2.cell 2
  have f0 := hb2.frozen 0
  have f1 := hb2.frozen 1
  have f2 := hb2.frozen 2
  simp only [List.getElem?_toArray, List.getElem?_cons_zero, List.getElem?_cons_succ] at y0 y1 y2
  go_wp2
  have hbz := ((hb2.set_ 0 (.bool e)).set_ 1 (.slice (some ⟨w.heap.size + 1, 0, none⟩) sz sz)).set_ 2 (.slice (some ⟨w1.heap.size, 0, none⟩) sz sz)
  have hcs : Chg (One w.heap.size) w2 (((w2.setCell ⟨w.heap.size, 0, none⟩ (.bool e)).setCell ⟨w.heap.size, 1, none⟩ (.slice (some ⟨w.heap.size + 1, 0, none⟩) sz sz)).setCell ⟨w.heap.size, 2, none⟩ (.slice (some ⟨w1.heap.size, 0, none⟩) sz sz)) :=
    ((Chg.setCell (S := One w.heap.size) (Chg.setCell (S := One w.heap.size) (Chg.setCell (S := One w.heap.size) (Chg.refl (One w.heap.size) w2) (p := ⟨w.heap.size, 0, none⟩) _ fun _ => rfl) (p := ⟨w.heap.size, 1, none⟩) _ fun _ => rfl) (p := ⟨w.heap.size, 2, none⟩) _ fun _ => rfl))
  simp only [World.size_alloc] at hs1
  have hlt := hs1.lt
  refine bodyPost_ret_part rfl rfl rfl hbz ⟨w.heap.size + 1, w1.heap.size, rfl, by omega, hlt, (hs1.chg hc2 id).chg hcs fun h => ?_, hs2.chg hcs fun h => ?_, ?_⟩
  · have : w.heap.size + 1 = w.heap.size := h; omega
  · have : w1.heap.size = w.heap.size := h; omega
  · exact (((Chg.refl No w).alloc _).trans hc1 |>.trans hc2).then_ hcs fun j hj h => by have : j = w.heap.size := h; omega
end Go.Proofs.YticipgjbgcdccaaDoor
namespace Go.Proofs.YticipgjbgcdccaaDoor
open Go.RowKit
attribute [local go_sem] Oper.semAt_some

/-- the library's table for trailing zeros, in the block of its variable -/
def Deb (w : World) : Prop := ∀ j, j < Lib.deBruijn64tab.length → w.cell? ⟨0, j, none⟩ = some (.int .u8 (Lib.deBruijn64tab.getD j 0))

theorem tz_key (x a : Nat) (hx : x < 18446744073709551616) (hx0 : x ≠ 0) (hlow : x &&& (18446744073709551616 - x) = a) :
    IntKind.u64.wrap (bits BinOp.and IntKind.u64 (x : Int) (IntKind.u64.wrap (-(x : Int))) * 285870213051353865) / 288230376151711744 = ((a * 285870213051353865 % 18446744073709551616 / 288230376151711744 : Nat) : Int) := by
  have e1 : IntKind.u64.wrap (-(x : Int)) = ((18446744073709551616 - x : Nat) : Int) := by rw [IntKind.wrap_u64]; omega
  rw [e1, bits_and_u64_nat x _ hx (by omega), hlow, IntKind.wrap_u64]
  omega

set_option maxHeartbeats 400000 in
set_option maxRecDepth 100000 in
theorem tz_core (x k idx : Nat) (w : World) (hx0 : ((x : Int) == 0) = false)
    (key : IntKind.u64.wrap (bits BinOp.and IntKind.u64 (x : Int) (IntKind.u64.wrap (-(x : Int))) * 285870213051353865) / 288230376151711744 = (idx : Int))
    (hi : idx < 64) (hcell : w.cell? ⟨0, idx, none⟩ = some (.int .u8 (k : Int))) (hk : k < 64) :
    Calls Tryd.prog 122 #[.int .u64 (x : Int)] w fun e w' => e = .returned (.int .i64 (k : Int)) ∧ w = w' := by
  go_enter Tryd.func122, Tryd.ntmps122
  go_wp2_with (simp only [key])
  go_ret
  exact ⟨rfl, rfl⟩

theorem tz_any (x : Nat) (hx : x < 18446744073709551616) (hx0 : x ≠ 0) (w : World) (hT : Deb w) :
    Calls Tryd.prog 122 #[.int .u64 (x : Int)] w fun e w' => e = .returned (.int .i64 (Lib.ctz 64 x : Int)) ∧ w = w' := by
  obtain ⟨hlow, hk⟩ := Lib.lowest_bit 64 x hx0 hx
  obtain ⟨d1, d2⟩ := Lib.deBruijn64_at _ hk
  have hcell := hT _ (Nat.lt_of_lt_of_eq d1 (by decide : 64 = Lib.deBruijn64tab.length))
  rw [d2] at hcell
  exact tz_core x _ _ w (by simp; omega) (tz_key x _ hx hx0 hlow) d1 hcell hk

/-- a member of the set m -/
abbrev Mem (m : Nat) := { p : Nat // m.testBit p = true }
/-- what has come when the first i words are over -/
def uptoP (m i : Nat) : List Nat := (List.range i).flatMap fun i => (bitsW (swP m i)).map (64 * i + ·)
theorem uptoP_succ (m i : Nat) : uptoP m (i + 1) = uptoP m i ++ (bitsW (swP m i)).map (64 * i + ·) := by
  unfold uptoP
  rw [List.range_succ, List.flatMap_append]; simp
theorem uptoP_le (m : Nat) {i sz : Nat} (h : i ≤ sz) : (uptoP m i).length ≤ (eachP sz m).length := by
  induction h with
  | refl => exact Nat.le_refl _
  | step _ ih =>
    refine Nat.le_trans ih ?_
    rw [show eachP _ m = uptoP m _ from rfl, show eachP _ m = uptoP m _ from rfl, uptoP_succ]; simp
/-- what a round over the set in block g keeps -/
def EachK (g : Nat) (W W' : World) : Prop := W'.heap[g]? = W.heap[g]? ∧ W'.heap[0]? = W.heap[0]?
theorem EachK.set {g sz m : Nat} {W W' : World} (h : EachK g W W') (hs : SetAt W g sz m) : SetAt W' g sz m := ⟨h.1.trans hs.1, hs.2⟩
theorem EachK.deb {g : Nat} {W W' : World} (h : EachK g W W') (hs : Deb W) : Deb W' := fun j hj => by
  have := hs j hj
  simpa only [World.cell?, h.2] using this
theorem and_low (k : Nat) (hk : k ≠ 0) : k &&& (k - 1) < k := by
  have := @Nat.and_le_right k (k - 1); omega
theorem bits_sub (k : Nat) (h : k < 18446744073709551616) (hk : k ≠ 0) : bits BinOp.and IntKind.u64 (k : Int) ((k : Int) - 1) = ((k &&& (k - 1) : Nat) : Int) := by
  rw [show (k : Int) - 1 = ((k - 1 : Nat) : Int) by omega]
  exact bits_and_u64_nat k (k - 1) h (by omega)

set_option maxHeartbeats 1000000 in
set_option maxRecDepth 100000 in
/-- 'each', over whatever its caller does with the members -/
theorem each_in (g sz m n l : Nat) (hz : sz ≤ 1000) (J : List (Mem m) → World → Prop) (W : World) (hsW : SetAt W g sz m) (hdW : Deb W)
    (hY : ∀ pre (x : Mem m) W1, J pre W1 → SetAt W1 g sz m → YieldAt Fence.wide n Tryd.prog l #[.int .i64 (x.1 : Int)] W1 fun e W' => e = .returned (.bool true) ∧ J (pre ++ [x]) W' ∧ EachK g W1 W')
    (h0 : J [] W) :
    CallsIn Fence.wide (n + 1) Tryd.prog 93 #[.slice (some ⟨g, 0, none⟩) sz sz, .func (.yield l) #[] #[]] W fun e W' => (∃ v, e = .returned v) ∧ ∃ xs : List (Mem m), xs.map (·.1) = eachP sz m ∧ J xs W' := by
  refine callsIn_of_wp Tryd.func93 rfl trivial ?_ rfl
  simp only [Tryd.ntmps93, List.size_toArray, List.length_cons, List.length_nil, Nat.reduceAdd, Nat.reduceSub, Array.replicate_succ, Array.replicate_zero, List.push_toArray, List.append_toArray, List.nil_append, List.cons_append]
  gi_wp2
  gi_loopw [8] (fun v8 wr => ∃ (i : Nat) (pre : List (Mem m)), i ≤ sz ∧ v8 = .int .i64 (i : Int) ∧ pre.map (·.1) = uptoP m i ∧ J pre wr ∧ SetAt wr g sz m ∧ Deb wr) (fun v _ => sz - (intOf v).toNat)
  case atStart => exact ⟨0, [], Nat.zero_le _, rfl, rfl, h0, hsW, hdW⟩
  case round =>
    obtain ⟨i, pre, hi, rfl, hp, hJ1, hs1, hd1⟩ := hrel
    by_cases hlt : i < sz
    · have x0 := hs1.cell i hlt
      gi_wp2
      gi_loopw [5] (fun v5 wr' => ∃ (k : Nat) (pre' : List (Mem m)), v5 = .int .u64 (k : Int) ∧ k < 18446744073709551616 ∧ (∀ j, k.testBit j = true → (swP m i).testBit j = true) ∧ pre'.map (·.1) ++ (bitsW k).map (64 * i + ·) = uptoP m (i + 1) ∧ J pre' wr' ∧ SetAt wr' g sz m ∧ Deb wr') (fun v _ => (intOf v).toNat)
      case atStart => exact ⟨swP m i, pre, rfl, wordP_lt _ _, fun _ h => h, by rw [uptoP_succ, hp], hJ1, hs1, hd1⟩
      case round =>
        obtain ⟨k, pre', rfl, hk, hbit, hp', hJ2, hs2, hd2⟩ := hrel
        by_cases k0 : k = 0
        · subst k0
          have hp2 : pre'.map (·.1) = uptoP m (i + 1) := by rw [← hp', bitsW_zero]; simp
          clear hbit hp' hp
          gi_wp2
          exact ⟨⟨i + 1, pre', by omega, by go_num, hp2, hJ2, hs2, hd2⟩, by simp [intOf]; omega⟩
        · have k1 : ((k : Int) != 0) = true := by simpa using k0
          obtain ⟨hst, hct⟩ := bitsW_step k k0 hk
          have htz := tz_any k hk k0 wr hd2
          obtain ⟨c, hc⟩ : ∃ c, Lib.ctz 64 k = c := ⟨_, rfl⟩
          rw [hc] at hst hct htz
          have hmem : m.testBit (64 * i + c) = true := by
            have h1 : c ∈ bitsW k := by rw [hst]; simp
            have h2 := hbit c ((mem_bitsW k c).1 h1).2
            rw [testBit_wordP, decide_eq_true hct, Bool.true_and] at h2
            exact h2
          obtain ⟨fn, tmps, assign, body, hy, hR⟩ := hY pre' ⟨64 * i + c, hmem⟩ wr hJ2 hs2
          simp only [Int.natCast_add, Int.natCast_mul, Int.cast_ofNat_Int] at hy
          have hbs := bits_sub k hk k0
          have HST := Lib.hid hst
          have HB := Lib.hid hbit
          have HP := Lib.hid hp'
          clear hst hbit hp' hp hc
          gi_wp2_with fail
          refine ⟨trivial, (callsIn_wide.2 htz).mono ?_⟩
          rintro e w2 ⟨rfl, rfl⟩
          gi_wp2_with fail
          refine hR.mono ?_
          rintro e W' ⟨rfl, hJ', hk'⟩
          gi_wp2
          have hlo := and_low k k0
          refine ⟨⟨k &&& (k - 1), pre' ++ [⟨64 * i + c, hmem⟩], rfl, by omega, ?_, ?_, hJ', hk'.set hs2, hk'.deb hd2⟩, by simp only [intOf]; omega⟩
          · intro j hj
            rw [Nat.testBit_and, Bool.and_eq_true] at hj
            exact HB.out j hj.1
          · rw [← HP.out, HST.out]; simp
    · obtain rfl : i = sz := by omega
      gi_wp2
      go_end0
      exact ⟨⟨_, rfl⟩, pre, hp, hJ1⟩

/-- how a round over the set in block b ends here: it goes on -/
def endsE {m : Nat} (b : Nat) (I : List (Mem m) → World → Prop) (xs : List (Mem m)) (W : World) : Exit → Act → World → Prop
  | .normal, _, W' => KeepsOthers W W' ∧ EachK b W W' ∧ I xs W'
  | _, _, _ => False

theorem EachK.put {b : Nat} {W W' : World} {l : Nat} {o : Obj} (h : EachK b W W') (h1 : l ≠ b) (h2 : l ≠ 0) : EachK b W (W'.putObj l o) :=
  ⟨(World.putObj_heap_other h1.symm).trans h.1, (World.putObj_heap_other h2.symm).trans h.2⟩

/-- 'for p := range s.each { .. }', where no round leaves -/
theorem each_law {g : Operand} {ps : Array Tmp} {assign body : Code} {Q : Exit → Act → World → Prop} {a : Act} {w : World} {b sz m n : Nat} (hz : sz ≤ 1000)
    (hg : a.eval g = .func (.func 93) #[.slice (some ⟨b, 0, none⟩) sz sz] #[]) (hs : SetAt w b sz m) (hd : Deb w) (hgl : 0 < w.heap.size) (hps : ps.size = 1)
    (I : List (Mem m) → World → Prop) (hI : OwnFrom w.heap.size I) (h0 : I [] w) (a₁ : Mem m → Act)
    (hassign : ∀ (l : Nat) (x : Mem m) (W : World) (K : Act → World → Prop), K (a₁ x) W →
      assign.wpIn (Fence.wide.inRound l) n Tryd.prog (Exit.then K (fun _ _ _ => False)) { tmps := (ps.zip #[.int .i64 (x.1 : Int)]).foldl (fun t (p, v) => t.setIfInBounds p v) a.tmps, defers := [] } W)
    (hbody : ∀ (l : Nat) (pre : List (Mem m)) (x : Mem m) (W : World), I pre W → SetAt W b sz m → body.wpIn (Fence.wide.inRound l) n Tryd.prog (endsE b I (pre ++ [x]) W) (a₁ x) W)
    (hdone : ∀ (D : Nat) (xs : List (Mem m)) (W : World), w.heap.size ≤ D → xs.map (·.1) = eachP sz m → I xs W → W.heap[D]? = some (.deferred (some [])) →
      Q .normal { a with defers := { target := .collected D, args := #[] } :: a.defers } W) :
    (Code.rangeFunc g ps assign body).wpIn Fence.wide (n + 2) Tryd.prog Q a w := by
  refine wpIn_rangeFunc fun fn _ => ?_
  -- the loop's record, by its state
  let rec_ : LoopState → Loop := fun st => { state := st, pending := none, fn, tmps := a.tmps, params := ps, assign, body, defers := w.heap.size }
  let W1 := (w.alloc (.deferred (some []))).alloc (.loop (rec_ .ready))
  have c1 : Chg No w W1 := ((Chg.refl No w).alloc _).alloc _
  have hl1 : W1.heap[w.heap.size + 1]? = some (.loop (rec_ .ready)) := by
    have := World.alloc_heap_new (w.alloc (.deferred (some []))) (.loop (rec_ .ready)); rwa [World.size_alloc] at this
  have hk1 : W1.heap[w.heap.size]? = some (.deferred (some [])) := (Below.heap_alloc _ _ _ (by simp)).trans (World.alloc_heap_new w _)
  have hblt := hs.lt
  have nb : w.heap.size + 1 ≠ b := by omega
  have ng : w.heap.size + 1 ≠ 0 := by omega
  have hdW : Deb W1 := fun j hj => by
    have := hd j hj
    simpa only [World.cell?, c1.block _ hgl id] using this
  refine ⟨w.heap.size + 1, [{ target := .collected w.heap.size, args := #[] }], W1, { target := .fn (.func 93) #[], args := #[.slice (some ⟨b, 0, none⟩) sz sz, .func (.yield (w.heap.size + 1)) #[] #[]] }, W1, 93,
    #[.slice (some ⟨b, 0, none⟩) sz sz, .func (.yield (w.heap.size + 1)) #[] #[]], W1, run_enterLoop_outer _ _ _ _ _, ?_, fun _ _ => trivial, ?_, fun h => by simp [Fence.wide] at h, ?_⟩
  · simp only [resolve, hg]
    simp [go_sem]
  · have he := enters_of (P := Tryd.prog) Tryd.func93 (by kernel_rfl) rfl
    simp [invoke, go_sem, he]
  · refine (each_in b sz m n (w.heap.size + 1) hz (fun pre W => I pre W ∧ W.heap[w.heap.size + 1]? = some (.loop (rec_ .ready)) ∧ W.heap[w.heap.size]? = some (.deferred (some []))) W1
      (hs.chg c1 id) hdW ?_ ⟨hI.alloc _ (hI.alloc _ h0), hl1, hk1⟩).mono ?_
    · rintro pre x W ⟨hi, hl, hk⟩ hsW
      have hlt : w.heap.size + 1 < W.heap.size := (Array.getElem?_eq_some_iff.1 hl).1
      refine ⟨_, _, _, _, run_yield (P := Tryd.prog) (args := #[.int .i64 (x.1 : Int)]) hl hps.symm, roundIn_of_wpIn trivial (hassign _ x W _ ⟨_, run_beginRound hl rfl, ?_⟩)⟩
      have hl2 : (W.putObj (w.heap.size + 1) (.loop (rec_ .busy))).heap[w.heap.size + 1]? = some (.loop (rec_ .busy)) := World.putObj_heap_same hlt
      have hk2 : (W.putObj (w.heap.size + 1) (.loop (rec_ .busy))).heap[w.heap.size]? = some (.deferred (some [])) := (World.putObj_heap_other (by omega)).trans hk
      have hE2 : EachK b W (W.putObj (w.heap.size + 1) (.loop (rec_ .busy))) := EachK.put ⟨rfl, rfl⟩ nb ng
      refine wpIn_mono (hbody _ pre x _ (hI.putObj _ hi (by omega) hl rfl) (hE2.set hsW)) ?_
      intro e a3 W3 hp
      cases e with
      | normal =>
        obtain ⟨k1, k2, k3⟩ := hp
        have hl3 := k1.same _ _ hl2 rfl
        have hk3 := k1.same _ _ hk2 rfl
        refine ⟨_, _, run_endRound none hl3, rfl, ⟨hI.putObj _ k3 (by omega) hl3 rfl, World.putObj_heap_same (Array.getElem?_eq_some_iff.1 hl3).1, (World.putObj_heap_other (by omega)).trans hk3⟩, ?_⟩
        exact EachK.put ⟨k2.1.trans hE2.1, k2.2.trans hE2.2⟩ nb ng
      | _ => exact hp.elim
    · rintro e W2 ⟨⟨v, rfl⟩, xs, hx, hi, hl, hk⟩
      exact ⟨none, _, run_endLoop hl (by simp [rec_]), hdone _ xs _ (Nat.le_refl _) hx (hI.putObj _ hi (by omega) hl rfl) ((World.putObj_heap_other (by omega)).trans hk)⟩
end Go.Proofs.YticipgjbgcdccaaDoor
namespace Go.Proofs.YticipgjbgcdccaaDoor
open Go.RowKit

theorem rows_round {P : Program} {r k : Nat} {row : String} {args : Array Value} {w : World} {R : Value → World → Prop} (h : Rows P row args w R) : RowsIn (Fence.wide.inRound r) k P row args w R :=
  fun c cs _ => let ⟨v, w', h1, h2⟩ := h c cs; ⟨v, w', h1, stepsIn_wide.2 h2⟩
theorem upon_round {P : Program} {o : Oper} {a : Act} {K K' : Act → World → Prop} {Q : Exit → Act → World → Prop} {r k : Nat} (hK : ∀ a w, K a w → K' a w) : ∀ res : Result Next, o.upon P a K Q res → o.uponIn (Fence.wide.inRound r) k P a K' Q res := by
  intro res h
  cases res with
  | ok x w' =>
    cases x <;> simp only [Oper.upon, Oper.uponIn] at h ⊢
    case enter f args =>
      refine ⟨fun h => by simp [Fence.wide] at h, ((callsIn_wide (n := k - 1)).2 h).inRound r |>.mono ?_⟩
      intro e w2 he
      cases e <;> first | exact hK _ _ he | exact he
    case row row args => exact ⟨fun h => by simp [Fence.wide] at h, rows_round (h.mono fun _ _ q => hK _ _ q)⟩
    all_goals exact hK _ _ h
  | halt x w' =>
    cases x <;> simp only [Oper.upon, Oper.uponIn] at h ⊢ <;> exact h
def noDefer (o : Oper) : Bool := match o.op with | .defer _ => false | _ => true
theorem op_round {P : Program} {ops : Array Oper} {Q : Exit → Act → World → Prop} {i r k : Nat} {K K' : Act → World → Prop} {a : Act} {w : World} (hK : ∀ a w, K a w → K' a w) (hnd : ops.all noDefer = true) (hQ : ¬ LetsOut Q)
    (h : wpOp P ops Q i K a w) : wpOpIn (Fence.wide.inRound r) k P ops Q i K' a w := by
  unfold wpOp at h
  unfold wpOpIn
  cases ho : ops[i]? with
  | none => rw [ho] at h; exact hK _ _ h
  | some o =>
    rw [ho] at h
    simp only at h ⊢
    split
    · rename_i hw
      rw [if_pos hw] at h
      rcases h with h | ⟨_, h⟩
      · refine ⟨fun _ _ => trivial, ?_⟩
        have hmem : o ∈ ops := Array.mem_of_getElem? ho
        have hd : noDefer o = true := by
          rw [Array.all_eq_true_iff_forall_mem] at hnd; exact hnd o hmem
        rw [Oper.semAt_eq _ _ _ (by intro c hc; unfold noDefer at hd; rw [hc] at hd; cases hd)]
        exact upon_round hK _ h
      · exact absurd h hQ
    · rename_i hw
      rw [if_neg hw] at h
      exact ⟨fun _ _ => trivial, hK _ _ h⟩
theorem any_round {P : Program} {ops : Array Oper} {Q : Exit → Act → World → Prop} {md : Region.Mode} {r k : Nat} (hnd : ops.all noDefer = true) (hQ : ¬ LetsOut Q) : ∀ (fuel : Nat) (listed : Array Bool) (a : Act) (w : World),
    wpAny P md ops Q fuel listed a w → wpAnyIn (Fence.wide.inRound r) k P md ops Q fuel listed a w
  | 0, _, _, _, h => h
  | fuel + 1, listed, a, w, h => ⟨h.1, fun i hi => op_round (fun a' w' h' => any_round hnd hQ fuel _ a' w' h') hnd hQ (h.2 i hi)⟩
/-- the head yields what it yields in any order; then the tail, one by one -/
theorem region_round {P : Program} {id r k : Nat} {Q : Exit → Act → World → Prop} {a : Act} {w : World} {l : List Oper} (n : Nat) (hm : P.follows .mixedOrders = true) (hB : Region.lexTailB .any l.toArray n = true) (hnd : l.toArray.all noDefer = true) (hQ : ¬ LetsOut Q)
    (h : wpStill P l.toArray { w with drawn := w.drawn + 1 } (fun a' => wpList P l.toArray Q (l.drop n) a' { w with drawn := w.drawn + 1 }) (l.take n) a) : (Code.region id l.toArray true).wpIn (Fence.wide.inRound r) k P Q a w := by
  refine wpIn_region_any hm (any_round hnd hQ _ _ _ _ ?_)
  simp only [Region.lexTailB, Bool.and_eq_true, decide_eq_true_eq] at hB
  obtain ⟨⟨⟨⟨b1, b2⟩, b3⟩, b4⟩, b5⟩ := hB
  have h2 : n < l.length := by simpa using b2
  have t1 : (l.take n).length = n := by simp; omega
  have t2 : (l.drop n).length = l.toArray.size - n := by simp
  have hf : ∀ i, ((Array.replicate l.toArray.size false).getD i false) = false := fun i => by
    rw [Array.getD_eq_getD_getElem?, Array.getElem?_replicate]; split <;> rfl
  have inv : HeadInv .any l.toArray n (Array.replicate l.toArray.size false) :=
    ⟨by simp, fun j oj _ hl => (by rw [getD_replicate_false] at hl; cases hl), fun t _ ht => getD_in (by simpa using ht) (getD_replicate_false _ _)⟩
  have hhead := wpAnyL_lex (md := .any) (g := l.toArray.size - n) b1 b3 b4 b2 (l.take n) 0 _ a (fun j hj => by
    rw [t1] at hj; simp [hj]) (by simpa using t1) inv (by rw [t1]; exact b5) h
  have htail := wpAny_of_head (Q' := Q) (g := l.toArray.size - n) (fun listed a' hL => by
    have := wpAny_of_seq (md := .any) (Q' := Q) (l.drop n) n listed a' { w with drawn := w.drawn + 1 } (fun j => by simp [List.getElem?_drop]) (by rw [t2]; exact hL.1) hL.2
    rwa [t2] at this) _ _ _ hhead
  rw [t1, show n + (l.toArray.size - n) = l.toArray.size by omega] at htail
  exact htail
end Go.Proofs.YticipgjbgcdccaaDoor
namespace Go.Proofs.YticipgjbgcdccaaDoor
open Go.RowKit
attribute [local go_sem] Oper.semAt_some

def setV (sz g : Nat) : Value := .slice (some ⟨g, 0, none⟩) sz sz
def tkCells (l : List (Int × Int)) : List Value := l.flatMap fun x => [.int .i64 x.1, .int .i64 x.2]
/-- the net in block G: of sets of sz words; vt, vf: its slices; fb: the blocks of the sets that may follow -/
structure NetAt (w : World) (base G sz : Nat) (n : Nt) (vt vf v3 v4 v5 : Value) (fb : List Nat) : Prop where
  blk : Blk w G 111 #[.int .i64 (sz : Int), vt, vf, v3, v4, v5]
  tk : w.ownsRow base 116 2 vt n.tk.length (tkCells n.tk)
  fo : w.ownsRow base 107 1 vf n.fo.length (fb.map (setV sz))
  len : fb.length = n.fo.length
  nodup : fb.Nodup
  sets : ∀ (p g m : Nat), fb[p]? = some g → n.fo[p]? = some m → SetAt w g sz m
  old : base ≤ G ∧ ∀ g ∈ fb, base ≤ g
/-- a part's sets -/
structure PartAt (w : World) (sz f l : Nat) (fb : List Nat) (p : Part) : Prop where
  F : SetAt w f sz p.F
  L : SetAt w l sz p.L
  nF : f ∉ fb
  nL : l ∉ fb
def In (fb : List Nat) (k : Nat) : Prop := k ∈ fb
theorem NetAt.fb_lt {w : World} {base G sz : Nat} {n : Nt} {vt vf v3 v4 v5 : Value} {fb : List Nat} (h : NetAt w base G sz n vt vf v3 v4 v5 fb) : ∀ g ∈ fb, g < w.heap.size := by
  intro g hg
  obtain ⟨p, hp, rfl⟩ := List.getElem_of_mem hg
  exact (h.sets p _ _ (List.getElem?_eq_getElem hp) (List.getElem?_eq_getElem (by rw [← h.len]; exact hp))).lt
theorem NetAt.fb_set {w : World} {base G sz : Nat} {n : Nt} {vt vf v3 v4 v5 : Value} {fb : List Nat} (h : NetAt w base G sz n vt vf v3 v4 v5 fb) {g : Nat} (hg : g ∈ fb) : ∃ cs, Blk w g 133 cs := by
  obtain ⟨p, hp, rfl⟩ := List.getElem_of_mem hg
  exact ⟨_, (h.sets p _ _ (List.getElem?_eq_getElem hp) (List.getElem?_eq_getElem (by rw [← h.len]; exact hp))).1⟩
/-- a block of another type is none of the sets -/
theorem NetAt.not_fb {w : World} {base G sz : Nat} {n : Nt} {vt vf v3 v4 v5 : Value} {fb : List Nat} (h : NetAt w base G sz n vt vf v3 v4 v5 fb) {g : Nat} {t : TypeId} {cs : Array Value} (hb : Blk w g t cs) (ht : t ≠ 133) : g ∉ fb := by
  intro hg
  obtain ⟨cs', h'⟩ := h.fb_set hg
  exact hb.ne_ h' ht rfl
/-- the cell of a row that is owned -/
theorem ownsRow_cell {w : World} {base : Nat} {e : TypeId} {size n : Nat} {v : Value} {xs : List Value} (h : w.ownsRow base e size v n xs) (hne : xs ≠ []) : ∃ g cap cur, v = .slice (some ⟨g, 0, none⟩) n cap ∧ n ≤ cap ∧ base ≤ g ∧ Blk w g e cur ∧ ∀ (j : Nat) u, xs[j]? = some u → w.cell? ⟨g, j, none⟩ = some u := by
  obtain ⟨h1, h2⟩ := h
  rcases h2 with ⟨rfl, h0⟩ | ⟨g, cap, cur, rfl, hb, hh, h4, h5, h6, h7⟩
  · subst h0
    simp at h1
    exact absurd h1 hne
  · refine ⟨g, cap, cur, rfl, ?_, hb, hh, fun j u hu => ?_⟩
    · exact h4
    · rw [cell_of_row w g j cur _ _ hh]
      rw [← h7, List.getElem?_take] at hu
      split at hu
      · simpa using hu
      · cases hu

/-- what holds between two rounds of cat's loop -/
def CatI (w0 : World) (sz bF : Nat) (fb fo : List Nat) {m : Nat} (pre : List (Mem m)) (W : World) : Prop :=
  Chg (In fb) w0 W ∧ ∀ (p g k : Nat), fb[p]? = some g → (linkL bF (pre.map (·.1)) fo)[p]? = some k → SetAt W g sz k
theorem CatI.own (w0 : World) (sz bF : Nat) (fb fo : List Nat) (m : Nat) : OwnFrom w0.heap.size (CatI w0 sz bF fb fo (m := m)) := by
  intro s W W' row hs hg hr
  have hc : Chg (fun k => row = some k) W W' := Chg.of_grown hg fun k e _ => e
  refine ⟨hs.1.then_ hc fun i hi e => by have := (hr i e).1; omega, fun p g k hp hk => ?_⟩
  refine (hs.2 p g k hp hk).chg hc fun e => ?_
  obtain ⟨_, o, ho, hn⟩ := hr g e
  have := (hs.2 p g k hp hk).1
  unfold Blk at this
  rw [ho] at this
  injection this with this
  subst this
  simp [Obj.isCells] at hn
theorem keeps_of_chg {w w' : World} {S : Nat → Prop} (h : Chg S w w') (hS : ∀ k o, S k → w.heap[k]? = some o → o.isCells = true) : KeepsOthers w w' := by
  refine ⟨h.size, fun k o ho hn => h.heap ho fun hk => ?_⟩
  rw [hS k o hk ho] at hn
  cases hn
theorem blk_cells {w : World} {g : Nat} {t : TypeId} {cs : Array Value} (h : Blk w g t cs) (o : Obj) (ho : w.heap[g]? = some o) : o.isCells = true := by
  unfold Blk at h
  rw [h] at ho
  injection ho with ho
  subst ho
  rfl

theorem Chg.putObj {S : Nat → Prop} {w w' : World} (h : Chg S w w') {D : Nat} (o : Obj) (hD : D < w.heap.size → S D) : Chg S w (w'.putObj D o) :=
  ⟨h.os, h.tape, h.output, by simpa using h.size, fun i hi hn => (World.putObj_heap_other (by rintro rfl; exact hn (hD hi))).trans (h.block i hi hn)⟩
theorem Blk.putObj {w : World} {g : Nat} {t : TypeId} {cs : Array Value} (h : Blk w g t cs) {D : Nat} (o : Obj) (hD : g ≠ D) : Blk (w.putObj D o) g t cs := (World.putObj_heap_other hD).trans h
theorem Blk.not_deferred {w : World} {g : Nat} {t : TypeId} {cs : Array Value} (h : Blk w g t cs) {D : Nat} {ds : Option (List Deferred)} (hD : w.heap[D]? = some (.deferred ds)) : g ≠ D := by
  rintro rfl
  unfold Blk at h
  rw [h] at hD
  cases hD
/-- the function returns a part, in a variable of its own, behind one loop over a function -/
theorem leaves_part {fn : Func} {R : Ending → World → Prop} {tmps : Array Value} {w : World} {t0 : Tmp} {k D g : Nat} {e : Bool} {A B : Option Addr} {n c m d : Nat} (h : fn.results = #[.cell t0 109])
    (hp : tmps.getD t0 undef = .pointer (some ⟨g, 0, none⟩)) (hD : w.heap[D]? = some (.deferred (some []))) (hb : Blk w g 109 #[.bool e, .slice A n c, .slice B m d])
    (hR : R (.returned (.agg #[.bool e, .slice A n c, .slice B m d])) (w.putObj D (.deferred none))) :
    LeavesInM Fence.wide k Tryd.prog fn tmps R [{ target := .collected D, args := #[] }] .returning w := by
  refine ⟨by simp, .inl ⟨_, _, rfl, run_takeDeferred hD, ?_⟩⟩
  have hb' := hb.putObj (.deferred none) (hb.not_deferred hD)
  have z0 := hb'.cell 0
  have z1 := hb'.cell 1
  have z2 := hb'.cell 2
  simp only [List.getElem?_toArray, List.getElem?_cons_zero, List.getElem?_cons_succ] at z0 z1 z2
  have hp2 := hp
  simp only [Array.getD_eq_getD_getElem?] at hp2
  exact ⟨_, by simp [results, h, hp, hp2, go_sem, z0, z1, z2], hR⟩

/-- behind 'bare': its two sets grow -/
def CatS (w3 : World) (sz f l F L : Nat) (w' : World) : Prop := Chg (fun k => k = f ∨ k = l) w3 w' ∧ SetAt w' f sz F ∧ SetAt w' l sz L
theorem CatS.joinF {w3 w' : World} {sz f l F L x m : Nat} (h : CatS w3 sz f l F L w') (hz : sz ≤ 1000) (hfl : f ≠ l) (hx : SetAt w3 x sz m) (n1 : x ≠ f) (n2 : x ≠ l) :
    Calls Tryd.prog 92 #[.slice (some ⟨f, 0, none⟩) sz sz, .slice (some ⟨x, 0, none⟩) sz sz] w' fun e w2 => (∃ v, e = .returned v) ∧ CatS w3 sz f l (F ||| m) L w2 := by
  refine (join_any f x sz F m w' hz h.2.1 (hx.chg h.1 fun e => e.elim n1 n2) n1).mono ?_
  rintro e w2 ⟨hv, h1, h2⟩
  exact ⟨hv, h.1.then_ h2 fun i _ e => .inl e, h1, h.2.2.chg h2 fun e => hfl e.symm⟩
theorem CatS.joinL {w3 w' : World} {sz f l F L x m : Nat} (h : CatS w3 sz f l F L w') (hz : sz ≤ 1000) (hfl : f ≠ l) (hx : SetAt w3 x sz m) (n1 : x ≠ f) (n2 : x ≠ l) :
    Calls Tryd.prog 92 #[.slice (some ⟨l, 0, none⟩) sz sz, .slice (some ⟨x, 0, none⟩) sz sz] w' fun e w2 => (∃ v, e = .returned v) ∧ CatS w3 sz f l F (L ||| m) w2 := by
  refine (join_any l x sz L m w' hz h.2.2 (hx.chg h.1 fun e => e.elim n1 n2) n2).mono ?_
  rintro e w2 ⟨hv, h1, h2⟩
  exact ⟨hv, h.1.then_ h2 fun i _ e => .inr e, h.2.1.chg h2 fun e => hfl e, h1⟩
theorem CatS.part {w3 w' : World} {sz f l F L g m0 m1 : Nat} {cs : Array Value} (h : CatS w3 sz f l F L w') (hf : SetAt w3 f sz m0) (hl : SetAt w3 l sz m1) (hb : Blk w3 g 109 cs) : Blk w' g 109 cs :=
  hb.chg h.1 fun e => e.elim (hb.ne_ hf.1 (by decide)) (hb.ne_ hl.1 (by decide))
/-- the cells of a part's variable, as the walk asks for them -/
theorem part_cells {w : World} {g : Nat} {x y z : Value} (h : Blk w g 109 #[x, y, z]) : w.cell? ⟨g, 0, none⟩ = some x ∧ w.cell? ⟨g, 1, none⟩ = some y ∧ w.cell? ⟨g, 2, none⟩ = some z ∧ w.frozen? ⟨g, 0, none⟩ = false ∧ w.frozen? ⟨g, 1, none⟩ = false ∧ w.frozen? ⟨g, 2, none⟩ = false :=
  ⟨h.cell 0, h.cell 1, h.cell 2, h.frozen 0, h.frozen 1, h.frozen 2⟩

theorem ownsRow_chg {S : Nat → Prop} {w w' : World} {base : Nat} {e : TypeId} {size n : Nat} {v : Value} {xs : List Value} (h : w.ownsRow base e size v n xs) (hc : Chg S w w') (hS : ∀ k cs, v.ownBlock = some k → Blk w k e cs → ¬ S k) : w'.ownsRow base e size v n xs := by
  obtain ⟨h1, h2⟩ := h
  refine ⟨h1, ?_⟩
  rcases h2 with h2 | ⟨g, cap, cur, rfl, hb, hh, hr⟩
  · exact .inl h2
  · exact .inr ⟨g, cap, cur, rfl, hb, hc.heap hh (hS g cur rfl hh), hr⟩
theorem NetAt.chg {w w' : World} {base G sz : Nat} {n : Nt} {vt vf v3 v4 v5 : Value} {fb : List Nat} (h : NetAt w base G sz n vt vf v3 v4 v5 fb) (hc : Chg (In fb) w w') (fo' : List Nat) (hl : fo'.length = n.fo.length)
    (hs : ∀ (p g m : Nat), fb[p]? = some g → fo'[p]? = some m → SetAt w' g sz m) : NetAt w' base G sz ⟨n.tk, fo'⟩ vt vf v3 v4 v5 fb where
  blk := h.blk.chg hc (h.not_fb h.blk (by decide))
  tk := ownsRow_chg h.tk hc fun k cs _ hb => h.not_fb hb (by decide)
  fo := by
    show w'.ownsRow base 107 1 vf fo'.length _
    rw [hl]
    exact ownsRow_chg h.fo hc fun k cs _ hb => h.not_fb hb (by decide)
  len := h.len.trans hl.symm
  nodup := h.nodup
  sets := hs
  old := h.old

/-- the end of cat: its result is stored, the loop's block for deferred calls is shut -/
theorem cat_close {w W w3 w5 : World} {base G sz D R : Nat} {n : Nt} {vt vf v3 v4 v5 : Value} {fb fo' : List Nat} {f l F L m0 m1 : Nat} {cs : Array Value} {x y z : Value} (hn : NetAt w base G sz n vt vf v3 v4 v5 fb) (hl : fo'.length = n.fo.length)
    (h1 : Chg (In fb) w W) (h2 : ∀ (p g m : Nat), fb[p]? = some g → fo'[p]? = some m → SetAt W g sz m) (h3 : Chg No W w3) (hS : CatS w3 sz f l F L w5) (hf3 : SetAt w3 f sz m0) (hl3 : SetAt w3 l sz m1) (hf : W.heap.size ≤ f) (hfl : W.heap.size ≤ l)
    (hR : w.heap.size ≤ R) (hbR : Blk W R 109 cs) (hD : w.heap.size ≤ D) (hDW : W.heap[D]? = some (.deferred (some []))) :
    let wz := ((w5.setCell ⟨R, 0, none⟩ x).setCell ⟨R, 1, none⟩ y).setCell ⟨R, 2, none⟩ z
    wz.heap[D]? = some (.deferred (some [])) ∧ SetAt (wz.putObj D (.deferred none)) f sz F ∧ SetAt (wz.putObj D (.deferred none)) l sz L ∧ NetAt (wz.putObj D (.deferred none)) base G sz ⟨n.tk, fo'⟩ vt vf v3 v4 v5 fb ∧ Chg (In fb) w (wz.putObj D (.deferred none)) := by
  intro wz
  have hRW := hbR.lt
  have hDlt : D < W.heap.size := by
    rcases Nat.lt_or_ge D W.heap.size with q | q
    · exact q
    · rw [Array.getElem?_eq_none q] at hDW; cases hDW
  have hRD : R ≠ D := hbR.not_deferred hDW
  have k5 : Chg (fun k => k = f ∨ k = l) W w5 := (h3.mono fun _ _ e => e.elim).then_ hS.1 fun i hi e => e
  have kz : Chg (One R) w5 wz := Chg.setCell (S := One R) (Chg.setCell (S := One R) (Chg.setCell (S := One R) (Chg.refl (One R) w5) (p := ⟨R, 0, none⟩) _ fun _ => rfl) (p := ⟨R, 1, none⟩) _ fun _ => rfl) (p := ⟨R, 2, none⟩) _ fun _ => rfl
  have kp : Chg (fun k => k = R ∨ k = D) w5 (wz.putObj D (.deferred none)) := Chg.putObj (kz.mono fun k _ e => .inl e) _ fun _ => .inr rfl
  have kW : Chg (fun k => w.heap.size ≤ k) W (wz.putObj D (.deferred none)) := (k5.mono fun k _ e => by have := h1.size; omega).then_ kp fun i _ e => by omega
  have kw : Chg (In fb) w (wz.putObj D (.deferred none)) := h1.then_ kW fun i hi e => by omega
  refine ⟨?_, hS.2.1.chg kp fun e => by omega, hS.2.2.chg kp fun e => by omega, hn.chg kw fo' hl fun p g m hp hm => ?_, kw⟩
  · refine (kz.block D (by have := k5.size; omega) fun e => hRD e.symm).trans ((k5.block D hDlt fun e => ?_).trans hDW)
    omega
  · refine (h2 p g m hp hm).chg kW fun e => ?_
    have := hn.fb_lt g (List.mem_of_getElem? hp)
    omega

set_option maxHeartbeats 1000000 in
set_option maxRecDepth 100000 in
theorem cat_any (base G sz : Nat) (n : Nt) (vt vf v3 v4 v5 : Value) (fb : List Nat) (w : World) (a b : Part) (fa la fb' lb : Nat) (hz : sz ≤ 1000) (hn : NetAt w base G sz n vt vf v3 v4 v5 fb)
    (ha : PartAt w sz fa la fb a) (hb : PartAt w sz fb' lb fb b) (hd : Deb w) (hgl : 0 < base) (hok : ∀ p, a.L.testBit p = true → p < n.fo.length) :
    Calls Tryd.prog 121 #[.pointer (some ⟨G, 0, none⟩), partV sz a.e fa la, partV sz b.e fb' lb] w
      fun e w' => ∃ f l, e = .returned (partV sz (outP a b).e f l) ∧ w.heap.size ≤ f ∧ w.heap.size ≤ l ∧ f ≠ l ∧ SetAt w' f sz (outP a b).F ∧ SetAt w' l sz (outP a b).L ∧
        NetAt w' base G sz ⟨n.tk, linkP a.L b.F 0 n.fo⟩ vt vf v3 v4 v5 fb ∧ Chg (In fb) w w' := by
  refine (callsIn_wide (n := 6)).1 ?_
  refine callsIn_of_wp_marks Tryd.func121 rfl trivial ?_ rfl
  simp only [partV, Tryd.ntmps121, List.size_toArray, List.length_cons, List.length_nil, Nat.reduceAdd, Nat.reduceSub, Array.replicate_succ, Array.replicate_zero, List.push_toArray, List.append_toArray, List.nil_append, List.cons_append]
  gi_wp2
  have c0 : Chg No w ((((w.alloc (.cells #[.pointer (some ⟨G, 0, none⟩)] 83)).alloc (.cells #[.bool a.e, .slice (some ⟨fa, 0, none⟩) sz sz, .slice (some ⟨la, 0, none⟩) sz sz] 109)).alloc (.cells #[.bool b.e, .slice (some ⟨fb', 0, none⟩) sz sz, .slice (some ⟨lb, 0, none⟩) sz sz] 109)).alloc (.cells #[.bool false, .slice none 0 0, .slice none 0 0] 109)) :=
    ((((Chg.refl No w).alloc _).alloc _).alloc _).alloc _
  have bn : Blk ((((w.alloc (.cells #[.pointer (some ⟨G, 0, none⟩)] 83)).alloc (.cells #[.bool a.e, .slice (some ⟨fa, 0, none⟩) sz sz, .slice (some ⟨la, 0, none⟩) sz sz] 109)).alloc (.cells #[.bool b.e, .slice (some ⟨fb', 0, none⟩) sz sz, .slice (some ⟨lb, 0, none⟩) sz sz] 109)).alloc (.cells #[.bool false, .slice none 0 0, .slice none 0 0] 109)) w.heap.size 83 #[.pointer (some ⟨G, 0, none⟩)] :=
    (((Blk.new' rfl).alloc _).alloc _).alloc _
  have ba : Blk ((((w.alloc (.cells #[.pointer (some ⟨G, 0, none⟩)] 83)).alloc (.cells #[.bool a.e, .slice (some ⟨fa, 0, none⟩) sz sz, .slice (some ⟨la, 0, none⟩) sz sz] 109)).alloc (.cells #[.bool b.e, .slice (some ⟨fb', 0, none⟩) sz sz, .slice (some ⟨lb, 0, none⟩) sz sz] 109)).alloc (.cells #[.bool false, .slice none 0 0, .slice none 0 0] 109)) (w.heap.size + 1) 109 #[.bool a.e, .slice (some ⟨fa, 0, none⟩) sz sz, .slice (some ⟨la, 0, none⟩) sz sz] :=
    ((Blk.new' (by simp)).alloc _).alloc _
  have bb : Blk ((((w.alloc (.cells #[.pointer (some ⟨G, 0, none⟩)] 83)).alloc (.cells #[.bool a.e, .slice (some ⟨fa, 0, none⟩) sz sz, .slice (some ⟨la, 0, none⟩) sz sz] 109)).alloc (.cells #[.bool b.e, .slice (some ⟨fb', 0, none⟩) sz sz, .slice (some ⟨lb, 0, none⟩) sz sz] 109)).alloc (.cells #[.bool false, .slice none 0 0, .slice none 0 0] 109)) (w.heap.size + 2) 109 #[.bool b.e, .slice (some ⟨fb', 0, none⟩) sz sz, .slice (some ⟨lb, 0, none⟩) sz sz] :=
    (Blk.new' (by simp)).alloc _
  have br : Blk ((((w.alloc (.cells #[.pointer (some ⟨G, 0, none⟩)] 83)).alloc (.cells #[.bool a.e, .slice (some ⟨fa, 0, none⟩) sz sz, .slice (some ⟨la, 0, none⟩) sz sz] 109)).alloc (.cells #[.bool b.e, .slice (some ⟨fb', 0, none⟩) sz sz, .slice (some ⟨lb, 0, none⟩) sz sz] 109)).alloc (.cells #[.bool false, .slice none 0 0, .slice none 0 0] 109)) (w.heap.size + 3) 109 #[.bool false, .slice none 0 0, .slice none 0 0] :=
    Blk.new' (by simp)
  have hz0 : ((((w.alloc (.cells #[.pointer (some ⟨G, 0, none⟩)] 83)).alloc (.cells #[.bool a.e, .slice (some ⟨fa, 0, none⟩) sz sz, .slice (some ⟨la, 0, none⟩) sz sz] 109)).alloc (.cells #[.bool b.e, .slice (some ⟨fb', 0, none⟩) sz sz, .slice (some ⟨lb, 0, none⟩) sz sz] 109)).alloc (.cells #[.bool false, .slice none 0 0, .slice none 0 0] 109)).heap.size = w.heap.size + 4 := by simp
  generalize hW0 : ((((w.alloc (.cells #[.pointer (some ⟨G, 0, none⟩)] 83)).alloc (.cells #[.bool a.e, .slice (some ⟨fa, 0, none⟩) sz sz, .slice (some ⟨la, 0, none⟩) sz sz] 109)).alloc (.cells #[.bool b.e, .slice (some ⟨fb', 0, none⟩) sz sz, .slice (some ⟨lb, 0, none⟩) sz sz] 109)).alloc (.cells #[.bool false, .slice none 0 0, .slice none 0 0] 109)) = W0 at c0 bn ba bb br hz0 ⊢
  clear hW0
  have hGlt := hn.blk.lt
  have hGn := hn.not_fb hn.blk (by decide)
  refine' each_law (n := 4) hz rfl (ha.L.chg c0 id) (fun j hj => (c0.below.cell (World.block_lt_of_cell? _ _ (hd j hj))).trans (hd j hj)) (by have := hn.old.1; omega) rfl (CatI W0 sz b.F fb n.fo) (CatI.own W0 sz b.F fb n.fo _)
    ⟨Chg.refl _ _, fun p g k hp hk => (hn.sets p g k hp hk).chg c0 id⟩ _ ?assign ?body ?done
  case assign =>
    intro l x W K hK
    gi_wp2
    exact hK
  case body =>
    rintro l pre x W ⟨hI1, hI2⟩ hsx
    have hlt := hok x.1 x.2
    have hfb : ∀ g, w.heap.size ≤ g → ¬ In fb g := fun g hg h => by have := hn.fb_lt g h; omega
    have hlen := hn.len
    obtain ⟨gf, cap, cur, hvf, hcap, hbase, hbf, hcell⟩ := ownsRow_cell hn.fo (by intro e; have := congrArg List.length e; simp at this; rw [this] at hlen; simp at hlen; omega)
    subst hvf
    have y0 := (bn.chg hI1 (hfb _ (by omega))).cell 0
    have yG := ((hn.blk.chg c0 id).chg hI1 hGn).cell 2
    have yb := (bb.chg hI1 (hfb _ (by omega))).cell 1
    have hp1 : x.1 < fb.length := by omega
    have yf : W.cell? ⟨gf, x.1, none⟩ = some (setV sz fb[x.1]) := by
      have h1 := hcell x.1 (setV sz fb[x.1]) (by rw [List.getElem?_map, List.getElem?_eq_getElem hp1]; rfl)
      have h2 := ((hbf.chg c0 id).chg hI1 (hn.not_fb hbf (by decide))).cell x.1
      rw [hbf.cell] at h1
      exact h2.trans h1
    unfold setV at yf
    simp only [List.getElem?_toArray, List.getElem?_cons_zero, List.getElem?_cons_succ] at y0 yG yb
    have hxl : x.1 < n.fo.length := hlt
    have hmx : Tryd.prog.follows .mixedOrders = true := by kernel_rfl
    have hin : ∀ k, linkL b.F (pre.map (·.1)) n.fo = k → k.length = n.fo.length := fun k e => by rw [← e]; exact linkL_length _ _ _
    obtain ⟨q, hq⟩ : ∃ q, (linkL b.F (pre.map (·.1)) n.fo)[x.1]? = some q := ⟨_, List.getElem?_eq_getElem (by rw [linkL_length]; exact hlt)⟩
    have hs1 := hI2 x.1 _ _ (List.getElem?_eq_getElem hp1) hq
    have hs2 := ((hb.F.chg c0 id).chg hI1 hb.nF)
    have hne : fb' ≠ fb[x.1] := fun e => hb.nF (e ▸ List.getElem_mem hp1)
    have hj := join_any fb[x.1] fb' sz q b.F W.drew hz hs1 hs2 hne
    have hfn : (Fence.wide.inRound l).fn 92 := trivial
    gi_wp2
    refine region_round 9 hmx (by kernel_rfl) (by kernel_rfl) (fun ⟨_, _, h⟩ => h) ?_
    simp only [List.take_succ_cons, List.take_zero, List.drop_succ_cons, List.drop_zero]
    repeat still_step
    try refine wpStill_nil ?_
    go_wp2_with fail
    refine hj.mono ?_
    rintro e w' ⟨⟨_, rfl⟩, hj1, hj2⟩
    go_wp2
    have hch : Chg (One fb[x.1]) W w' := ((Chg.refl (One fb[x.1]) W).drew).trans hj2
    have hmem : fb[x.1] ∈ fb := List.getElem_mem hp1
    refine ⟨keeps_of_chg hch fun k o hk ho => blk_cells (hk ▸ hs1.1) o ho, ⟨hch.block la hsx.lt fun e => ha.nL (e ▸ hmem), hch.block _ (by have := hI1.size; omega) fun e => ?_⟩, hI1.then_ hch fun k _ e => e ▸ hmem, ?_⟩
    · have := hn.old.2 _ hmem
      have e' : 0 = fb[x.1] := e
      omega
    · intro p g k hp hk
      have hsn : linkL b.F ((pre ++ [x]).map (·.1)) n.fo = (linkL b.F (pre.map (·.1)) n.fo).modify x.1 (· ||| b.F) := by
        simp [linkL]
      rw [hsn, List.getElem?_modify] at hk
      by_cases e : x.1 = p
      · subst e
        rw [hq] at hk
        simp at hk
        rw [List.getElem?_eq_getElem hp1] at hp
        injection hp with hp
        subst hp hk
        exact hj1
      · simp [e] at hk
        refine (hI2 p g k hp hk).chg hch fun e2 => ?_
        have e3 : g = fb[x.1] := e2
        obtain ⟨hpl, rfl⟩ := List.getElem?_eq_some_iff.1 hp
        exact e ((List.getElem_inj hn.nodup).1 e3).symm
  case done =>
    rintro D xs W hDl hxs ⟨hI1, hI2⟩ hD
    rw [hxs, linkL_each ha.L.2] at hI2
    have hfb : ∀ g, w.heap.size ≤ g → ¬ In fb g := fun g hg h => by have := hn.fb_lt g h; omega
    have hcW : Chg (In fb) w W := (c0.mono fun _ _ e => e.elim).then_ hI1 fun _ _ e => e
    have bn1 := bn.chg hI1 (hfb _ (by omega))
    have ba1 := ba.chg hI1 (hfb _ (by omega))
    have bb1 := bb.chg hI1 (hfb _ (by omega))
    have br1 := br.chg hI1 (hfb _ (by omega))
    have hG1 := (hn.blk.chg c0 id).chg hI1 hGn
    have y0 := bn1.cell 0
    have y1 := ba1.cell 0
    have y2 := bb1.cell 0
    have yG := hG1.cell 0
    simp only [List.getElem?_toArray, List.getElem?_cons_zero, List.getElem?_cons_succ] at y0 y1 y2 yG
    cases hae : a.e
    · cases hbe : b.e
      all_goals
        rw [hae] at y1 ba1
        rw [hbe] at y2 bb1
        gi_wp2_with fail
      · skip
        refine ⟨trivial, (callsIn_wide.2 (bare_any G sz false W hz yG)).mono ?_⟩
        rintro e w2 ⟨f, l, rfl, hf, hfl, hs1, hs2, hc2⟩
        unfold partV
        have hWz := hI1.size
        have hlz := hs2.lt
        have hfl' : f ≠ l := by omega
        have bo := Blk.new w2 109 #[.bool false, .slice (some ⟨f, 0, none⟩) sz sz, .slice (some ⟨l, 0, none⟩) sz sz]
        have c3 : Chg No W (w2.alloc (.cells #[.bool false, .slice (some ⟨f, 0, none⟩) sz sz, .slice (some ⟨l, 0, none⟩) sz sz] 109)) := hc2.alloc _
        have ba2 := ba1.chg c3 id
        have bb2 := bb1.chg c3 id
        have br2 := br1.chg c3 id
        have hs1' : SetAt (w2.alloc (.cells #[.bool false, .slice (some ⟨f, 0, none⟩) sz sz, .slice (some ⟨l, 0, none⟩) sz sz] 109)) f sz 0 := ⟨hs1.1.alloc _, hs1.2⟩
        have hs2' : SetAt (w2.alloc (.cells #[.bool false, .slice (some ⟨f, 0, none⟩) sz sz, .slice (some ⟨l, 0, none⟩) sz sz] 109)) l sz 0 := ⟨hs2.1.alloc _, hs2.2⟩
        have xa1 := ((ha.F.chg c0 id).chg hI1 ha.nF).chg c3 id
        have xa2 := ((ha.L.chg c0 id).chg hI1 ha.nL).chg c3 id
        have xb1 := ((hb.F.chg c0 id).chg hI1 hb.nF).chg c3 id
        have xb2 := ((hb.L.chg c0 id).chg hI1 hb.nL).chg c3 id
        have la1 := ha.F.lt
        have la2 := ha.L.lt
        have lb1 := hb.F.lt
        have lb2 := hb.L.lt
        have hS : CatS _ sz f l 0 0 _ := ⟨Chg.refl _ _, hs1', hs2'⟩
        obtain ⟨o0, o1, o2, _⟩ := part_cells bo
        obtain ⟨p0, p1, p2, _⟩ := part_cells ba2
        gi_wp2_with fail
        refine ⟨trivial, (callsIn_wide.2 (CatS.joinF hS hz hfl' xa1 (by omega) (by omega))).mono ?_⟩
        clear hS
        rintro e w5 ⟨⟨_, rfl⟩, hS⟩
        clear o0 o1 o2 p0 p1 p2
        try clear q0 q1 q2
        obtain ⟨o0, o1, o2, _⟩ := part_cells (hS.part hs1' hs2' bo)
        obtain ⟨p0, p1, p2, _⟩ := part_cells (hS.part hs1' hs2' ba2)
        obtain ⟨q0, q1, q2, _⟩ := part_cells (hS.part hs1' hs2' bb2)
        gi_wp2_with fail
        refine ⟨trivial, (callsIn_wide.2 (CatS.joinL hS hz hfl' xb2 (by omega) (by omega))).mono ?_⟩
        clear hS
        rintro e w5 ⟨⟨_, rfl⟩, hS⟩
        clear o0 o1 o2 p0 p1 p2
        try clear q0 q1 q2
        obtain ⟨o0, o1, o2, _⟩ := part_cells (hS.part hs1' hs2' bo)
        obtain ⟨p0, p1, p2, _⟩ := part_cells (hS.part hs1' hs2' ba2)
        obtain ⟨q0, q1, q2, _⟩ := part_cells (hS.part hs1' hs2' bb2)
        obtain ⟨r0, r1, r2, r3, r4, r5⟩ := part_cells (hS.part hs1' hs2' br2)
        gi_wp2
        obtain ⟨d1, d2, d3, d4, d5⟩ := cat_close (x := .bool false) (y := .slice (some ⟨f, 0, none⟩) sz sz) (z := .slice (some ⟨l, 0, none⟩) sz sz) hn (linkP_length a.L b.F n.fo 0) hcW hI2 c3 hS hs1' hs2' hf (by omega) (by omega) br1 (by omega) hD
        have hbz := ((((hS.part hs1' hs2' br2).set_ 0 (.bool false)).set_ 1 (.slice (some ⟨f, 0, none⟩) sz sz)).set_ 2 (.slice (some ⟨l, 0, none⟩) sz sz))
        refine leaves_part rfl rfl d1 hbz ⟨f, l, ?_, by omega, by omega, hfl', ?_, ?_, d4, d5⟩
        · simp [outP, hae, hbe]
        · simpa [outP, hae, hbe] using d2
        · simpa [outP, hae, hbe] using d3
      · skip
        refine ⟨trivial, (callsIn_wide.2 (bare_any G sz false W hz yG)).mono ?_⟩
        rintro e w2 ⟨f, l, rfl, hf, hfl, hs1, hs2, hc2⟩
        unfold partV
        have hWz := hI1.size
        have hlz := hs2.lt
        have hfl' : f ≠ l := by omega
        have bo := Blk.new w2 109 #[.bool false, .slice (some ⟨f, 0, none⟩) sz sz, .slice (some ⟨l, 0, none⟩) sz sz]
        have c3 : Chg No W (w2.alloc (.cells #[.bool false, .slice (some ⟨f, 0, none⟩) sz sz, .slice (some ⟨l, 0, none⟩) sz sz] 109)) := hc2.alloc _
        have ba2 := ba1.chg c3 id
        have bb2 := bb1.chg c3 id
        have br2 := br1.chg c3 id
        have hs1' : SetAt (w2.alloc (.cells #[.bool false, .slice (some ⟨f, 0, none⟩) sz sz, .slice (some ⟨l, 0, none⟩) sz sz] 109)) f sz 0 := ⟨hs1.1.alloc _, hs1.2⟩
        have hs2' : SetAt (w2.alloc (.cells #[.bool false, .slice (some ⟨f, 0, none⟩) sz sz, .slice (some ⟨l, 0, none⟩) sz sz] 109)) l sz 0 := ⟨hs2.1.alloc _, hs2.2⟩
        have xa1 := ((ha.F.chg c0 id).chg hI1 ha.nF).chg c3 id
        have xa2 := ((ha.L.chg c0 id).chg hI1 ha.nL).chg c3 id
        have xb1 := ((hb.F.chg c0 id).chg hI1 hb.nF).chg c3 id
        have xb2 := ((hb.L.chg c0 id).chg hI1 hb.nL).chg c3 id
        have la1 := ha.F.lt
        have la2 := ha.L.lt
        have lb1 := hb.F.lt
        have lb2 := hb.L.lt
        have hS : CatS _ sz f l 0 0 _ := ⟨Chg.refl _ _, hs1', hs2'⟩
        obtain ⟨o0, o1, o2, _⟩ := part_cells bo
        obtain ⟨p0, p1, p2, _⟩ := part_cells ba2
        gi_wp2_with fail
        refine ⟨trivial, (callsIn_wide.2 (CatS.joinF hS hz hfl' xa1 (by omega) (by omega))).mono ?_⟩
        clear hS
        rintro e w5 ⟨⟨_, rfl⟩, hS⟩
        clear o0 o1 o2 p0 p1 p2
        try clear q0 q1 q2
        obtain ⟨o0, o1, o2, _⟩ := part_cells (hS.part hs1' hs2' bo)
        obtain ⟨p0, p1, p2, _⟩ := part_cells (hS.part hs1' hs2' ba2)
        obtain ⟨q0, q1, q2, _⟩ := part_cells (hS.part hs1' hs2' bb2)
        gi_wp2_with fail
        refine ⟨trivial, (callsIn_wide.2 (CatS.joinL hS hz hfl' xb2 (by omega) (by omega))).mono ?_⟩
        clear hS
        rintro e w5 ⟨⟨_, rfl⟩, hS⟩
        clear o0 o1 o2 p0 p1 p2
        try clear q0 q1 q2
        obtain ⟨o0, o1, o2, _⟩ := part_cells (hS.part hs1' hs2' bo)
        obtain ⟨p0, p1, p2, _⟩ := part_cells (hS.part hs1' hs2' ba2)
        obtain ⟨q0, q1, q2, _⟩ := part_cells (hS.part hs1' hs2' bb2)
        gi_wp2_with fail
        refine ⟨trivial, (callsIn_wide.2 (CatS.joinL hS hz hfl' xa2 (by omega) (by omega))).mono ?_⟩
        clear hS
        rintro e w5 ⟨⟨_, rfl⟩, hS⟩
        clear o0 o1 o2 p0 p1 p2
        try clear q0 q1 q2
        obtain ⟨o0, o1, o2, _⟩ := part_cells (hS.part hs1' hs2' bo)
        obtain ⟨p0, p1, p2, _⟩ := part_cells (hS.part hs1' hs2' ba2)
        obtain ⟨q0, q1, q2, _⟩ := part_cells (hS.part hs1' hs2' bb2)
        obtain ⟨r0, r1, r2, r3, r4, r5⟩ := part_cells (hS.part hs1' hs2' br2)
        gi_wp2
        obtain ⟨d1, d2, d3, d4, d5⟩ := cat_close (x := .bool false) (y := .slice (some ⟨f, 0, none⟩) sz sz) (z := .slice (some ⟨l, 0, none⟩) sz sz) hn (linkP_length a.L b.F n.fo 0) hcW hI2 c3 hS hs1' hs2' hf (by omega) (by omega) br1 (by omega) hD
        have hbz := ((((hS.part hs1' hs2' br2).set_ 0 (.bool false)).set_ 1 (.slice (some ⟨f, 0, none⟩) sz sz)).set_ 2 (.slice (some ⟨l, 0, none⟩) sz sz))
        refine leaves_part rfl rfl d1 hbz ⟨f, l, ?_, by omega, by omega, hfl', ?_, ?_, d4, d5⟩
        · simp [outP, hae, hbe]
        · simpa [outP, hae, hbe] using d2
        · simpa [outP, hae, hbe] using d3
    · cases hbe : b.e
      all_goals
        rw [hae] at y1 ba1
        rw [hbe] at y2 bb1
        gi_wp2_with fail
      · skip
        refine ⟨trivial, (callsIn_wide.2 (bare_any G sz false W hz yG)).mono ?_⟩
        rintro e w2 ⟨f, l, rfl, hf, hfl, hs1, hs2, hc2⟩
        unfold partV
        have hWz := hI1.size
        have hlz := hs2.lt
        have hfl' : f ≠ l := by omega
        have bo := Blk.new w2 109 #[.bool false, .slice (some ⟨f, 0, none⟩) sz sz, .slice (some ⟨l, 0, none⟩) sz sz]
        have c3 : Chg No W (w2.alloc (.cells #[.bool false, .slice (some ⟨f, 0, none⟩) sz sz, .slice (some ⟨l, 0, none⟩) sz sz] 109)) := hc2.alloc _
        have ba2 := ba1.chg c3 id
        have bb2 := bb1.chg c3 id
        have br2 := br1.chg c3 id
        have hs1' : SetAt (w2.alloc (.cells #[.bool false, .slice (some ⟨f, 0, none⟩) sz sz, .slice (some ⟨l, 0, none⟩) sz sz] 109)) f sz 0 := ⟨hs1.1.alloc _, hs1.2⟩
        have hs2' : SetAt (w2.alloc (.cells #[.bool false, .slice (some ⟨f, 0, none⟩) sz sz, .slice (some ⟨l, 0, none⟩) sz sz] 109)) l sz 0 := ⟨hs2.1.alloc _, hs2.2⟩
        have xa1 := ((ha.F.chg c0 id).chg hI1 ha.nF).chg c3 id
        have xa2 := ((ha.L.chg c0 id).chg hI1 ha.nL).chg c3 id
        have xb1 := ((hb.F.chg c0 id).chg hI1 hb.nF).chg c3 id
        have xb2 := ((hb.L.chg c0 id).chg hI1 hb.nL).chg c3 id
        have la1 := ha.F.lt
        have la2 := ha.L.lt
        have lb1 := hb.F.lt
        have lb2 := hb.L.lt
        have hS : CatS _ sz f l 0 0 _ := ⟨Chg.refl _ _, hs1', hs2'⟩
        obtain ⟨o0, o1, o2, _⟩ := part_cells bo
        obtain ⟨p0, p1, p2, _⟩ := part_cells ba2
        gi_wp2_with fail
        refine ⟨trivial, (callsIn_wide.2 (CatS.joinF hS hz hfl' xa1 (by omega) (by omega))).mono ?_⟩
        clear hS
        rintro e w5 ⟨⟨_, rfl⟩, hS⟩
        clear o0 o1 o2 p0 p1 p2
        try clear q0 q1 q2
        obtain ⟨o0, o1, o2, _⟩ := part_cells (hS.part hs1' hs2' bo)
        obtain ⟨p0, p1, p2, _⟩ := part_cells (hS.part hs1' hs2' ba2)
        obtain ⟨q0, q1, q2, _⟩ := part_cells (hS.part hs1' hs2' bb2)
        gi_wp2_with fail
        refine ⟨trivial, (callsIn_wide.2 (CatS.joinF hS hz hfl' xb1 (by omega) (by omega))).mono ?_⟩
        clear hS
        rintro e w5 ⟨⟨_, rfl⟩, hS⟩
        clear o0 o1 o2 p0 p1 p2
        try clear q0 q1 q2
        obtain ⟨o0, o1, o2, _⟩ := part_cells (hS.part hs1' hs2' bo)
        obtain ⟨p0, p1, p2, _⟩ := part_cells (hS.part hs1' hs2' ba2)
        obtain ⟨q0, q1, q2, _⟩ := part_cells (hS.part hs1' hs2' bb2)
        gi_wp2_with fail
        refine ⟨trivial, (callsIn_wide.2 (CatS.joinL hS hz hfl' xb2 (by omega) (by omega))).mono ?_⟩
        clear hS
        rintro e w5 ⟨⟨_, rfl⟩, hS⟩
        clear o0 o1 o2 p0 p1 p2
        try clear q0 q1 q2
        obtain ⟨o0, o1, o2, _⟩ := part_cells (hS.part hs1' hs2' bo)
        obtain ⟨p0, p1, p2, _⟩ := part_cells (hS.part hs1' hs2' ba2)
        obtain ⟨q0, q1, q2, _⟩ := part_cells (hS.part hs1' hs2' bb2)
        obtain ⟨r0, r1, r2, r3, r4, r5⟩ := part_cells (hS.part hs1' hs2' br2)
        gi_wp2
        obtain ⟨d1, d2, d3, d4, d5⟩ := cat_close (x := .bool false) (y := .slice (some ⟨f, 0, none⟩) sz sz) (z := .slice (some ⟨l, 0, none⟩) sz sz) hn (linkP_length a.L b.F n.fo 0) hcW hI2 c3 hS hs1' hs2' hf (by omega) (by omega) br1 (by omega) hD
        have hbz := ((((hS.part hs1' hs2' br2).set_ 0 (.bool false)).set_ 1 (.slice (some ⟨f, 0, none⟩) sz sz)).set_ 2 (.slice (some ⟨l, 0, none⟩) sz sz))
        refine leaves_part rfl rfl d1 hbz ⟨f, l, ?_, by omega, by omega, hfl', ?_, ?_, d4, d5⟩
        · simp [outP, hae, hbe]
        · simpa [outP, hae, hbe] using d2
        · simpa [outP, hae, hbe] using d3
      · skip
        refine ⟨trivial, (callsIn_wide.2 (bare_any G sz true W hz yG)).mono ?_⟩
        rintro e w2 ⟨f, l, rfl, hf, hfl, hs1, hs2, hc2⟩
        unfold partV
        have hWz := hI1.size
        have hlz := hs2.lt
        have hfl' : f ≠ l := by omega
        have bo := Blk.new w2 109 #[.bool true, .slice (some ⟨f, 0, none⟩) sz sz, .slice (some ⟨l, 0, none⟩) sz sz]
        have c3 : Chg No W (w2.alloc (.cells #[.bool true, .slice (some ⟨f, 0, none⟩) sz sz, .slice (some ⟨l, 0, none⟩) sz sz] 109)) := hc2.alloc _
        have ba2 := ba1.chg c3 id
        have bb2 := bb1.chg c3 id
        have br2 := br1.chg c3 id
        have hs1' : SetAt (w2.alloc (.cells #[.bool true, .slice (some ⟨f, 0, none⟩) sz sz, .slice (some ⟨l, 0, none⟩) sz sz] 109)) f sz 0 := ⟨hs1.1.alloc _, hs1.2⟩
        have hs2' : SetAt (w2.alloc (.cells #[.bool true, .slice (some ⟨f, 0, none⟩) sz sz, .slice (some ⟨l, 0, none⟩) sz sz] 109)) l sz 0 := ⟨hs2.1.alloc _, hs2.2⟩
        have xa1 := ((ha.F.chg c0 id).chg hI1 ha.nF).chg c3 id
        have xa2 := ((ha.L.chg c0 id).chg hI1 ha.nL).chg c3 id
        have xb1 := ((hb.F.chg c0 id).chg hI1 hb.nF).chg c3 id
        have xb2 := ((hb.L.chg c0 id).chg hI1 hb.nL).chg c3 id
        have la1 := ha.F.lt
        have la2 := ha.L.lt
        have lb1 := hb.F.lt
        have lb2 := hb.L.lt
        have hS : CatS _ sz f l 0 0 _ := ⟨Chg.refl _ _, hs1', hs2'⟩
        obtain ⟨o0, o1, o2, _⟩ := part_cells bo
        obtain ⟨p0, p1, p2, _⟩ := part_cells ba2
        gi_wp2_with fail
        refine ⟨trivial, (callsIn_wide.2 (CatS.joinF hS hz hfl' xa1 (by omega) (by omega))).mono ?_⟩
        clear hS
        rintro e w5 ⟨⟨_, rfl⟩, hS⟩
        clear o0 o1 o2 p0 p1 p2
        try clear q0 q1 q2
        obtain ⟨o0, o1, o2, _⟩ := part_cells (hS.part hs1' hs2' bo)
        obtain ⟨p0, p1, p2, _⟩ := part_cells (hS.part hs1' hs2' ba2)
        obtain ⟨q0, q1, q2, _⟩ := part_cells (hS.part hs1' hs2' bb2)
        gi_wp2_with fail
        refine ⟨trivial, (callsIn_wide.2 (CatS.joinF hS hz hfl' xb1 (by omega) (by omega))).mono ?_⟩
        clear hS
        rintro e w5 ⟨⟨_, rfl⟩, hS⟩
        clear o0 o1 o2 p0 p1 p2
        try clear q0 q1 q2
        obtain ⟨o0, o1, o2, _⟩ := part_cells (hS.part hs1' hs2' bo)
        obtain ⟨p0, p1, p2, _⟩ := part_cells (hS.part hs1' hs2' ba2)
        obtain ⟨q0, q1, q2, _⟩ := part_cells (hS.part hs1' hs2' bb2)
        gi_wp2_with fail
        refine ⟨trivial, (callsIn_wide.2 (CatS.joinL hS hz hfl' xb2 (by omega) (by omega))).mono ?_⟩
        clear hS
        rintro e w5 ⟨⟨_, rfl⟩, hS⟩
        clear o0 o1 o2 p0 p1 p2
        try clear q0 q1 q2
        obtain ⟨o0, o1, o2, _⟩ := part_cells (hS.part hs1' hs2' bo)
        obtain ⟨p0, p1, p2, _⟩ := part_cells (hS.part hs1' hs2' ba2)
        obtain ⟨q0, q1, q2, _⟩ := part_cells (hS.part hs1' hs2' bb2)
        gi_wp2_with fail
        refine ⟨trivial, (callsIn_wide.2 (CatS.joinL hS hz hfl' xa2 (by omega) (by omega))).mono ?_⟩
        clear hS
        rintro e w5 ⟨⟨_, rfl⟩, hS⟩
        clear o0 o1 o2 p0 p1 p2
        try clear q0 q1 q2
        obtain ⟨o0, o1, o2, _⟩ := part_cells (hS.part hs1' hs2' bo)
        obtain ⟨p0, p1, p2, _⟩ := part_cells (hS.part hs1' hs2' ba2)
        obtain ⟨q0, q1, q2, _⟩ := part_cells (hS.part hs1' hs2' bb2)
        obtain ⟨r0, r1, r2, r3, r4, r5⟩ := part_cells (hS.part hs1' hs2' br2)
        gi_wp2
        obtain ⟨d1, d2, d3, d4, d5⟩ := cat_close (x := .bool true) (y := .slice (some ⟨f, 0, none⟩) sz sz) (z := .slice (some ⟨l, 0, none⟩) sz sz) hn (linkP_length a.L b.F n.fo 0) hcW hI2 c3 hS hs1' hs2' hf (by omega) (by omega) br1 (by omega) hD
        have hbz := ((((hS.part hs1' hs2' br2).set_ 0 (.bool true)).set_ 1 (.slice (some ⟨f, 0, none⟩) sz sz)).set_ 2 (.slice (some ⟨l, 0, none⟩) sz sz))
        refine leaves_part rfl rfl d1 hbz ⟨f, l, ?_, by omega, by omega, hfl', ?_, ?_, d4, d5⟩
        · simp [outP, hae, hbe]
        · simpa [outP, hae, hbe] using d2
        · simpa [outP, hae, hbe] using d3
end Go.Proofs.YticipgjbgcdccaaDoor
namespace Go.Proofs.YticipgjbgcdccaaDoor
open Go.RowKit

theorem info_pair : (Tryd.prog.info? 116).map (fun i => (i.zero, i.size, i.bytes)) = some (some (.agg #[.int .i64 0, .int .i64 0]), 2, 16) := by kernel_rfl
theorem info_set : (Tryd.prog.info? 107).map (fun i => (i.zero, i.size, i.bytes)) = some (some (.slice none 0 0), 1, 24) := by kernel_rfl
theorem info_part : (Tryd.prog.info? 109).map (fun i => (i.zero, i.size, i.bytes)) = some (some (.agg #[.bool false, .slice none 0 0, .slice none 0 0]), 3, 56) := by kernel_rfl

/-- 'l = append(l, y)', y a value in a block of its own, as a step of a region that draws its order -/
theorem step_append_row {w : World} {ops : Array Oper} {o : Oper} {a : Act} {K : Act → World → Prop} {Q : Exit → Act → World → Prop} {E : Prop} (hgd : o.guard = none) (s x : Operand) (t e : TypeId) (i0 : TypeInfo) (z : Value) (size bytes : Nat)
    (ho : o.op = .call { callee := .builtin .append, args := #[s, x], argTypes := #[t, t] }) (ht : Tryd.prog.underlying t = some (.slice e)) (hi : Tryd.prog.info? e = some i0) (hz : i0.zero = some z) (hsz : i0.size = size) (hby : i0.bytes = bytes) (hzs : z.cells.size = size) (hs0 : 0 < size) (hb100 : bytes ≤ 100)
    (base : Nat) (v : Value) (n : Nat) (xs : List Value) (hs : a.eval s = v) (hown : w.ownsRow base e size v n xs) (g c : Nat) (ys : List Value) (hx : a.eval x = .slice (some ⟨g, 0, none⟩) 1 c) (hys : ys.length = size) (h1 : ∀ u ∈ ys, u.oneCell' = true)
    (hb : Blk w g e ys.toArray) (hlen : n ≤ 100000) (hbase : base ≤ w.heap.size)
    (h : ∀ v' w', w'.ownsRow base e size v' (n + 1) (xs ++ ys) → w.grownBy w' v.ownBlock → (v'.ownBlock = v.ownBlock ∨ v'.ownBlock = some w.heap.size) → K (a.put o.dst v') w') :
    if Region.wanted o (yielded ops a.tmps) = true then Oper.wp Tryd.prog o a w K Q else E := by
  have hw : Region.wanted o (yielded ops a.tmps) = true := by simp [Region.wanted, hgd]
  rw [if_pos hw]
  obtain ⟨v', w', hr, ho', hg, _, hat⟩ := run_append_own_at (P := Tryd.prog) w base t o.type e i0 z size bytes ht hi hz hsz hby hzs hs0 v n xs hown ⟨g, 0, none⟩ 1 c ys (by rw [hys]; omega) (fun j u hu => by
      rw [add0, hb.cell j]
      simpa using hu) h1 (by unfold maxLen; omega) (by have : (n + 1) * bytes ≤ 100001 * 100 := Nat.mul_le_mul (by omega) hb100; omega) hbase
  unfold Oper.wp execOp
  simp only [ho, resolve, invoke, builtin, Sem.run_bind, Sem.run_pure, Result.andThen_ok, List.map_toArray, List.map_cons, List.map_nil, hs, hx, hr]
  exact h v' w' ho' hg hat

set_option maxRecDepth 100000 in
theorem step_append_pair {w : World} {ops : Array Oper} {o : Oper} {a : Act} {K : Act → World → Prop} {Q : Exit → Act → World → Prop} {E : Prop} (hgd : o.guard = none) (s x : Operand)
    (ho : o.op = .call { callee := .builtin .append, args := #[s, x], argTypes := #[104, 104] })
    (base : Nat) (v : Value) (n : Nat) (xs : List Value) (hs : a.eval s = v) (hown : w.ownsRow base 116 2 v n xs) (g c : Nat) (y z : Int) (hx : a.eval x = .slice (some ⟨g, 0, none⟩) 1 c)
    (hb : Blk w g 116 #[.int .i64 y, .int .i64 z]) (hlen : n ≤ 100000) (hbase : base ≤ w.heap.size)
    (h : ∀ v' w', w'.ownsRow base 116 2 v' (n + 1) (xs ++ [.int .i64 y, .int .i64 z]) → w.grownBy w' v.ownBlock → (v'.ownBlock = v.ownBlock ∨ v'.ownBlock = some w.heap.size) → K (a.put o.dst v') w') :
    if Region.wanted o (yielded ops a.tmps) = true then Oper.wp Tryd.prog o a w K Q else E := by
  obtain ⟨i0, hi, hz0, hz1, hz2⟩ := info_parts info_pair
  exact step_append_row hgd s x _ _ i0 _ 2 16 ho rfl hi hz0 hz1 hz2 rfl (by decide) (by decide) base v n xs hs hown g c [.int .i64 y, .int .i64 z] hx rfl (by intro u hu; simp at hu; rcases hu with rfl | rfl <;> rfl) hb hlen hbase h
set_option maxRecDepth 100000 in
theorem step_append_set {w : World} {ops : Array Oper} {o : Oper} {a : Act} {K : Act → World → Prop} {Q : Exit → Act → World → Prop} {E : Prop} (hgd : o.guard = none) (s x : Operand)
    (ho : o.op = .call { callee := .builtin .append, args := #[s, x], argTypes := #[105, 105] })
    (base : Nat) (v : Value) (n : Nat) (xs : List Value) (hs : a.eval s = v) (hown : w.ownsRow base 107 1 v n xs) (g c sz h' : Nat) (hx : a.eval x = .slice (some ⟨g, 0, none⟩) 1 c)
    (hb : Blk w g 107 #[.slice (some ⟨h', 0, none⟩) sz sz]) (hlen : n ≤ 100000) (hbase : base ≤ w.heap.size)
    (h : ∀ v' w', w'.ownsRow base 107 1 v' (n + 1) (xs ++ [.slice (some ⟨h', 0, none⟩) sz sz]) → w.grownBy w' v.ownBlock → (v'.ownBlock = v.ownBlock ∨ v'.ownBlock = some w.heap.size) → K (a.put o.dst v') w') :
    if Region.wanted o (yielded ops a.tmps) = true then Oper.wp Tryd.prog o a w K Q else E := by
  obtain ⟨i0, hi, hz0, hz1, hz2⟩ := info_parts info_set
  exact step_append_row hgd s x _ _ i0 _ 1 24 ho rfl hi hz0 hz1 hz2 rfl (by decide) (by decide) base v n xs hs hown g c [.slice (some ⟨h', 0, none⟩) sz sz] hx rfl (by intro u hu; simp at hu; subst hu; rfl) hb hlen hbase h

/-- the blocks of the net -/
def NetS (G : Nat) (vt vf : Value) (fb : List Nat) (k : Nat) : Prop := k = G ∨ vt.ownBlock = some k ∨ vf.ownBlock = some k ∨ k ∈ fb
theorem ownsRow_blk {w : World} {base : Nat} {e : TypeId} {size n : Nat} {v : Value} {xs : List Value} (h : w.ownsRow base e size v n xs) {k : Nat} (hk : v.ownBlock = some k) : base ≤ k ∧ ∃ cs, Blk w k e cs := by
  obtain ⟨h1, h2⟩ := h
  rcases h2 with ⟨rfl, h0⟩ | ⟨g, cap, cur, rfl, hb, hh, hr⟩
  · simp [Value.ownBlock] at hk
  · have : g = k := by simpa [Value.ownBlock] using hk
    subst this
    exact ⟨hb, cur, hh⟩
theorem NetAt.base_le {w : World} {base G sz : Nat} {n : Nt} {vt vf v3 v4 v5 : Value} {fb : List Nat} (h : NetAt w base G sz n vt vf v3 v4 v5 fb) {k : Nat} (hk : NetS G vt vf fb k) : base ≤ k := by
  rcases hk with rfl | hk | hk | hk
  · exact h.old.1
  · exact (ownsRow_blk h.tk hk).1
  · exact (ownsRow_blk h.fo hk).1
  · exact h.old.2 k hk
/-- what is of no type of the net's is no block of it -/
theorem NetAt.not_net {w : World} {base G sz : Nat} {n : Nt} {vt vf v3 v4 v5 : Value} {fb : List Nat} (h : NetAt w base G sz n vt vf v3 v4 v5 fb) {g : Nat} {t : TypeId} {cs : Array Value} (hb : Blk w g t cs)
    (h1 : t ≠ 111) (h2 : t ≠ 116) (h3 : t ≠ 107) (h4 : t ≠ 133 ∨ g ∉ fb) : ¬ NetS G vt vf fb g := by
  rintro (rfl | hk | hk | hk)
  · exact hb.ne_ h.blk h1 rfl
  · obtain ⟨_, cs', hb'⟩ := ownsRow_blk h.tk hk
    exact hb.ne_ hb' h2 rfl
  · obtain ⟨_, cs', hb'⟩ := ownsRow_blk h.fo hk
    exact hb.ne_ hb' h3 rfl
  · rcases h4 with h4 | h4
    · obtain ⟨cs', hb'⟩ := h.fb_set hk
      exact hb.ne_ hb' h4 rfl
    · exact h4 hk
theorem NetAt.lt {w : World} {base G sz : Nat} {n : Nt} {vt vf v3 v4 v5 : Value} {fb : List Nat} (h : NetAt w base G sz n vt vf v3 v4 v5 fb) {k : Nat} (hk : NetS G vt vf fb k) : k < w.heap.size := by
  rcases hk with rfl | hk | hk | hk
  · exact h.blk.lt
  · obtain ⟨_, cs', hb'⟩ := ownsRow_blk h.tk hk; exact hb'.lt
  · obtain ⟨_, cs', hb'⟩ := ownsRow_blk h.fo hk; exact hb'.lt
  · exact h.fb_lt k hk
/-- the net where none of its blocks changes -/
theorem NetAt.keep {S : Nat → Prop} {w w' : World} {base G sz : Nat} {n : Nt} {vt vf v3 v4 v5 : Value} {fb : List Nat} (h : NetAt w base G sz n vt vf v3 v4 v5 fb) (hc : Chg S w w') (hS : ∀ k, NetS G vt vf fb k → ¬ S k) : NetAt w' base G sz n vt vf v3 v4 v5 fb where
  blk := h.blk.chg hc (hS _ (.inl rfl))
  tk := ownsRow_chg h.tk hc fun k _ hk _ => hS k (.inr (.inl hk))
  fo := ownsRow_chg h.fo hc fun k _ hk _ => hS k (.inr (.inr (.inl hk)))
  len := h.len
  nodup := h.nodup
  sets := fun p g m hp hm => (h.sets p g m hp hm).chg hc (hS g (.inr (.inr (.inr (List.mem_of_getElem? hp)))))
  old := h.old
theorem NetAt.keepNo {w w' : World} {base G sz : Nat} {n : Nt} {vt vf v3 v4 v5 : Value} {fb : List Nat} (h : NetAt w base G sz n vt vf v3 v4 v5 fb) (hc : Chg No w w') : NetAt w' base G sz n vt vf v3 v4 v5 fb := h.keep hc fun _ _ => id

/-- one position more: what it takes -/
theorem NetAt.grow_tk {w w5 : World} {base G sz : Nat} {n : Nt} {vt vf v3 v4 v5 v' : Value} {fb : List Nat} {y z : Int} (h : NetAt w base G sz n vt vf v3 v4 v5 fb) (hc : Chg (fun k => vt.ownBlock = some k) w w5)
    (hO : w5.ownsRow base 116 2 v' (n.tk.length + 1) (tkCells n.tk ++ [.int .i64 y, .int .i64 z])) : NetAt (w5.setCell ⟨G, 1, none⟩ v') base G sz ⟨n.tk ++ [(y, z)], n.fo⟩ v' vf v3 v4 v5 fb := by
  have nG : ¬ vt.ownBlock = some G := fun e => by
    obtain ⟨_, cs, hb⟩ := ownsRow_blk h.tk e
    exact h.blk.ne_ hb (by decide) rfl
  have hG := h.blk.chg hc nG
  have hs : Chg (One G) w5 (w5.setCell ⟨G, 1, none⟩ v') := Chg.setCell (S := One G) (Chg.refl (One G) w5) (p := ⟨G, 1, none⟩) _ fun _ => rfl
  refine ⟨hG.set_ 1 v', ?_, ?_, h.len, h.nodup, ?_, h.old⟩
  · have := ownsRow_chg hO hs fun k cs hk hb e => by have e' : k = G := e; subst e'; exact hG.ne_ hb (by decide) rfl
    simpa [tkCells] using this
  · refine ownsRow_chg (ownsRow_chg h.fo hc fun k cs hk hb e => ?_) hs fun k cs hk hb e => ?_
    · obtain ⟨_, cs', hb'⟩ := ownsRow_blk h.tk e
      exact hb.ne_ hb' (by decide) rfl
    · have e' : k = G := e
      subst e'
      exact hG.ne_ hb (by decide) rfl
  · intro p g m hp hm
    have h0 := h.sets p g m hp hm
    refine (h0.chg hc fun e => ?_).chg hs fun e => ?_
    · obtain ⟨_, cs', hb'⟩ := ownsRow_blk h.tk e
      exact h0.1.ne_ hb' (by decide) rfl
    · exact h0.1.ne_ h.blk (by decide) e
/-- one position more: its set -/
theorem NetAt.grow_fo {w w5 : World} {base G sz g0 : Nat} {n : Nt} {vt vf v3 v4 v5 v' : Value} {fb : List Nat} (h : NetAt w base G sz n vt vf v3 v4 v5 fb) (hc : Chg (fun k => vf.ownBlock = some k) w w5)
    (hO : w5.ownsRow base 107 1 v' (n.fo.length + 1) (fb.map (setV sz) ++ [.slice (some ⟨g0, 0, none⟩) sz sz])) (hg : SetAt w5 g0 sz 0) (hn : w.heap.size ≤ g0) (hb : base ≤ w.heap.size) :
    NetAt (w5.setCell ⟨G, 2, none⟩ v') base G sz ⟨n.tk, n.fo ++ [0]⟩ vt v' v3 v4 v5 (fb ++ [g0]) := by
  have nG : ¬ vf.ownBlock = some G := fun e => by
    obtain ⟨_, cs, hb⟩ := ownsRow_blk h.fo e
    exact h.blk.ne_ hb (by decide) rfl
  have hG := h.blk.chg hc nG
  have hs : Chg (One G) w5 (w5.setCell ⟨G, 2, none⟩ v') := Chg.setCell (S := One G) (Chg.refl (One G) w5) (p := ⟨G, 2, none⟩) _ fun _ => rfl
  have hnm : g0 ∉ fb := fun e => by have := h.fb_lt g0 e; omega
  refine ⟨hG.set_ 2 v', ?_, ?_, by simp [h.len], ?_, ?_, h.old.1, fun g hg' => ?_⟩
  · refine ownsRow_chg (ownsRow_chg h.tk hc fun k cs hk hb e => ?_) hs fun k cs hk hb e => ?_
    · obtain ⟨_, cs', hb'⟩ := ownsRow_blk h.fo e
      exact hb.ne_ hb' (by decide) rfl
    · have e' : k = G := e
      subst e'
      exact hG.ne_ hb (by decide) rfl
  · have := ownsRow_chg hO hs fun k cs hk hb e => by have e' : k = G := e; subst e'; exact hG.ne_ hb (by decide) rfl
    simpa [setV] using this
  · rw [List.nodup_append]
    refine ⟨h.nodup, by simp, fun a ha b hb' e => ?_⟩
    simp at hb'
    subst hb'
    exact hnm (e ▸ ha)
  · intro p g m hp hm
    rw [List.getElem?_append] at hp hm
    have hl := h.len
    by_cases q : p < fb.length
    · rw [if_pos q] at hp
      rw [if_pos (by omega)] at hm
      have h0 := h.sets p g m hp hm
      refine (h0.chg hc fun e => ?_).chg hs fun e => ?_
      · obtain ⟨_, cs', hb'⟩ := ownsRow_blk h.fo e
        exact h0.1.ne_ hb' (by decide) rfl
      · exact h0.1.ne_ h.blk (by decide) e
    · rw [if_neg q] at hp
      rw [if_neg (by omega)] at hm
      have e0 : p = fb.length := by
        rcases Nat.lt_or_ge (p - fb.length) 1 with q' | q'
        · omega
        · rw [List.getElem?_eq_none (by simpa using q')] at hp; cases hp
      subst e0
      simp at hp
      rw [hl] at hm
      simp at hm
      subst hp hm
      exact hg.chg hs fun e => hg.1.ne_ hG (by decide) e
  · simp at hg'
    rcases hg' with hg' | rfl
    · exact h.old.2 g hg'
    · omega
end Go.Proofs.YticipgjbgcdccaaDoor
