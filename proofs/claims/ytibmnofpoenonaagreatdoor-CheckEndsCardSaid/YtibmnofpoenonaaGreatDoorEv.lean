/-
  Events, as plain functions: whether one may be, its opposite, and the state behind it.
  The walks of event's plain functions.
-/
import Derived.Test.YtibmnofpoenonaaGreatDoorZon
import Derived.Test.YtibmnofpoenonaaGreatDoorCopy
import Derived.Deep.Light
namespace Go.Proofs.YtibmnofpoenonaaGreatDoor
open Go Go.RowKit

def inR (n e : Int) : Bool := decide (0 ≤ n) && decide (n < e)
def evSets (e : List Int) : Bool := gt e 0 == 2 || gt e 0 == 3 || gt e 0 == 4
def evMakes (e : List Int) : Bool := gt e 0 == 0 || gt e 0 == 5
def evSpare (e : List Int) : Bool := if evMakes e = true then gt e 4 == 0 && gt e 5 == 0 else if gt e 0 = 1 then true else gt e 5 == 0 && (gt e 0 != 4 || gt e 1 == 0)
def evSmall (e : List Int) : Bool := inB (gt e 4) (-1073741824) 1073741824
def evRanges (e : List Int) : Bool :=
  if gt e 0 = 0 ∨ gt e 0 = 5 then inR (gt e 1) 120 && inR (gt e 2) 2 && inR (gt e 3) 3
  else if gt e 0 = 1 then decide (0 ≤ gt e 1) && inR (gt e 2) 11 && inR (gt e 4) 11 && decide (0 ≤ gt e 3) && decide (0 ≤ gt e 5)
  else if gt e 0 = 2 then decide (0 ≤ gt e 1) && inR (gt e 2) 18 && gt e 2 != 3 && evSmall e
  else if gt e 0 = 3 then inR (gt e 1) 2 && inR (gt e 2) 9 && evSmall e
  else inR (gt e 2) 7 && evSmall e
/-- May the event be? An error's number. -/
def evCheck (e : List Int) : Int := if inR (gt e 0) 6 = false then 6 else if evSpare e = false then 2 else if evRanges e = false then 1 else 0
def evInvert (e : List Int) : List Int :=
  if gt e 0 = 0 then e.set 0 5
  else if gt e 0 = 5 then e.set 0 0
  else if gt e 0 = 1 then [1, gt e 1, gt e 4, gt e 5, gt e 2, gt e 3]
  else if evSets e = true then [gt e 0, gt e 1, gt e 2, gt e 4, gt e 3, gt e 5]
  else e
def evMade (e : List Int) : List Int := [gt e 1, gt e 2, gt e 2, 10, 0, 0, 0, 0, 0, 0, 0, 0, 0, gt e 3, 0, 0, 0, 3]

def St.setObj (S : St) (i f : Nat) (x : Int) : St := { S with objs := S.objs.set i ((rowAt S.objs i).set f x) }
def St.setNum (S : St) (i : Nat) (x : Int) : St := { S with num := upd S.num i x }
def createS (S : St) (e : List Int) : Except Int St :=
  if 400 ≤ S.objs.length then .error 5 else .ok { S with objs := S.objs ++ [evMade e], list := upd S.list 10 (S.list 10 ++ [(S.objs.length : Int)]) }
def removeS (S : St) (e : List Int) : Except Int St :=
  if 0 < S.objs.length ∧ 0 < (S.list 10).length ∧ gt (S.list 10) ((S.list 10).length - 1) = (S.objs.length : Int) - 1 ∧ rowAt S.objs (S.objs.length - 1) = evMade e
  then .ok { S with objs := S.objs.take (S.objs.length - 1), list := upd S.list 10 ((S.list 10).take ((S.list 10).length - 1)) } else .error 20
/-- Where an object goes: the list without it, or another one. -/
def moveTo (S : St) (b c d : Nat) : List Int := if d = b then (S.list b).eraseIdx c else S.list d
def movedS (S : St) (a b c d e : Nat) : St :=
  { objs := S.objs.set a ((rowAt S.objs a).set 3 d), list := upd (upd S.list b ((S.list b).eraseIdx c)) d ((moveTo S b c d).insertIdx e (a : Int)), num := S.num }
def moveS (S : St) (a b c d e : Nat) : Except Int St :=
  if S.objs.length ≤ a then .error 4
  else if ¬ (c < (S.list b).length ∧ gt (S.list b) c = a) then .error 20
  else if (moveTo S b c d).length < e then .error 1
  else .ok (movedS S a b c d e)
/-- The state behind an event, or an error's number. -/
def doEv (S : St) (e : List Int) : Except Int St :=
  if evCheck e ≠ 0 then .error (evCheck e)
  else if gt e 0 = 0 then createS S e
  else if gt e 0 = 5 then removeS S e
  else if gt e 0 = 1 then moveS S (gt e 1).toNat (gt e 2).toNat (gt e 3).toNat (gt e 4).toNat (gt e 5).toNat
  else if gt e 0 = 2 then
    if (S.objs.length : Int) ≤ gt e 1 then .error 4
    else if gt (rowAt S.objs (gt e 1).toNat) (gt e 2).toNat ≠ gt e 3 then .error 20
    else .ok (S.setObj (gt e 1).toNat (gt e 2).toNat (gt e 4))
  else
    let at' := if gt e 0 = 3 then (gt e 1).toNat * 9 + (gt e 2).toNat else 18 + (gt e 2).toNat
    if S.num at' ≠ gt e 3 then .error 20 else .ok (S.setNum at' (gt e 4))

/-- Is a state right? -/
structure Right (S : St) : Prop where
  many : S.objs.length ≤ 400
  ranges : rangesB S = true
  zon : Zon S
  formed : ∀ i, i < S.objs.length → formedB (rowAt S.objs i) = true
theorem rowAt_in (l : List (List Int)) (i : Nat) (h : i < l.length) : rowAt l i ∈ l := by
  rw [rowAt, List.getD, List.getElem?_eq_getElem h]; exact List.getElem_mem h
theorem checkN_zero (S : St) : checkN S = 0 ↔ Right S := by
  unfold checkN
  constructor
  · intro h
    by_cases c1 : 400 < S.objs.length
    · rw [if_pos c1] at h; cases h
    rw [if_neg c1] at h
    by_cases c2 : rangesB S = false
    · rw [if_pos c2] at h; cases h
    rw [if_neg c2] at h
    by_cases c3 : zonesB S = false
    · rw [if_pos c3] at h; cases h
    rw [if_neg c3] at h
    by_cases c4 : noForm S = true
    · rw [if_pos c4] at h; cases h
    refine ⟨by omega, by simpa using c2, (zonesB_iff S).1 (by simpa using c3), fun i hi => ?_⟩
    unfold noForm at c4
    rw [Bool.not_eq_true, List.any_eq_false] at c4
    simpa using c4 _ (rowAt_in _ i hi)
  · intro h
    rw [if_neg (by have := h.many; omega), if_neg (by simp [h.ranges]), if_neg (by simp [(zonesB_iff S).2 h.zon]), if_neg]
    unfold noForm
    rw [Bool.not_eq_true, List.any_eq_false]
    intro r hr
    obtain ⟨i, hi, rfl⟩ := rowAt_mem hr
    simp [h.formed i hi]

/-! ### Moving -/
theorem cnt_upd (S T : St) (z : Nat) (l : List Int) (hT : T.list = upd S.list z l) (x : Int) : ∀ k, cntTo T x k + (if z < k then (S.list z).count x else 0) = cntTo S x k + if z < k then l.count x else 0
  | 0 => rfl
  | k + 1 => by
    have ih := cnt_upd S T z l hT x k
    rw [cntTo_succ, cntTo_succ, hT]
    by_cases e : z = k
    · subst e
      rw [if_neg (by omega), if_neg (by omega)] at ih
      rw [if_pos (by omega), if_pos (by omega), upd_same]; omega
    · rw [upd_ne _ _ _ _ (Ne.symm e)]
      by_cases h : z < k
      · rw [if_pos h, if_pos h] at ih; rw [if_pos (by omega), if_pos (by omega)]; omega
      · rw [if_neg h, if_neg h] at ih; rw [if_neg (by omega), if_neg (by omega)]; omega
theorem count_erase (l : List Int) (c : Nat) (x : Int) (hc : c < l.length) : (l.eraseIdx c).count x + (if gt l c = x then 1 else 0) = l.count x := by
  induction l generalizing c with
  | nil => simp at hc
  | cons y l ih =>
    cases c with
    | zero =>
      rw [List.eraseIdx_zero, List.tail_cons, gt_cons_zero, List.count_cons]
      by_cases e : y = x <;> simp [e]
    | succ c =>
      have := ih c (by simpa using hc)
      rw [List.eraseIdx_cons_succ, List.count_cons, List.count_cons, gt_cons_succ]
      omega
theorem count_insert (l : List Int) (e : Nat) (a x : Int) (he : e ≤ l.length) : (l.insertIdx e a).count x = l.count x + if a = x then 1 else 0 := by
  induction l generalizing e with
  | nil =>
    have : e = 0 := by simpa using he
    subst this
    simp [List.count_cons]
  | cons y l ih =>
    cases e with
    | zero => simp [List.count_cons]
    | succ e =>
      have := ih e (by simpa using he)
      rw [List.insertIdx_succ_cons, List.count_cons, List.count_cons, this]; omega
/-- Behind a move each object stands in as many lists as before. -/
theorem cnt_moved (S : St) (a b c d e : Nat) (hb : b < 11) (hd : d < 11) (hc : c < (S.list b).length) (ha : gt (S.list b) c = a) (he : e ≤ (moveTo S b c d).length) (x : Int) :
    cntTo (movedS S a b c d e) x 11 = cntTo S x 11 := by
  have h1 := cnt_upd S { S with list := upd S.list b ((S.list b).eraseIdx c) } b _ rfl x 11
  have h2 := cnt_upd { S with list := upd S.list b ((S.list b).eraseIdx c) } (movedS S a b c d e) d _ rfl x 11
  rw [if_pos hb, if_pos hb] at h1
  rw [if_pos hd, if_pos hd, count_insert _ _ _ _ he] at h2
  have h3 := count_erase (S.list b) c x hc
  rw [ha] at h3
  have h4 : (upd S.list b ((S.list b).eraseIdx c) d) = moveTo S b c d := by
    unfold moveTo upd
    by_cases e : d = b <;> simp [e]
  simp only [h4] at h2
  omega
theorem cnt_two (S : St) (x : Int) (y z : Nat) (hyz : y < z) : ∀ k, z < k → x ∈ S.list y → x ∈ S.list z → 2 ≤ cntTo S x k
  | 0, h, _, _ => by omega
  | k + 1, h, hy, hz => by
    rw [cntTo_succ]
    by_cases e : z = k
    · subst e
      have h1 := List.count_pos_iff.2 hz
      have h2 : ∀ m, y < m → 0 < cntTo S x m := fun m => by
        induction m with
        | zero => intro h; omega
        | succ m ih =>
          intro h
          rw [cntTo_succ]
          by_cases e : y = m
          · subst e; have := List.count_pos_iff.2 hy; omega
          · have := ih (by omega); omega
      have := h2 z hyz
      omega
    · have := cnt_two S x y z hyz k (by omega) hy hz
      omega
theorem Zon.one {S : St} (h : Zon S) {x : Int} {y z : Nat} (hy : y < 11) (hz : z < 11) (h1 : x ∈ S.list y) (h2 : x ∈ S.list z) : y = z := by
  obtain ⟨a, b, _⟩ := h.ok y hy x h1
  have h3 := h.once x.toNat (by omega)
  rw [Int.toNat_of_nonneg a] at h3
  rcases Nat.lt_trichotomy y z with h | h | h
  · have := cnt_two S x y z h 11 hz h1 h2; omega
  · exact h
  · have := cnt_two S x z y h 11 hy h2 h1; omega
theorem rowAt_set (l : List (List Int)) (i j : Nat) (r : List Int) (h : i < l.length) : rowAt (l.set i r) j = if i = j then r else rowAt l j := by
  unfold rowAt List.getD
  rw [List.getElem?_set]
  by_cases e : i = j
  · subst e; rw [if_pos rfl, if_pos h, if_pos rfl]; rfl
  · rw [if_neg e, if_neg e]
theorem stands_set3 (o : List Int) (h : o.length = 18) (x : Int) (z : Int) : standsB (o.set 3 x) z = standsB o z := by
  unfold standsB
  rw [gt_set _ _ _ _ (by omega), gt_set _ _ _ _ (by omega)]; rfl
theorem Zon.moved {S : St} (h : Zon S) (hw : ∀ i, i < S.objs.length → (rowAt S.objs i).length = 18) (a b c d e : Nat) (hA : a < S.objs.length) (hb : b < 11) (hd : d < 11) (hc : c < (S.list b).length) (ha : gt (S.list b) c = a) (he : e ≤ (moveTo S b c d).length)
    (hs : standsB (rowAt S.objs a) d = true) : Zon (movedS S a b c d e) := by
  have hcnt := cnt_moved S a b c d e hb hd hc ha he
  have hlen : (movedS S a b c d e).objs.length = S.objs.length := by simp [movedS]
  have hmem : (a : Int) ∈ (movedS S a b c d e).list d := by
    show (a : Int) ∈ upd _ d _ d
    rw [upd_same, List.mem_insertIdx he]; exact Or.inl rfl
  have hrow : ∀ j, rowAt (movedS S a b c d e).objs j = if a = j then (rowAt S.objs a).set 3 d else rowAt S.objs j := fun j => rowAt_set _ _ _ _ hA
  have hold : ∀ z, z < 11 → ∀ x ∈ (movedS S a b c d e).list z, x = a ∨ x ∈ S.list z := by
    intro z hz x hx
    have hx : x ∈ upd (upd S.list b ((S.list b).eraseIdx c)) d ((moveTo S b c d).insertIdx e (a : Int)) z := hx
    by_cases e1 : z = d
    · subst e1
      rw [upd_same, List.mem_insertIdx he] at hx
      rcases hx with hx | hx
      · exact Or.inl hx
      · right
        unfold moveTo at hx
        by_cases e2 : z = b
        · subst e2; rw [if_pos rfl] at hx; exact List.mem_of_mem_eraseIdx hx
        · rw [if_neg e2] at hx; exact hx
    · rw [upd_ne _ _ _ _ e1] at hx
      right
      by_cases e2 : z = b
      · subst e2; rw [upd_same] at hx; exact List.mem_of_mem_eraseIdx hx
      · rw [upd_ne _ _ _ _ e2] at hx; exact hx
  refine ⟨fun z hz x hx => ?_, fun id hid => by rw [hcnt]; exact h.once id (by omega)⟩
  by_cases e1 : x = a
  · subst e1
    have hzd : z = d := by
      have h3 := h.once a hA
      rw [← hcnt] at h3
      rcases Nat.lt_trichotomy z d with h | h | h
      · have := cnt_two _ _ z d h 11 hd hx hmem; omega
      · exact h
      · have := cnt_two _ _ d z h 11 hz hmem hx; omega
    subst hzd
    refine ⟨by omega, by omega, ?_, ?_⟩
    · rw [Int.toNat_natCast, hrow, if_pos rfl, gt_set _ _ _ _ (by rw [hw a hA]; omega)]; simp
    · rw [Int.toNat_natCast, hrow, if_pos rfl, stands_set3 _ (hw a hA)]; exact hs
  · rcases hold z hz x hx with h1 | h1
    · exact absurd h1 e1
    obtain ⟨p, q, r, s⟩ := h.ok z hz x h1
    refine ⟨p, by omega, ?_, ?_⟩
    · rw [hrow, if_neg (by omega)]; exact r
    · rw [hrow, if_neg (by omega)]; exact s
/-- All numbers that are within their bounds, but for one. -/
theorem okTo_set (bs o : List Int) (n f : Nat) (x : Int) (h : okTo bs o n = true) (hf : f < o.length) (hx : inB x (gt bs (f * 2)) (gt bs (f * 2 + 1)) = true) : okTo bs (o.set f x) n = true := by
  unfold okTo at *
  rw [List.all_eq_true] at *
  intro i hi
  rw [gt_set _ _ _ _ hf]
  by_cases e : f = i
  · subst e; rw [if_pos rfl]; exact hx
  · rw [if_neg e]; exact h i hi
theorem rangesB_iff (S : St) : rangesB S = true ↔ (∀ i, i < S.objs.length → okTo (objBounds S.objs.length) (rowAt S.objs i) 18 = true) ∧ plsOK S 2 = true ∧ okTo gmBounds (numsL S.num 18 7) 7 = true := by
  unfold rangesB objsOK
  rw [Bool.and_eq_true, Bool.and_eq_true, List.all_eq_true, and_assoc]
  constructor
  · rintro ⟨a, b, c⟩; exact ⟨fun i hi => a i (List.mem_range.2 hi), b, c⟩
  · rintro ⟨a, b, c⟩; exact ⟨fun i hi => a i (List.mem_range.1 hi), b, c⟩
theorem ranges_setObj {S : St} (h : rangesB S = true) (hw : ∀ i, i < S.objs.length → (rowAt S.objs i).length = 18) (T : St) (a f : Nat) (x : Int) (ha : a < S.objs.length) (hf : f < 18) (ho : T.objs = S.objs.set a ((rowAt S.objs a).set f x)) (hn : T.num = S.num)
    (hx : inB x (gt (objBounds S.objs.length) (f * 2)) (gt (objBounds S.objs.length) (f * 2 + 1)) = true) : rangesB T = true := by
  rw [rangesB_iff] at *
  have hl : T.objs.length = S.objs.length := by rw [ho]; simp
  refine ⟨fun i hi => ?_, ?_, by rw [hn]; exact h.2.2⟩
  · rw [hl, ho, rowAt_set _ _ _ _ ha]
    by_cases e : a = i
    · rw [if_pos e]; exact okTo_set _ _ _ _ _ (h.1 a ha) (by rw [hw a ha]; exact hf) hx
    · rw [if_neg e]; exact h.1 i (by omega)
  · have := h.2.1
    unfold plsOK at *
    rw [hn]; exact this
/-- A right state stays right behind a move. -/
theorem Right.moved {S : St} (h : Right S) (hw : ∀ i, i < S.objs.length → (rowAt S.objs i).length = 18) (a b c d e : Nat) (hA : a < S.objs.length) (hb : b < 11) (hd : d < 11) (hc : c < (S.list b).length) (ha : gt (S.list b) c = a) (he : e ≤ (moveTo S b c d).length)
    (hs : standsB (rowAt S.objs a) d = true) (hf : formedB ((rowAt S.objs a).set 3 d) = true) : Right (movedS S a b c d e) := by
  have hlen : (movedS S a b c d e).objs.length = S.objs.length := by simp [movedS]
  refine ⟨by rw [hlen]; exact h.many, ranges_setObj h.ranges hw _ a 3 d hA (by omega) rfl rfl ?_, h.zon.moved hw a b c d e hA hb hd hc ha he hs, fun i hi => ?_⟩
  · have : inB (d : Int) 0 10 = true := by simp [inB]; omega
    exact this
  · show formedB (rowAt (S.objs.set a _) i) = true
    rw [rowAt_set _ _ _ _ hA]
    by_cases e : a = i
    · rw [if_pos e]; exact hf
    · rw [if_neg e]; exact h.formed i (by omega)
end Go.Proofs.YtibmnofpoenonaaGreatDoor
namespace Go.Proofs.YtibmnofpoenonaaGreatDoor
open Go Go.RowKit

@[go_sem ↓] theorem load_Event (ρ : Operand → Value) (dst : Option Tmp) (x : Operand) (ty : TypeId) (pos : String) (after : Array Edge) (guard : Option (Nat × Bool)) :
    execOp ρ { dst, op := .load 84 x, type := ty, pos, after, guard } = ldRow 84 (ρ x) := rfl
@[go_sem ↓] theorem store_Event (ρ : Operand → Value) (dst : Option Tmp) (x y : Operand) (ty : TypeId) (pos : String) (after : Array Edge) (guard : Option (Nat × Bool)) :
    execOp ρ { dst, op := .store 84 x y, type := ty, pos, after, guard } = stRow 84 (ρ x) (ρ y) := rfl
@[go_sem] theorem run_load_Event (w : World) (b o : Nat) (h : o + 6 ≤ (w.blk b).size) : (ldRow 84 (.pointer (some ⟨b, o, none⟩))).run Tryz.prog w = .ok (.value (.agg (sub (w.blk b) o 6))) w :=
  run_ldSub w b o 84 6 (by kernel_rfl) (by kernel_rfl) h (by omega)
@[go_sem] theorem run_store_Event (w : World) (b : Nat) (cs : Array Value) (h : (w.blk b).size = 6) (hc : cs.size = 6) (h1 : oneCells cs = true) (hf : w.free b = true) : (stRow 84 (.pointer (some ⟨b, 0, none⟩)) (.agg cs)).run Tryz.prog w = .ok .skip (w.setRow b cs) :=
  run_stRow w b 84 6 _ (by kernel_rfl) h hc (by omega) hf h1

@[go_sem] theorem errV_1 : errV 1 = .iface 62 (.int .i64 1) := rfl
@[go_sem] theorem errV_2 : errV 2 = .iface 62 (.int .i64 2) := rfl
@[go_sem] theorem errV_3 : errV 3 = .iface 62 (.int .i64 3) := rfl
@[go_sem] theorem errV_4 : errV 4 = .iface 62 (.int .i64 4) := rfl
@[go_sem] theorem errV_5 : errV 5 = .iface 62 (.int .i64 5) := rfl
@[go_sem] theorem errV_6 : errV 6 = .iface 62 (.int .i64 6) := rfl
@[go_sem] theorem errV_7 : errV 7 = .iface 62 (.int .i64 7) := rfl
@[go_sem] theorem errV_8 : errV 8 = .iface 62 (.int .i64 8) := rfl
@[go_sem] theorem errV_9 : errV 9 = .iface 62 (.int .i64 9) := rfl
@[go_sem] theorem errV_10 : errV 10 = .iface 62 (.int .i64 10) := rfl
@[go_sem] theorem errV_11 : errV 11 = .iface 62 (.int .i64 11) := rfl
@[go_sem] theorem errV_12 : errV 12 = .iface 62 (.int .i64 12) := rfl
@[go_sem] theorem errV_13 : errV 13 = .iface 62 (.int .i64 13) := rfl
@[go_sem] theorem errV_14 : errV 14 = .iface 62 (.int .i64 14) := rfl
@[go_sem] theorem errV_15 : errV 15 = .iface 62 (.int .i64 15) := rfl
@[go_sem] theorem errV_16 : errV 16 = .iface 62 (.int .i64 16) := rfl
@[go_sem] theorem errV_17 : errV 17 = .iface 62 (.int .i64 17) := rfl
@[go_sem] theorem errV_18 : errV 18 = .iface 62 (.int .i64 18) := rfl
@[go_sem] theorem errV_19 : errV 19 = .iface 62 (.int .i64 19) := rfl
@[go_sem] theorem errV_20 : errV 20 = .iface 62 (.int .i64 20) := rfl
@[go_sem] theorem errV_0 : errV 0 = .nilIface := rfl
theorem evin_any (n m : Int) (w : World) : Calls Tryz.prog 78 #[.int .i64 n, .int .i64 m] w fun e w' => e = .returned (.bool (inR n m)) ∧ w' = w := by
  go_enter Tryz.func78, Tryz.ntmps78
  go_wp2_with fail
  all_goals (go_ret; exact ⟨ret_bool (by (go_light; first | rfl | (simp [inR]; done) | (simp_all [inR]; done) | (simp [inR]; omega) | (simp_all [inR]; omega) | (grind [inR]))), rfl⟩)
theorem evMakes_any (e : List Int) (he : e.length = 6) (w : World) : Calls Tryz.prog 104 #[.agg (cellsOf e)] w fun x w' => x = .returned (.bool (evMakes e)) ∧ Grow w w' := by
  go_enter Tryz.func104, Tryz.ntmps104
  go_wp2_with fail
  all_goals (go_ret; exact ⟨ret_bool (by (go_light; first | rfl | (simp [evMakes]; done) | (simp_all [evMakes]; done) | (simp [evMakes]; omega) | (simp_all [evMakes]; omega) | (grind [evMakes]))), (by repeat (first | exact Grow.refl _ | refine Grow.andr ?_ | refine Grow.plus ?_ _ | refine Grow.alloc ?_ _ | refine Grow.drew ?_ | refine Grow.drewN ?_ _))⟩)
set_option maxRecDepth 100000 in
theorem evSpare_any (e : List Int) (he : e.length = 6) (w : World) : Calls Tryz.prog 79 #[.agg (cellsOf e)] w fun x w' => x = .returned (.bool (evSpare e)) ∧ Grow w w' := by
  go_enter Tryz.func79, Tryz.ntmps79
  go_wp2_with (go_at_call 104; refine (evMakes_any e he _).mono ?_; rintro e' w' ⟨rfl, nx, rfl⟩)
  all_goals (go_ret; exact ⟨ret_bool (by (go_light; first | rfl | (simp [evSpare]; done) | (simp_all [evSpare]; done) | (simp [evSpare]; omega) | (simp_all [evSpare]; omega) | (grind [evSpare]))), (by repeat (first | exact Grow.refl _ | refine Grow.andr ?_ | refine Grow.plus ?_ _ | refine Grow.alloc ?_ _ | refine Grow.drew ?_ | refine Grow.drewN ?_ _))⟩)
set_option maxRecDepth 100000 in
set_option maxHeartbeats 2000000 in
theorem evRanges_any (e : List Int) (he : e.length = 6) (w : World) : Calls Tryz.prog 80 #[.agg (cellsOf e)] w fun x w' => x = .returned (.bool (evRanges e)) ∧ Grow w w' := by
  go_enter Tryz.func80, Tryz.ntmps80
  go_wp2_with (go_at_call 78; refine (evin_any _ _ _).mono ?_; rintro e' w' ⟨rfl, hww⟩; subst w')
  all_goals (go_ret; exact ⟨ret_bool (by (go_light; first | rfl | (simp [evRanges, evSmall, inB]; done) | (simp_all [evRanges, evSmall, inB]; done) | (simp [evRanges, evSmall, inB]; omega) | (simp_all [evRanges, evSmall, inB]; omega) | (grind [evRanges, evSmall, inB]))), (by repeat (first | exact Grow.refl _ | refine Grow.andr ?_ | refine Grow.plus ?_ _ | refine Grow.alloc ?_ _ | refine Grow.drew ?_ | refine Grow.drewN ?_ _))⟩)
set_option maxRecDepth 100000 in
set_option maxHeartbeats 2000000 in
theorem evCheck_any (e : List Int) (he : e.length = 6) (w : World) : Calls Tryz.prog 56 #[.agg (cellsOf e)] w fun x w' => x = .returned (errV (evCheck e)) ∧ Grow w w' := by
  go_enter Tryz.func56, Tryz.ntmps56
  go_wp2_with (first | (go_at_call 78; refine (evin_any _ _ _).mono ?_; rintro e' w' ⟨rfl, hww⟩; subst w') | (go_at_call 79; refine (evSpare_any e he _).mono ?_; rintro e' w' ⟨rfl, nx, rfl⟩) | (go_at_call 80; refine (evRanges_any e he _).mono ?_; rintro e' w' ⟨rfl, nx, rfl⟩))
  all_goals (go_ret; exact ⟨by (go_light; first | rfl | (simp [evCheck, errV]; done) | (simp_all [evCheck, errV]; done) | (simp [evCheck, errV]; omega) | (simp_all [evCheck, errV]; omega) | (grind [evCheck, errV])), (by repeat (first | exact Grow.refl _ | refine Grow.andr ?_ | refine Grow.plus ?_ _ | refine Grow.alloc ?_ _ | refine Grow.drew ?_ | refine Grow.drewN ?_ _))⟩)
end Go.Proofs.YtibmnofpoenonaaGreatDoor
