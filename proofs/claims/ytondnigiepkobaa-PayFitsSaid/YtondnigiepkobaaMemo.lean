/-
  The memory of counted ways: a map whose keys are rows of numbers; and blocks of the caller that are written over.
-/
import Derived.Test.YtondnigiepkobaaRefWays
import Derived.Maps.Own
import Derived.DeepKeys4
namespace Go.Proofs.Ytondnigiepkobaa
open Go Go.RowKit
open Go.WideElems (Fit)
open Go.ChangeMaps (setBlock)

/-! ### A block written over -/
@[go_sem] theorem setBlock_size (w : World) (b : Nat) (o : Obj) : (setBlock w b o).heap.size = w.heap.size := by simp [setBlock]
@[go_sem] theorem setBlock_drew (w : World) (b : Nat) (o : Obj) : setBlock w.drew b o = (setBlock w b o).drew := rfl
@[go_sem] theorem setBlock_two (w : World) (b : Nat) (o p : Obj) : setBlock (setBlock w b o) b p = setBlock w b p := by
  simp [setBlock]
def setBlockFar (w : World) (b : Nat) (o : Obj) : World := setBlock w b o
@[go_sem] theorem setBlock_alloc (w : World) (b : Nat) (o p : Obj) : setBlock (w.alloc p) b o = if b < w.heap.size then (setBlock w b o).alloc p else setBlockFar (w.alloc p) b o := by
  split
  · rename_i h
    unfold setBlock World.alloc
    congr 1
    apply Array.ext_getElem?
    intro k
    simp only [Array.getElem?_push, Array.getElem?_setIfInBounds, Array.size_push, Array.size_setIfInBounds]
    by_cases hk : b = k
    · subst hk; simp [h, show b < w.heap.size + 1 by omega, show ¬ b = w.heap.size by omega]
    · simp [hk]
  · rfl
@[go_sem] theorem setBlock_plus (w : World) (b : Nat) (o : Obj) (x : Ext) : setBlock (w.plus x) b o = if b < w.heap.size then (setBlock w b o).plus x else setBlockFar (w.plus x) b o := by
  split
  · rename_i h
    unfold setBlock World.plus
    congr 1
    apply Array.ext_getElem?
    intro k
    simp only [Array.getElem?_append, Array.getElem?_setIfInBounds, Array.size_append, Array.size_setIfInBounds]
    by_cases hk : b = k
    · subst hk; simp [h]; omega
    · simp [hk]
  · rfl
theorem setBlock_same (w : World) (b : Nat) (o : Obj) (h : w.heap[b]? = some o) : setBlock w b o = w := by
  unfold setBlock
  congr 1
  apply Array.ext_getElem?
  intro k
  rw [Array.getElem?_setIfInBounds]
  have hlt : b < w.heap.size := (Array.getElem?_eq_some_iff.1 h).1
  by_cases hk : b = k
  · subst hk; rw [if_pos rfl, if_pos hlt, h]
  · simp [hk]
theorem setBlock_get (w : World) (b : Nat) (o : Obj) (h : b < w.heap.size) : (setBlock w b o).heap[b]? = some o := by
  simp [setBlock, h]
theorem heap_alloc_lt (w : World) (b : Nat) (p : Obj) (h : b < w.heap.size) : (w.alloc p).heap[b]? = w.heap[b]? := by
  simp only [World.alloc, Array.getElem?_push]
  rw [if_neg (by omega)]
theorem heap_alloc_eq (w : World) (p : Obj) : (w.alloc p).heap[w.heap.size]? = some p := by
  rw [heap_alloc_new]

/-! ### What the memory holds -/
/-- How many entries there are at most when so many places are left. -/
def room : Nat → Nat
  | 0 => 0
  | d + 1 => 1 + 61 * room d

structure Memo (es : Array MapEntry) (clock n : Nat) : Prop where
  fit : Fit (H := Unit) Try.prog 52 (plainElem Try.prog 3) es clock
  size : es.size ≤ n
  vals : ∀ x ∈ es.toList, ∃ (r : List Int) (at' : Nat) (left : Int), r.length = 6 ∧ x.key = .agg (cellsOf (r ++ [(at' : Int), left])) ∧ x.val = I (waysL (r.drop at') left)

theorem sought_under : Try.prog.underlying 49 = some (.map 52 3) := Try.underlying49
theorem law_sought : Maps.Keyed Try.prog 52 :=
  .of_law (deep_law_laid (by kernel_rfl) (m := 3) (by omega) (of_decide_eq_true (by kernel_rfl)) (by kernel_rfl) (by rw [Try.underlying52]))
theorem wf_i64 {n : Int} (h : -9223372036854775808 ≤ n ∧ n ≤ 9223372036854775807) : (Lit.int .i64 n).wf = true := by
  simpa [Lit.wf, IntKind.min, IntKind.max, IntKind.signed, IntKind.bits] using h
theorem lits_int (d : Nat) (n : Int) (h : -9223372036854775808 ≤ n ∧ n ≤ 9223372036854775807) : Try.prog.keyLits (d + 1) 3 [.int .i64 n] = some [.int .i64 n] := by
  simp only [Program.keyLits, Try.underlying3]
  rw [if_pos ⟨trivial, wf_i64 h⟩]
theorem key_sought (a b c d e f g h : Int) (ha : -9223372036854775808 ≤ a ∧ a ≤ 9223372036854775807) (hb : -9223372036854775808 ≤ b ∧ b ≤ 9223372036854775807) (hc : -9223372036854775808 ≤ c ∧ c ≤ 9223372036854775807) (hd : -9223372036854775808 ≤ d ∧ d ≤ 9223372036854775807)
    (he : -9223372036854775808 ≤ e ∧ e ≤ 9223372036854775807) (hf : -9223372036854775808 ≤ f ∧ f ≤ 9223372036854775807) (hg : -9223372036854775808 ≤ g ∧ g ≤ 9223372036854775807) (hh : -9223372036854775808 ≤ h ∧ h ≤ 9223372036854775807) :
    ∃ l, keyOf Try.prog 52 (.agg (cellsOf [a, b, c, d, e, f, g, h])) = some l := by
  have hkt : Try.prog.keyType 52 = true := by kernel_rfl
  have c1 : Try.prog.cellsOf 52 = 8 := by kernel_rfl
  have c2 : Try.prog.cellsOf 23 = 6 := by kernel_rfl
  have c3 : Try.prog.cellsOf 3 = 1 := by kernel_rfl
  obtain ⟨m, hm⟩ : ∃ m, Try.prog.types.size + 1 = m + 1 + 1 + 1 := ⟨Try.prog.types.size - 2, by have : 2 ≤ Try.prog.types.size := of_decide_eq_true (by kernel_rfl); omega⟩
  unfold keyOf
  simp only [Try.underlying52]
  rw [if_pos (by rw [hkt]; simp [Value.formed, Try.underlying52, c1, cellsOf]), hm]
  have hi := fun (n : Int) h => lits_int (m + 1) n h
  have hj := fun (n : Int) h => lits_int m n h
  have hr : Try.prog.keyLits (m + 1 + 1) 23 [I a, I b, I c, I d, I e, I f] = some [.int .i64 a, .int .i64 b, .int .i64 c, .int .i64 d, .int .i64 e, .int .i64 f] := by
    unfold Program.keyLits
    simp only [Try.underlying23]
    rw [if_pos (by rw [c2]; rfl), show List.range 6 = [0, 1, 2, 3, 4, 5] from rfl]
    simp [c3, hj, ha, hb, hc, hd, he, hf]
  unfold Program.keyLits
  simp only [Try.underlying52, Value.cells, cellsOf]
  rw [if_pos ⟨by rw [c1]; rfl, by kernel_rfl⟩]
  simp [c2, c3, hr, hi, hg, hh]

theorem key_any {s : List Int} (hs : s.length = 8) (hb : ∀ i, -9223372036854775808 ≤ gt s i ∧ gt s i ≤ 9223372036854775807) : ∃ l, keyOf Try.prog 52 (.agg (cellsOf s)) = some l := by
  match s, hs with
  | [a, b, c, d, e, f, g, h], _ => exact key_sought a b c d e f g h (hb 0) (hb 1) (hb 2) (hb 3) (hb 4) (hb 5) (hb 6) (hb 7)

theorem memo_start : Memo #[] 0 0 := ⟨⟨by simp, by simp [MapKept.Stamped], by simp⟩, by simp, by simp⟩
theorem Memo.mono {es : Array MapEntry} {clock n m : Nat} (h : Memo es clock n) (hn : n ≤ m) : Memo es clock m := ⟨h.fit, by have := h.size; omega, h.vals⟩

theorem cells_inj {a b : List Int} (h : Value.agg (cellsOf a) = .agg (cellsOf b)) : a = b := by
  have h' : (a.map I).toArray.toList = (b.map I).toArray.toList := by
    simp only [Value.agg.injEq, cellsOf] at h
    rw [h]
  exact List.map_inj_right (fun x y h => by simpa using h) |>.1 h'

/-- What the memory tells of a key. -/
theorem memo_look {es : Array MapEntry} {clock n b : Nat} {w : World} {r : List Int} {at' : Nat} {left : Int} (M : Memo es clock n) (hb : w.heap[b]? = some (.map es clock)) (hr : r.length = 6)
    (hg : ∀ i, -9223372036854775808 ≤ gt (r ++ [(at' : Int), left]) i ∧ gt (r ++ [(at' : Int), left]) i ≤ 9223372036854775807) :
    (Instr.lookup 49 (.map (some b)) (.agg (cellsOf (r ++ [(at' : Int), left]))) true).run Try.prog w = .ok (.tuple #[.int .i64 0, .bool false]) w ∨
    (Instr.lookup 49 (.map (some b)) (.agg (cellsOf (r ++ [(at' : Int), left]))) true).run Try.prog w = .ok (.tuple #[.int .i64 (waysL (r.drop at') left), .bool true]) w := by
  obtain ⟨l, hl⟩ := key_any (by simp [hr]) hg
  rcases Maps.fit_look true law_sought sought_under (z := .int .i64 0) (by kernel_rfl) hb M.fit hl with ⟨h, _⟩ | ⟨e0, y, hm, hk, h, _⟩
  · exact .inl h
  · obtain ⟨r', a', left', hr', h1, h2⟩ := M.vals e0 hm
    rw [h1] at hk
    have e := cells_inj hk
    obtain ⟨e1, e2⟩ := List.append_inj e (by omega)
    simp only [List.cons.injEq, and_true, Int.natCast_inj] at e2
    obtain ⟨rfl, rfl⟩ := e2
    subst e1
    rw [h2] at h
    exact .inr h

theorem len_put {H : Type} (k : Lit) (d : DataW H) (l : List (Lit × DataW H)) : (ChangeMaps.putKey k d l).length ≤ l.length + 1 := by
  unfold ChangeMaps.putKey
  rw [(WideShapes.insert_perm _ _).length_eq, List.length_cons]
  have := List.length_filter_le (ChangeMaps.notKey k) l
  omega

/-- One more is kept. -/
theorem memo_store {es : Array MapEntry} {clock n b : Nat} {w : World} {r : List Int} {at' : Nat} {left : Int} (M : Memo es clock n) (hn : n < maxLen) (hb : w.heap[b]? = some (.map es clock)) (hr : r.length = 6)
    (hg : ∀ i, -9223372036854775808 ≤ gt (r ++ [(at' : Int), left]) i ∧ gt (r ++ [(at' : Int), left]) i ≤ 9223372036854775807) (hw : -9223372036854775808 ≤ waysL (r.drop at') left ∧ waysL (r.drop at') left ≤ 9223372036854775807) :
    ∃ es' clock', (Instr.mapUpdate 49 (.map (some b)) (.agg (cellsOf (r ++ [(at' : Int), left]))) (.int .i64 (waysL (r.drop at') left))).run Try.prog w = .ok () (setBlock w b (.map es' clock')) ∧ Memo es' clock' (n + 1) := by
  obtain ⟨l, hl⟩ := key_any (by simp [hr]) hg
  have hs := M.size
  obtain ⟨es', clock', h1, F, h3, _, _, h6⟩ := Maps.fit_store (R' := plainElem (H := Unit) Try.prog 3) (w := w) law_sought sought_under hb M.fit (by omega) (fun _ _ _ _ h => h) hl (plainElem_int Try.underlying3 (wf_i64 hw))
  refine ⟨es', clock', h1, F, ?_, fun x hx => ?_⟩
  · have e := congrArg List.length h3
    rw [(WideShapes.sorted_perm _).length_eq, List.length_map] at e
    have p := len_put l (DataW.lit (H := Unit) (.int .i64 (waysL (r.drop at') left))) ((es.toList.map (WideElems.rg Try.prog 52 (plainElem Try.prog 3))).foldr DataW.insert [])
    rw [(WideShapes.sorted_perm _).length_eq, List.length_map] at p
    simp only [Array.length_toList] at e p
    omega
  · rcases h6 x hx with ⟨h, _⟩ | ⟨h, h'⟩
    · exact M.vals x h
    · exact ⟨r, at', left, hr, h, h'⟩
end Go.Proofs.Ytondnigiepkobaa
