/-
  A law's row out of its walk: the call returns true, and of what was there nothing has turned.
-/
import Derived.Test.YtondnigiepkobaaPlus
import Derived.Test.YtondnigiepkobaaRows
import Derived.ProofKit
import Derived.OpenShut
import Derived.Carry
namespace Go.Proofs.Ytondnigiepkobaa
open Go Go.RowKit Go.ChangeShapes Go.WideShapes Go.ChangeAt

theorem own_Try : ownKnob Try.prog.godebug = none := by kernel_rfl
theorem laidOut_Try : laidOutB Try.prog = true := by kernel_rfl

section
variable {H : Type} {enc : TypeId × Value → H} {P : Program}

theorem trodAll_below (hl : laidOutB P = true) {W W' : World} (hb : Below W.heap.size W W') : ∀ (ts : List TypeId) (vs : List Value) (ds : List (DataW H)) (ps : List MemPlace),
    (∀ t, t ∈ ts → P.readableRec t = true ∧ t < P.types.size) → (∀ x, x ∈ ps → x.block < W.heap.size) →
    DataW.TrodAll enc P W 0 (fun _ => true) true ts vs ds ps → DataW.TrodAll enc P W' 0 (fun b => decide (b < W.heap.size)) true ts vs ds ps
  | [], [], [], _, _, _, h => h
  | [], [], _ :: _, _, _, _, h => h.elim
  | [], _ :: _, _, _, _, _, h => h.elim
  | _ :: _, [], _, _, _, _, h => h.elim
  | _ :: _, _ :: _, [], _, _, _, h => h.elim
  | t :: ts, v :: vs, d :: ds, ps, hr, hlt, h => by
    obtain ⟨p, q, h1, h2, rfl⟩ := h
    exact ⟨p, q, Below.trod hl (hr t (by simp)).1 (hr t (by simp)).2 h1 hb (fun x hx => hlt x (by simp [hx])),
      trodAll_below hl hb ts vs ds q (fun t' ht => hr t' (by simp [ht])) (fun x hx => hlt x (by simp [hx])) h2, rfl⟩

/-- What is asked of the world behind a law's call. -/
theorem law_post {f : Func} {s : ChangeSpec} {W W' : World} {args : Array Value} {ds gs : List (DataW H)} {before : List MemPlace} {b : TypeId} (hl : laidOutB P = true)
    (hW : DataW.Whole enc P f.params.toList s.vars false W args.toList ds gs before) (hv : s.vars = []) (hrt : f.resultTypes = #[b]) (hub : P.underlying b = some .bool)
    (hr : (f.params.toList.all fun t => P.readableRec t && decide (t < P.types.size)) = true)
    (h1 : (s.fn H (ds ++ gs)).results = [.lit (.bool true)]) (h2 : (s.fn H (ds ++ gs)).args = ds) (h3 : (s.fn H (ds ++ gs)).vars = []) (hg : Below W.heap.size W W') :
    s.post enc P f false true false false W args (.bool true) W' := by
  have hlt := hW.lt
  have hW' := hW
  obtain ⟨p, q, hA, hV, rfl, _, _⟩ := hW
  refine ⟨ds, gs, _, [], p, [], hW', ?_, ?_, ?_, World.keptBut_mono (fun _ h => h.elim) (hg.frame fun _ => False), fun h => by cases h⟩
  · rw [h1, hrt]
    exact trodAll_mk1 ⟨1, by simp [DataW.trod, Value.cells, hub]⟩
  · rw [h2]
    exact trodAll_below hl hg _ _ _ _ (fun t ht => by have := List.all_eq_true.1 hr t ht; simpa using this) (fun x hx => hlt x (by simp [hx])) hA
  · rw [hv, h3]; exact rfl

/-- The number in a cell. -/
def intAt (cs : Array Value) (i : Nat) : Int := match cs[i]? with | some (.int _ k) => k | _ => 0
theorem intAt_eq {cs : Array Value} {i : Nat} {q : IntKind} {k : Int} (h : cs[i]? = some (.int q k)) : intAt cs i = k := by simp [intAt, h]
theorem bd_i64 {n : Int} (h : (Lit.int .i64 n).wf = true) : -9223372036854775808 ≤ n ∧ n ≤ 9223372036854775807 := by
  simpa [Lit.wf, IntKind.min, IntKind.max, IntKind.signed, IntKind.bits] using h

/-- An argument that is an array of whole numbers. -/
theorem open_array {T e n : Nat} {r : Reach} {b0 : Nat} {W : World} {v : Value} {d : DataW H} {p : List MemPlace} (hT : P.underlying T = some (.array n e)) (he : P.underlying e = some (.int .i64)) (hC : P.cellsOf T = n) (hc : P.cellsOf e = 1)
    (hv : Value.okWide P W r b0 T v) (h : DataW.Trod enc P W 0 (fun _ => true) true T v d p) : ∃ c : List Int, c.length = n ∧ v = .agg (cellsOf c) ∧ ∀ i, -9223372036854775808 ≤ gt c i ∧ gt c i ≤ 9223372036854775807 := by
  have h1 : ∃ cs : Array Value, v = .agg cs ∧ cs.size = P.cellsOf T := by
    simp only [Value.okWide, hT] at hv
    obtain ⟨cs, e1, e2, _⟩ := hv
    exact ⟨cs, e1, e2⟩
  obtain ⟨cs, rfl, hcs⟩ := h1
  obtain ⟨fuel, hf⟩ := h
  simp only [Value.cells] at hf
  obtain ⟨xs, m, rfl, _, hl, hxl, hel⟩ := DataW.trod_array hT hf
  rw [hc] at hel
  have key : ∀ i, i < n → ∃ k : Int, cs[i]? = some (.int .i64 k) ∧ -9223372036854775808 ≤ k ∧ k ≤ 9223372036854775807 := by
    intro i hi
    have hx : xs[i]? = some xs[i] := List.getElem?_eq_getElem (by omega)
    have := hel i hi
    rw [hx, Nat.mul_one] at this
    obtain ⟨k, hk, _, wf⟩ := DataW.trod_int he this
    refine ⟨k, ?_, bd_i64 wf⟩
    have h3 : (cs.toList.drop i)[0]? = some (.int .i64 k) := by
      have h4 : ((cs.toList.drop i).take 1)[0]? = some (.int .i64 k) := by rw [hk]; rfl
      rwa [List.getElem?_take_of_lt (by omega)] at h4
    simpa using h3
  refine ⟨(List.range n).map (intAt cs), by simp, ?_, ?_⟩
  · congr 1
    apply Array.ext_getElem?
    intro i
    by_cases hi : i < n
    · obtain ⟨k, hk, _⟩ := key i hi
      rw [hk]; simp [cellsOf, hi, intAt_eq hk]
    · rw [Array.getElem?_eq_none (by omega), Array.getElem?_eq_none (by simp [cellsOf]; omega)]
  · intro i
    by_cases hi : i < n
    · obtain ⟨k, hk, hb⟩ := key i hi
      have : gt ((List.range n).map (intAt cs)) i = k := by simp [gt, hi, intAt_eq hk]
      rw [this]; exact hb
    · have : gt ((List.range n).map (intAt cs)) i = 0 := by simp [gt, hi]
      rw [this]; omega
end
end Go.Proofs.Ytondnigiepkobaa
