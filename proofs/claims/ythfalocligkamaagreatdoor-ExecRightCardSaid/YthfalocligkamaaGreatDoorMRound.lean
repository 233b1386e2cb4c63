/-
  A region that draws its order, in a round of a range over a function: what a walk outside of a fence shows serves there, too.
-/
import Derived.RangeFuncNested
import Derived.RangeFuncBound
import Derived.RangeFuncCalls
import Derived.RangeFuncLeaves
import Derived.Shelf.Abstract
import Derived.Shelf.RegionOpen
import Derived.OwnWalkIn
import Derived.TacticsInMore
import Derived.LoopNIn
import Derived.LoopIn
import Derived.Test.YthfalocligkamaaGreatDoorMEq
namespace Go.Proofs.YthfalocligkamaaGreatDoor
open Go Go.RowKit

theorem rowsIn_wide {n : Nat} {P : Program} {row : String} {args : Array Value} {w : World} {R : Value → World → Prop} (h : Rows P row args w R) : RowsIn Fence.wide n P row args w R :=
  fun c cs _ => let ⟨v, w', r, s⟩ := h c cs; ⟨v, w', r, stepsIn_wide.2 s⟩
theorem oper_inRound {l n : Nat} {P : Program} {o : Oper} {a : Act} {w : World} {K : Act → World → Prop} {Q : Exit → Act → World → Prop} (hd : ∀ c, o.op ≠ .defer c) (h : o.wp P a w K Q) : o.wpIn (Fence.wide.inRound l) n P a w K Q := by
  unfold Oper.wpIn
  refine ⟨fun f _ => trivial, ?_⟩
  rw [show (Fence.wide.inRound l).round = some l from rfl, Oper.semAt_some l _ o hd]
  unfold Oper.wp at h
  generalize (execOp a.eval o).run P w = r at h
  cases r with
  | ok x w' =>
    cases x <;> simp only [Oper.uponIn, Oper.upon] at h ⊢ <;> first | exact h | skip
    · exact ⟨fun hx => (by cases hx), CallsIn.inRound l (callsIn_wide.2 (h.mono fun e w'' he => by cases e <;> exact he))⟩
    · exact ⟨fun hx => (by cases hx), rowsIn_wide h⟩
  | halt x w' => cases x <;> simp only [Oper.uponIn, Oper.upon] at h ⊢ <;> exact h
def noDefer (l : List Oper) : Bool := l.all fun o => match o.op with | .defer _ => false | _ => true
theorem noDefer_spec {l : List Oper} (h : noDefer l = true) {i : Nat} {o : Oper} (ho : l.toArray[i]? = some o) : ∀ c, o.op ≠ .defer c := by
  intro c hc
  have := List.all_eq_true.1 h o (List.mem_of_getElem? (by simpa using ho))
  rw [hc] at this
  cases this
theorem any_inRound {l n : Nat} {P : Program} {md : Region.Mode} {ops : List Oper} {Q : Exit → Act → World → Prop} (hd : noDefer ops = true) (hQ : ¬ LetsOut Q) : ∀ (f : Nat) (listed : Array Bool) (a : Act) (w : World),
    wpAny P md ops.toArray Q f listed a w → wpAnyIn (Fence.wide.inRound l) n P md ops.toArray Q f listed a w
  | 0, _, _, _, h => h
  | f + 1, listed, a, w, h => by
    refine ⟨h.1, fun i hi => ?_⟩
    have h2 := h.2 i hi
    unfold wpOp at h2
    unfold wpOpIn
    cases ho : ops.toArray[i]? with
    | none => rw [ho] at h2; exact any_inRound hd hQ f _ _ _ h2
    | some o =>
      rw [ho] at h2
      simp only at h2 ⊢
      split
      · rename_i hw
        rw [if_pos hw] at h2
        rcases h2 with h2 | h2
        · exact Oper.wpIn_mono (fun a' w' h3 => any_inRound hd hQ f _ _ _ h3) (oper_inRound (noDefer_spec hd ho) h2)
        · exact absurd h2.2 hQ
      · rename_i hw
        rw [if_neg hw] at h2
        exact ⟨fun _ _ => trivial, any_inRound hd hQ f _ _ _ h2⟩
theorem wp_order_any {P : Program} {Q : Exit → Act → World → Prop} {a : Act} {w : World} {l : List Oper} (hs : List Nat) (t : Nat) (ts : List Nat) (hB : z46 .any l.toArray hs t ts = true)
    (h : wpQuiet P l.toArray (fun w' => ∃ x, w' = w.plus x) (fun a' => ∀ w', (∃ x, w' = w.plus x) → wpList P l.toArray Q (zcg l (t :: ts)) a' w') (zcg l hs) a) :
    wpAny P .any l.toArray Q l.toArray.size (Array.replicate l.toArray.size false) a { w with drawn := w.drawn + 1 } := by
  simp only [z46, Bool.and_eq_true, decide_eq_true_eq] at hB
  obtain ⟨⟨⟨⟨⟨⟨hsel, hlen⟩, hk⟩, hc⟩, hlex⟩, hall⟩, htlt⟩ := hB
  have htlt' : ∀ i, i ∈ t :: ts → i < l.toArray.size := fun i hi => of_decide_eq_true (List.all_eq_true.1 htlt i hi)
  have hlt : ∀ i, i ∈ hs → i < l.toArray.size := fun i hi => by
    have := List.all_eq_true.1 hall i hi
    simp only [Bool.and_eq_true, decide_eq_true_eq] at this
    exact this.1
  have hdis : ∀ i, i ∈ hs → i ∉ t :: ts := fun i hi hit => by
    have := List.all_eq_true.1 hall i hi
    simp only [Bool.and_eq_true, Bool.not_eq_true', List.contains_eq_mem, decide_eq_false_iff_not] at this
    exact this.2 hit
  have inv0 : InvO .any l.toArray (t :: ts) (Array.replicate l.toArray.size false) :=
    ⟨by simp, fun j oj _ hl => (by rw [getD_replicate_false] at hl; cases hl), fun i hi => getD_in (by simpa using htlt' i hi) (getD_replicate_false _ _)⟩
  have H := zvs (md := .any) (C := fun w' => ∃ x, w' = w.plus x) hsel hk hc hlt hdis hs _ a (fun _ h => h) inv0 hlex h
  have := zms (Q := Q) (g := (t :: ts).length) (fun listed a' w' hw' hL => ziq (md := .any) (t :: ts) listed a' w' htlt' hL.1 (hL.2 w' hw')) _ _ _ { w with drawn := w.drawn + 1 } ⟨⟨#[], fun d => d + 1⟩, by simp [World.plus]⟩ H
  rw [List.length_cons, hlen] at this
  exact this
/-- zam, in a round. -/
theorem wpIn_region_order {P : Program} {lp n id : Nat} {Q : Exit → Act → World → Prop} {a : Act} {w : World} {l : List Oper} (hs : List Nat) (t : Nat) (ts : List Nat) (hQ : ¬ LetsOut Q) (hm : P.follows .mixedOrders = true) (hB : z46 .any l.toArray hs t ts = true) (hd : noDefer l = true)
    (h : wpQuiet P l.toArray (fun w' => ∃ x, w' = w.plus x) (fun a' => ∀ w', (∃ x, w' = w.plus x) → wpList P l.toArray Q (zcg l (t :: ts)) a' w') (zcg l hs) a) : (Code.region id l.toArray true).wpIn (Fence.wide.inRound lp) n P Q a w :=
  wpIn_region_any hm (any_inRound hd hQ _ _ _ _ (wp_order_any hs t ts hB h))
end Go.Proofs.YthfalocligkamaaGreatDoor
