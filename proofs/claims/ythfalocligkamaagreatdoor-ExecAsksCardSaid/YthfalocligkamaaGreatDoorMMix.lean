/- A region that draws its order: some of its operations only read; of the others those that make memory may come up among them, the last ones follow when all is read: one walk serves. -/
import Derived.Test.YthfalocligkamaaGreatDoorMEq
import Derived.OrdersHeld
import Derived.MapKept
import Derived.Test.YthfalocligkamaaGreatDoorMSt
namespace Go.Proofs.YthfalocligkamaaGreatDoor
open Go Go.RowKit
section
variable {P : Program} {ops : Array Oper} {md : Region.Mode} {S : World → Prop} {Q : Exit → Act → World → Prop} {tl : List Nat}
def zlf (P : Program) (md : Region.Mode) (ops : Array Oper) (Q : Exit → Act → World → Prop) (S : World → Prop) (tl : List Nat) : Nat → Array Bool → Act → World → Prop
 | 0, listed, a, w => Region.ready md ops listed = [] ∧ Q .normal a w
 | fuel + 1, listed, a, w =>
   (Region.ready md ops listed = [] → Q .normal a w) ∧
   ∀ i ∈ Region.ready md ops listed, wpOp P ops Q i (fun a' w' => (i ∉ tl → S w') ∧ zlf P md ops Q S tl fuel (listed.setIfInBounds i true) a' w') a w
theorem zlg : ∀ (fuel : Nat) (listed : Array Bool) (a : Act) (w : World), zlf P md ops Q S tl fuel listed a w → wpAny P md ops Q fuel listed a w
 | 0, _, _, _, h => h
 | fuel + 1, _, _, _, h => ⟨h.1, fun i hi => wpOp_mono (fun a' w' h' => zlg fuel _ a' w' h'.2) (h.2 i hi)⟩
theorem zog {i : Nat} {oi : Oper} {v : Value} (hi : ops[i]? = some oi) (hsel : ∀ (j : Nat) (o : Oper) cs b, ops[j]? = some o → o.op ≠ .select cs b)
 (hQ : ∀ c a w, Q (.panic c) (a.put oi.dst v) w → Q (.panic c) a w) (hit : i ∉ tl) (htl : ∀ listed, InvO md ops tl listed → i ∈ Region.ready md ops listed → ∀ j ∈ Region.ready md ops listed, j ∉ tl) :
 ∀ (fuel : Nat) (listed : Array Bool) (a : Act) (w : World), InvO md ops tl listed →
   (∀ j oj, ops[j]? = some oj → j ≠ i → listed.getD j true = false → (∀ e ∈ oj.after, Region.binds md e = true → e.on ≠ i) → oi.apart ops oj = true) →
   i ∈ Region.ready md ops listed → YieldsIf P ops S oi v a → S w →
   zlf P md ops Q S tl fuel (listed.setIfInBounds i true) (a.put oi.dst v) w → zlf P md ops Q S tl (fuel + 1) listed a w := by
 intro fuel
 induction fuel with
 | zero =>
   intro listed a w _ _ hr hy hS H
   refine ⟨fun h => (by rw [h] at hr; cases hr), fun j hj => ?_⟩
   by_cases hji : j = i
   · subst hji; exact hy.wpOp hi hS ⟨fun _ => hS, H⟩
   · have := ready_mono hj hji
     rw [H.1] at this
     cases this
 | succ fuel ih =>
   intro listed a w inv hfree hr hy hS H
   refine ⟨fun h => (by rw [h] at hr; cases hr), fun j hj => ?_⟩
   by_cases hji : j = i
   · subst hji; exact hy.wpOp hi hS ⟨fun _ => hS, H⟩
   · have h1 := H.2 j (ready_mono hj hji)
     obtain ⟨hjun, oj, hoj, hall⟩ := mem_ready.1 hj
     have hnot : ∀ e ∈ oj.after, Region.binds md e = true → e.on ≠ i := fun e he hb heq => by
      have h1 := hall e he hb
      have h0 := (mem_ready.1 hr).1
      rw [heq, getD_both h0] at h1
      cases h1
     have hjt : j ∉ tl := htl listed inv hr j hj
     have h2 := wpOp_putIf hoj (hfree j oj hoj hji hjun hnot) (fun cs b => hsel i oi cs b hi) (fun cs b => hsel j oj cs b hoj) hQ hy h1
     have hfree' : ∀ k ok, ops[k]? = some ok → k ≠ i → (listed.setIfInBounds j true).getD k true = false →
      (∀ e ∈ ok.after, Region.binds md e = true → e.on ≠ i) → oi.apart ops ok = true := fun k ok hk hki hun hno => by
      refine hfree k ok hk hki ?_ hno
      by_cases hjk : j = k
      · subst hjk; exact hjun
      · rw [getD_set_ne true hjk] at hun; exact hun
     refine wpOp_mono (fun a' w' h3 => ⟨h3.2.1, ih (listed.setIfInBounds j true) a' w' (inv.set hj hjt) hfree' (ready_mono hr (Ne.symm hji)) h3.1 (h3.2.1 hjt) ?_⟩) h2
     rw [Array.setIfInBounds_comm _ _ hji]
     exact h3.2.2
def zxj (o : Oper) : Bool :=
 match o.op with
 | .move _ | .assign _ | .pick .. | .build .. | .load .. | .binOp .. | .unOp .. | .convert .. | .fieldAddr .. | .field .. | .indexAddr .. | .index .. | .slice .. | .makeInterface .. => true
 | _ => false
theorem zle {α : Type} (f : α → Value) (s : Sem α) (w w' : World) (n : Next) (h : (do pure (Next.value (f (← s))) : Sem Next).run P w = .ok n w') : ∃ u, n = .value u := by
 rw [Sem.run_bind] at h
 cases hs : s.run P w with
 | ok u w1 => rw [hs] at h; simp at h; exact ⟨f u, h.1.symm⟩
 | halt x w1 => rw [hs] at h; simp [Result.andThen] at h
theorem zpm {o : Oper} (hp : zxj o = true) (ρ : Operand → Value) (w w' : World) (n : Next) (h : (execOp ρ o).run P w = .ok n w') : ∃ u, n = .value u := by
 unfold zxj at hp
 unfold execOp at h
 split at hp <;> rename_i e
 case h_15 => cases hp
 all_goals rw [e] at h
 case h_1 => simp at h; exact ⟨_, h.1.symm⟩
 case h_2 => simp at h; exact ⟨_, h.1.symm⟩
 case h_3 => exact zle (fun b => if b = true then _ else _) _ _ _ _ h
 all_goals exact zle id _ _ _ _ h
theorem zs6 {o : Oper} {a : Act} {v : Value} (hp : zxj o = true) {w : World} (h : o.quietAt P a S w v) : (execOp a.eval o).run P w = .ok (.value v) w := by
 unfold Oper.quietAt at h
 cases hr : (execOp a.eval o).run P w with
 | ok n w' =>
   obtain ⟨u, rfl⟩ := zpm hp _ _ _ _ hr
   rw [hr] at h
   obtain ⟨rfl, rfl⟩ := h
   rfl
 | halt x w' => rw [hr] at h; exact h.elim
theorem yi8 {l : List Oper} : ∀ (ts : List Nat) (listed : Array Bool) (a : Act) (w : World), (∀ i, i ∈ ts → i < l.toArray.size) → (∀ i, i ∈ ts → i ∈ tl) →
 zva md l.toArray ts listed = true → wpList P l.toArray Q (zby l ts) a w → zlf P md l.toArray Q S tl ts.length listed a w
 | [], _, _, _, _, _, hB, h => ⟨by simpa [zva] using hB, h⟩
 | k :: ts, listed, a, w, hlt, htl, hB, h => by
   have hklt := hlt k (by simp)
   have h0 : l.toArray[k]? = some l.toArray[k] := Array.getElem?_eq_getElem hklt
   have hp : zby l (k :: ts) = l.toArray[k] :: zby l ts := by
    have : l[k]? = some l.toArray[k] := by simp
    simp only [zby, this]
   rw [hp] at h
   simp only [zva, Bool.and_eq_true, decide_eq_true_eq] at hB
   refine ⟨fun h1 => (by rw [hB.1] at h1; cases h1), fun i hi => ?_⟩
   rw [hB.1] at hi
   obtain rfl : i = k := by simpa using hi
   have hw : wpOp P l.toArray Q i (wpList P l.toArray Q (zby l ts)) a w := by unfold wpOp; simp only [h0]; exact h
   exact wpOp_mono (fun a' w' h' => ⟨fun hn => absurd (htl i (by simp)) hn, yi8 ts _ a' w' (fun i hi => hlt i (by simp [hi])) (fun i hi => htl i (by simp [hi])) hB.2 h'⟩) hw
def ycj (P : Program) (ops : Array Oper) (Q : Exit → Act → World → Prop) (S : World → Prop) (m : Oper) (rest : List Oper) (a : Act) (w : World) : Prop :=
 ∀ K : Act → World → Prop, (∀ a w, S w → wpList P ops Q rest a w → K a w) → if Region.wanted m (yielded ops a.tmps) = true then Oper.wp P m a w K Q else K (a.put m.dst undef) w
def yck (md : Region.Mode) (ops : Array Oper) (m : Nat) (ts : List Nat) : List Nat → Array Bool → Bool
 | [], listed => zva md ops (m :: ts) listed
 | k :: l, listed => (Region.ready md ops listed).contains k && Region.free md ops listed k && ((ops[k]?).map zxj).getD false && !(ts.contains k) && yck md ops m ts l (listed.setIfInBounds k true)
theorem z7w {l : List Oper} {hs : List Nat} {m t : Nat} {om : Oper} {us : List Nat} {ts : List Nat} (hts : ts = t :: us) (hk : zn7 md l.toArray ((hs ++ [m]) ++ [t]) = true) (hc : zia md l.toArray (t :: us) = true) (hall : ∀ i, i ∈ hs ++ [m] → i < l.toArray.size) (hm : l[m]? = some om) (hmt : m ∉ ts) (hsel : Region.noSelect l.toArray = true) (hlt : ∀ i, i ∈ ts → i < l.toArray.size) (hQ : ∀ c (a a' : Act) w, Q (.panic c) a' w → Q (.panic c) a w) :
 ∀ (h : List Nat) (listed : Array Bool) (a : Act) (w : World), (∀ i, i ∈ h → i ∈ hs) → InvO md l.toArray ts listed → S w → yck md l.toArray m ts h listed = true →
   wpQuiet P l.toArray S (fun a' => ∀ w', S w' → ycj P l.toArray Q S om (zby l ts) a' w') (zby l h) a → zlf P md l.toArray Q S ts (h.length + (ts.length + 1)) listed a w := by
 intro h
 induction h with
 | nil =>
   intro listed a w _ _ hS hB hq
   have hq' : ∀ w', S w' → ycj P l.toArray Q S om (zby l ts) a w' := hq
   rw [yck] at hB
   simp only [zva, Bool.and_eq_true, decide_eq_true_eq] at hB
   rw [List.length_nil, Nat.zero_add]
   refine ⟨fun h1 => (by rw [hB.1] at h1; cases h1), fun i hi => ?_⟩
   rw [hB.1] at hi
   obtain rfl : i = m := by simpa using hi
   have h0 : l.toArray[i]? = some om := by simpa using hm
   exact wpOp_step h0 (fun K' hK => hq' w hS K' (fun a' w' hS' hl => hK a' w' ⟨fun _ => hS', yi8 ts _ a' w' hlt (fun _ h => h) hB.2 hl⟩))
 | cons k h ih =>
   intro listed a w hb inv hS hB hq
   have hklt := hall k (by simp [hb k (by simp)])
   have h0 : l.toArray[k]? = some l.toArray[k] := Array.getElem?_eq_getElem hklt
   simp only [yck, Bool.and_eq_true] at hB
   obtain ⟨⟨⟨⟨hr, hf⟩, hp⟩, hkt⟩, hB'⟩ := hB
   have hr' : k ∈ Region.ready md l.toArray listed := by simpa using hr
   rw [h0] at hp
   have hp' : zxj l.toArray[k] = true := hp
   have hpk : zby l (k :: h) = l.toArray[k] :: zby l h := by
    have : l[k]? = some l.toArray[k] := by simp
    simp only [zby, this]
   rw [hpk] at hq
   have hst : qOp P l.toArray S k (wpQuiet P l.toArray S (fun a' => ∀ w', S w' → ycj P l.toArray Q S om (zby l ts) a' w') (zby l h)) a := by unfold qOp; simp only [h0]; exact hq
   have hk' : k ∉ ts := by simpa using hkt
   have htl' : ∀ listed, InvO md l.toArray ts listed → k ∈ Region.ready md l.toArray listed → ∀ j ∈ Region.ready md l.toArray listed, j ∉ ts := by
    intro listed inv hr j hj hjt
    have hun := getD_both (mem_ready.1 hr).1
    subst hts
    rcases List.mem_cons.1 hjt with h | h
    · subst h; exact zh5 inv (inv.tail j (by simp)) (hs ++ [m]) hk hall k (by simp [hb k (by simp)]) hun hj
    · exact zgi t us hc inv.tail j h hj
   have hy : ∃ v, YieldsIf P l.toArray S l.toArray[k] v a ∧ wpQuiet P l.toArray S (fun a' => ∀ w', S w' → ycj P l.toArray Q S om (zby l ts) a' w') (zby l h) (a.put l.toArray[k].dst v) := by
    unfold qOp at hst
    simp only [h0] at hst
    by_cases hw : Region.wanted l.toArray[k] (yielded l.toArray a.tmps) = true
    · rw [if_pos hw] at hst
      obtain ⟨v, h1, h2⟩ := hst
      exact ⟨v, Or.inl ⟨hw, fun w hw' => zs6 hp' (h1 w hw')⟩, h2⟩
    · rw [if_neg hw] at hst
      exact ⟨undef, Or.inr ⟨by simpa using hw, rfl⟩, hst⟩
   obtain ⟨v, hy1, hy2⟩ := hy
   rw [List.length_cons, show h.length + 1 + (ts.length + 1) = (h.length + (ts.length + 1)) + 1 by omega]
   exact zog h0 (Region.noSelect_spec hsel) (fun c a w => hQ c _ _ w) hk' htl' _ listed a w inv (Region.free_spec h0 hf) hr' hy1 hS (ih _ _ w (fun i hi => hb i (by simp [hi])) (inv.set hr' hk') hS hB' hy2)
theorem zmo {id : Nat} {a : Act} {w : World} {l : List Oper} (hs : List Nat) (m : Nat) (t : Nat) (ts : List Nat) (om : Oper) (hm : P.follows .mixedOrders = true) (hQ : ∀ c (a a' : Act) w, Q (.panic c) a' w → Q (.panic c) a w) (hom : l[m]? = some om)
 (hB : (Region.noSelect l.toArray && decide (hs.length + ((t :: ts).length + 1) = l.toArray.size) && ((hs ++ [m]).all fun i => decide (i < l.toArray.size)) && ((t :: ts).all fun i => decide (i < l.toArray.size)) && !((t :: ts).contains m) && zn7 .any l.toArray ((hs ++ [m]) ++ [t]) && zia .any l.toArray (t :: ts) && yck .any l.toArray m (t :: ts) hs (Array.replicate l.toArray.size false)) = true)
 (h : wpQuiet P l.toArray (fun w' => ∃ x, w' = w.plus x) (fun a' => ∀ w', (∃ x, w' = w.plus x) → ycj P l.toArray Q (fun w' => ∃ x, w' = w.plus x) om (zby l (t :: ts)) a' w') (zby l hs) a) : (Code.region id l.toArray true).wp P Q a w := by
 simp only [Bool.and_eq_true, decide_eq_true_eq] at hB
 obtain ⟨⟨⟨⟨⟨⟨⟨hsel, hlen⟩, hlt⟩, hlt2⟩, hmt⟩, hk⟩, hc⟩, hmix⟩ := hB
 have hlt2' : ∀ i, i ∈ t :: ts → i < l.toArray.size := fun i hi => of_decide_eq_true (List.all_eq_true.1 hlt2 i hi)
 have inv0 : InvO .any l.toArray (t :: ts) (Array.replicate l.toArray.size false) :=
  ⟨by simp, fun j oj _ hl => (by rw [getD_replicate_false] at hl; cases hl), fun i hi => getD_in (by simpa using hlt2' i hi) (getD_replicate_false _ _)⟩
 refine wp_region_any hm (zlg (S := fun w' => ∃ x, w' = w.plus x) (tl := t :: ts) _ _ _ _ ?_)
 have := z7w (md := .any) (S := fun w' => ∃ x, w' = w.plus x) (Q := Q) (hs := hs) (ts := t :: ts) rfl hk hc (fun i hi => of_decide_eq_true (List.all_eq_true.1 hlt i hi)) hom (by simpa using hmt) hsel hlt2' hQ hs _ a { w with drawn := w.drawn + 1 } (fun i hi => hi) inv0 ⟨⟨#[], fun d => d + 1⟩, by simp [World.plus]⟩ hmix h
 rw [hlen] at this
 exact this
end
end Go.Proofs.YthfalocligkamaaGreatDoor
namespace Go.Proofs.YthfalocligkamaaGreatDoor
open Go Go.RowKit
def zdf (l : List Bool) : Array Value := (l.map Value.bool).toArray
def bt (l : List Bool) (i : Nat) : Bool := l.getD i false
@[go_sem] theorem z6c (l : List Bool) : (zdf l).size = l.length := by simp [zdf]
@[go_sem] theorem z9g (l : List Bool) (i : Nat) (h : i < l.length) : (zdf l)[i]? = some (.bool (bt l i)) := by simp [zdf, bt, h]
@[go_sem] theorem zzi (l : List Bool) (i : Nat) (h : i < (zdf l).size) : (zdf l)[i]'h = .bool (bt l i) := by
 have h' : i < l.length := by simpa [zdf] using h
 simp [zdf, bt, h']
@[go_sem] theorem z9i (l : List Bool) (i : Nat) (x : Bool) : (zdf l).setIfInBounds i (.bool x) = zdf (l.set i x) := by simp [zdf, List.map_set]
@[go_sem] theorem z9h (l : List Bool) : zai (zdf l) = true := by
 unfold zai zdf
 simp [Value.oneCell']
@[go_sem] theorem z9f (l : List Bool) (h : l.length = 64) : sub (zdf l) 0 64 = zdf l := by
 unfold sub
 have : (zdf l).size = 64 := by simp [zdf, h]
 rw [Nat.zero_add, ← this, Array.extract_size]
def noB : List Bool := List.replicate 64 false
@[go_sem] theorem yhg : noB.length = 64 := by simp [noB]
@[go_sem] theorem yan (t : TypeId) (fr : Nat × Nat) : Obj.cells #[Value.bool false, Value.bool false, Value.bool false, Value.bool false, Value.bool false, Value.bool false, Value.bool false, Value.bool false, Value.bool false, Value.bool false, Value.bool false, Value.bool false, Value.bool false, Value.bool false, Value.bool false, Value.bool false, Value.bool false, Value.bool false, Value.bool false, Value.bool false, Value.bool false, Value.bool false, Value.bool false, Value.bool false, Value.bool false, Value.bool false, Value.bool false, Value.bool false, Value.bool false, Value.bool false, Value.bool false, Value.bool false, Value.bool false, Value.bool false, Value.bool false, Value.bool false, Value.bool false, Value.bool false, Value.bool false, Value.bool false, Value.bool false, Value.bool false, Value.bool false, Value.bool false, Value.bool false, Value.bool false, Value.bool false, Value.bool false, Value.bool false, Value.bool false, Value.bool false, Value.bool false, Value.bool false, Value.bool false, Value.bool false, Value.bool false, Value.bool false, Value.bool false, Value.bool false, Value.bool false, Value.bool false, Value.bool false, Value.bool false, Value.bool false] t fr = .cells (zdf noB) t fr := rfl
def yag (x : Nat) : List Bool := (List.range 64).map fun i => x / 2 ^ i % 2 == 1
def z4x (x : Nat) (k : Nat) : List Bool := (List.range 64).map fun i => decide (i < k) && x / 2 ^ i % 2 == 1
@[go_sem] theorem z9j (x k : Nat) : (z4x x k).length = 64 := by simp [z4x]
@[go_sem] theorem yah (x : Nat) : (yag x).length = 64 := by simp [yag]
end Go.Proofs.YthfalocligkamaaGreatDoor
