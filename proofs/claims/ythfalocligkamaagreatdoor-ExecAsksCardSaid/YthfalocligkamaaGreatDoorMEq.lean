/- Rows of whole numbers, compared. -/
import Derived.Test.YthfalocligkamaaGreatDoorMPlus
import Derived.StillTail
namespace Go.Proofs.YthfalocligkamaaGreatDoor
open Go Go.RowKit
theorem zm2 {P : Program} (w : World) (f : Nat → Bool) (body : Nat → Sem (ForInStep (Option Bool × Unit))) (tail : Option Bool × Unit → Sem Bool)
 (ht : ∀ r, (tail r).run P w = .ok (match r.1 with | none => true | some b => b) w) : ∀ (l : List Nat),
 (∀ i, i ∈ l → (body i).run P w = .ok (if f i then ForInStep.yield (none, ()) else ForInStep.done (some false, ())) w) →
 ((forIn (m := Sem) l (none, ()) (fun i _ => body i)) >>= tail).run P w = .ok (l.all f) w
 | [], _ => by simp [ht]
 | i :: l, h => by
   have h0 := h i (by simp)
   have ih := zm2 w f body tail ht l (fun j hj => h j (by simp [hj]))
   rw [Sem.run_bind] at ih ⊢
   rw [List.forIn_cons, Sem.run_bind, h0]
   cases hf : f i
   · simp [hf, ht]
   · simp only [Result.andThen_ok, if_true, List.all_cons, hf, Bool.true_and]
     exact ih
theorem zex {P : Program} (w : World) (T e n s : Nat) (hT : P.underlying T = some (.array n e)) (hs : (P.info? e).map (·.size) = some s) (d : Nat) (xs ys : Array Value) (f : Nat → Bool)
 (h : ∀ i, i < n → ∃ x y, (part e xs (i * s)).run P w = .ok x w ∧ (part e ys (i * s)).run P w = .ok y w ∧ (Op.equalIn d e x y).run P w = .ok (f i) w) :
 (Op.equalIn (d + 1) T (.agg xs) (.agg ys)).run P w = .ok ((List.range n).all f) w := by
 obtain ⟨inf, hinf, hsz⟩ : ∃ i, P.info? e = some i ∧ i.size = s := by
  cases h : P.info? e with
  | none => simp [h] at hs
  | some i => exact ⟨i, rfl, by simpa [h] using hs⟩
 have hs' : (sizeOf e).run P w = .ok s w := by simp [sizeOf, typeInfo, hinf, hsz]
 rw [Op.equalIn.eq_def]
 simp only []
 rw [Sem.run_bind, run_underlying hT]
 simp only [Result.andThen_ok]
 rw [Sem.run_bind, hs']
 simp only [Result.andThen_ok]
 rw [Std.Legacy.Range.forIn_eq_forIn_range', show ([:n] : Std.Legacy.Range).size = n by simp [Std.Legacy.Range.size], List.range_eq_range']
 refine zm2 w f _ _ ?_ (List.range' 0 n) ?_
 · rintro ⟨r, _⟩; cases r <;> rfl
 · intro i hi
   have hi' : i < n := by simpa using hi
   obtain ⟨x, y, hx, hy, hxy⟩ := h i hi'
   simp only [Sem.run_bind, hx, hy, hxy, Result.andThen_ok]
   cases f i <;> rfl
theorem zve (n : Nat) (a b : List Int) (ha : a.length = n) (hb : b.length = n) : ((List.range n).all fun i => gt a i == gt b i) = decide (a = b) := by
 rw [Bool.eq_iff_iff]
 simp only [List.all_eq_true, List.mem_range, beq_iff_eq, decide_eq_true_eq]
 constructor
 · intro h; exact yaz a b (by omega) (fun i hi => h i (by omega))
 · intro h i _; rw [h]
theorem zfp {P : Program} (w : World) (e k : Nat) (c : List Int) (he : P.underlying e = some (.int .i64)) (hk : k < c.length) : (part e (cellsOf c) k).run P w = .ok (I (gt c k)) w := by
 have hagg : (isAgg e).run P w = .ok false w := by simp [isAgg, run_underlying he]
 unfold part
 rw [Sem.run_bind, hagg]
 simp [za5 c k hk]
theorem zdq {P : Program} (w : World) (T e n : Nat) (hT : P.underlying T = some (.array n e)) (he : P.underlying e = some (.int .i64)) (hi : (P.info? e).map (·.size) = some 1) (d : Nat) (a b : List Int) (ha : a.length = n) (hb : b.length = n) :
 (Op.equalIn (d + 2) T (.agg (cellsOf a)) (.agg (cellsOf b))).run P w = .ok (decide (a = b)) w := by
 rw [← zve n a b ha hb]
 refine zex w T e n 1 hT hi (d + 1) _ _ _ fun i hin => ⟨_, _, zfp w e _ a he (by omega), zfp w e _ b he (by omega), ?_⟩
 rw [Nat.mul_one]
 exact run_equalIn_int w d e _ _ _ _ he
theorem zgf {P : Program} (w : World) (T e n : Nat) (hT : P.underlying T = some (.array n e)) (he : P.underlying e = some (.int .i64)) (hi : (P.info? e).map (·.size) = some 1) (c : List Int) (hc : c.length = n) (k : IntKind) (i : Int) (h0 : 0 ≤ i) (h1 : i < n) :
 (Instr.index T (.agg (cellsOf c)) (.int k i)).run P w = .ok (I (gt c i.toNat)) w := by
 obtain ⟨inf, hinf, hsz⟩ : ∃ i, P.info? e = some i ∧ i.size = 1 := by
  cases h : P.info? e with
  | none => simp [h] at hi
  | some i => exact ⟨i, rfl, by simpa [h] using hi⟩
 have hs : (sizeOf e).run P w = .ok 1 w := by simp [sizeOf, typeInfo, hinf, hsz]
 simp only [Instr.index, asIntOf, Sem.run_bind, Sem.run_pure, Result.andThen_ok, run_underlying hT, h0, h1, and_self, if_true, hs, Nat.mul_one]
 exact zfp w e _ c he (by omega)
end Go.Proofs.YthfalocligkamaaGreatDoor
namespace Go.Proofs.YthfalocligkamaaGreatDoor
open Go Go.RowKit
section
variable {P : Program} {ops : Array Oper} {md : Region.Mode} {C : World → Prop}
def zn7 (md : Region.Mode) (ops : Array Oper) : List Nat → Bool
 | [] => true
 | i :: l => (l.isEmpty || l.any fun j => Region.waitsFor md ops j i) && zn7 md ops l
def zia (md : Region.Mode) (ops : Array Oper) : List Nat → Bool
 | i :: j :: l => Region.waitsFor md ops j i && zia md ops (j :: l)
 | _ => true
def zva (md : Region.Mode) (ops : Array Oper) : List Nat → Array Bool → Bool
 | [], listed => (Region.ready md ops listed).isEmpty
 | k :: l, listed => decide (Region.ready md ops listed = [k]) && zva md ops l (listed.setIfInBounds k true)
def zwm (md : Region.Mode) (ops : Array Oper) (ts : List Nat) : List Nat → Array Bool → Bool
 | [], listed => zva md ops ts listed
 | k :: l, listed => (Region.ready md ops listed).contains k && Region.free md ops listed k && zwm md ops ts l (listed.setIfInBounds k true)
def z5u (md : Region.Mode) (ops : Array Oper) (hs : List Nat) (t : Nat) (ts : List Nat) : Bool :=
 Region.noSelect ops && decide (hs.length + (ts.length + 1) = ops.size) && zn7 md ops (hs ++ [t]) && zia md ops (t :: ts) && zwm md ops (t :: ts) hs (Array.replicate ops.size false)
  && (hs.all fun i => decide (i < ops.size) && !(t :: ts).contains i) && ((t :: ts).all fun i => decide (i < ops.size))
structure InvO (md : Region.Mode) (ops : Array Oper) (tl : List Nat) (listed : Array Bool) : Prop where
 size : listed.size = ops.size
 closed : ∀ j oj, ops[j]? = some oj → listed.getD j false = true → ∀ e ∈ oj.after, Region.binds md e = true → listed.getD e.on false = true
 tail : ∀ t, t ∈ tl → listed.getD t true = false
theorem InvO.set {tl : List Nat} {i : Nat} {listed : Array Bool} (inv : InvO md ops tl listed) (hi : i ∈ Region.ready md ops listed) (hin : i ∉ tl) : InvO md ops tl (listed.setIfInBounds i true) := by
 obtain ⟨_, oi, hoi, hall⟩ := mem_ready.1 hi
 refine ⟨by simp [inv.size], fun j oj hj hl e he hb => ?_, fun t ht => by rw [getD_set_ne true (fun h => hin (by rw [h]; exact ht))]; exact inv.tail t ht⟩
 by_cases hij : i = j
 · subst hij
   obtain rfl : oj = oi := Option.some.inj (hj.symm.trans hoi)
   exact getD_set_true (hall e he hb)
 · rw [getD_set_ne false hij] at hl
   exact getD_set_true (inv.closed j oj hj hl e he hb)
theorem zh5 {tl : List Nat} {listed : Array Bool} {t : Nat} (inv : InvO md ops tl listed) (ht : listed.getD t true = false) : ∀ (l : List Nat), zn7 md ops (l ++ [t]) = true → (∀ i, i ∈ l → i < ops.size) →
 ∀ i, i ∈ l → listed.getD i false = false → t ∉ Region.ready md ops listed
 | [], _, _, i, hi, _ => by cases hi
 | k :: l, hs, hb, i, hi, hun => by
   simp only [List.cons_append, zn7, Bool.and_eq_true] at hs
   by_cases hl : ∃ j, j ∈ l ∧ listed.getD j false = false
   · obtain ⟨j, hj, hju⟩ := hl
     exact zh5 inv ht l hs.2 (fun i hi => hb i (by simp [hi])) j hj hju
   · have hik : i = k := by
      rcases List.mem_cons.1 hi with h | h
      · exact h
      · exact absurd ⟨i, h, hun⟩ hl
     subst hik
     have h1 := hs.1
     simp only [List.append_eq_nil_iff, List.cons_ne_nil, and_false, List.isEmpty_iff, Bool.or_eq_true, false_or] at h1
     obtain ⟨j, hj, hw⟩ := List.any_eq_true.1 h1
     obtain ⟨oj, hoj, e, he, hbd, hon⟩ := Region.waitsFor_spec hw
     intro hr
     rcases List.mem_append.1 hj with hj | hj
     · have hjl : listed.getD j false = true := by
        cases hx : listed.getD j false with
        | true => rfl
        | false => exact absurd ⟨j, hj, hx⟩ hl
       have := inv.closed j oj hoj hjl e he hbd
       rw [hon, hun] at this
       cases this
     · have hjt : j = t := by simpa using hj
       subst hjt
       obtain ⟨_, ot, hot, hall⟩ := mem_ready.1 hr
       obtain rfl : oj = ot := Option.some.inj (hoj.symm.trans hot)
       have := hall e he hbd
       rw [hon, hun] at this
       cases this
theorem zgi {listed : Array Bool} : ∀ (t : Nat) (ts : List Nat), zia md ops (t :: ts) = true → (∀ i, i ∈ t :: ts → listed.getD i true = false) → ∀ j, j ∈ ts → j ∉ Region.ready md ops listed
 | _, [], _, _, j, hj => by cases hj
 | t, u :: ts, hc, hun, j, hj => by
   simp only [zia, Bool.and_eq_true] at hc
   rcases List.mem_cons.1 hj with h | h
   · subst h
     obtain ⟨oj, hoj, e, he, hb, hon⟩ := Region.waitsFor_spec hc.1
     intro hr
     obtain ⟨_, ot, hot, hall⟩ := mem_ready.1 hr
     obtain rfl : oj = ot := Option.some.inj (hoj.symm.trans hot)
     have := hall e he hb
     rw [hon, getD_both (hun t (by simp))] at this
     cases this
   · exact zgi u ts hc.2 (fun i hi => hun i (by simp [List.mem_cons.1 hi])) j h
def zwn (P : Program) (md : Region.Mode) (ops : Array Oper) (C : World → Prop) (tl : List Nat) (L : Array Bool → Act → Prop) : Nat → Array Bool → Act → Prop
 | 0, listed, a => L listed a
 | f + 1, listed, a => Region.ready md ops listed ≠ [] ∧ ∀ i ∈ Region.ready md ops listed, i ∉ tl ∧ qOp P ops C i (zwn P md ops C tl L f (listed.setIfInBounds i true)) a
theorem zmr {g : Nat} {tl : List Nat} {L : Array Bool → Act → Prop} {Q : Exit → Act → World → Prop} (hL : ∀ listed a w, C w → L listed a → wpAny P md ops Q g listed a w) :
 ∀ (f : Nat) (listed : Array Bool) (a : Act) (w : World), C w → zwn P md ops C tl L f listed a → wpAny P md ops Q (f + g) listed a w := by
 intro f
 induction f with
 | zero => intro listed a w hw h; rw [Nat.zero_add]; exact hL _ _ _ hw h
 | succ f ih =>
   intro listed a w hw h
   rw [show f + 1 + g = (f + g) + 1 by omega]
   refine ⟨fun h0 => absurd h0 h.1, fun i hi => ?_⟩
   exact wpOp_of_qOp hw (fun a' w' hw' h' => ih _ a' w' hw' h') (h.2 i hi).2
theorem zo5 {hs ts : List Nat} {t i : Nat} {oi : Oper} {v : Value} {L : Array Bool → Act → Prop} (hi : ops[i]? = some oi) (hsel : ∀ (j : Nat) (o : Oper) cs b, ops[j]? = some o → o.op ≠ .select cs b)
 (hk : zn7 md ops (hs ++ [t]) = true) (hc : zia md ops (t :: ts) = true) (hlt : ∀ i, i ∈ hs → i < ops.size) (hin : i ∈ hs) (hit : i ∉ t :: ts) (hdone : ∀ listed a, L listed a → ∀ j ∈ Region.ready md ops listed, j ∈ t :: ts) :
 ∀ (f : Nat) (listed : Array Bool) (a : Act), InvO md ops (t :: ts) listed →
   (∀ j oj, ops[j]? = some oj → j ≠ i → listed.getD j true = false → (∀ e ∈ oj.after, Region.binds md e = true → e.on ≠ i) → oi.apart ops oj = true) →
   i ∈ Region.ready md ops listed → YieldsIn P ops C oi v a →
   zwn P md ops C (t :: ts) L f (listed.setIfInBounds i true) (a.put oi.dst v) → zwn P md ops C (t :: ts) L (f + 1) listed a := by
 have noT : ∀ listed : Array Bool, InvO md ops (t :: ts) listed → i ∈ Region.ready md ops listed → ∀ j ∈ Region.ready md ops listed, j ∉ t :: ts := by
  intro listed inv hr j hj hjt
  have hun := getD_both (mem_ready.1 hr).1
  rcases List.mem_cons.1 hjt with h | h
  · subst h; exact zh5 inv (inv.tail j (by simp)) hs hk hlt i hin hun hj
  · exact zgi t ts hc inv.tail j h hj
 intro f
 induction f with
 | zero =>
   intro listed a inv _ hr hy H
   refine ⟨fun h => (by rw [h] at hr; cases hr), fun j hj => ⟨noT listed inv hr j hj, ?_⟩⟩
   by_cases hji : j = i
   · subst hji; exact hy.qOp hi H
   · exact absurd (hdone _ _ H j (ready_mono hj hji)) (noT listed inv hr j hj)
 | succ f ih =>
   intro listed a inv hfree hr hy H
   refine ⟨fun h => (by rw [h] at hr; cases hr), fun j hj => ⟨noT listed inv hr j hj, ?_⟩⟩
   by_cases hji : j = i
   · subst hji; exact hy.qOp hi H
   · have h1 := (H.2 j (ready_mono hj hji)).2
     have hun := (mem_ready.1 hr).1
     obtain ⟨hjun, oj, hoj, hall⟩ := mem_ready.1 hj
     have hnot : ∀ e ∈ oj.after, Region.binds md e = true → e.on ≠ i := fun e he hb heq => by
      have h3 := hall e he hb
      rw [heq, getD_both hun] at h3
      cases h3
     have h2 := qOp_put hoj (hfree j oj hoj hji hjun hnot) (fun cs b => hsel i oi cs b hi) (fun cs b => hsel j oj cs b hoj) hy h1
     refine qOp_mono (fun a' h3 => ih (listed.setIfInBounds j true) a' (inv.set hj (noT listed inv hr j hj)) ?_ (ready_mono hr (Ne.symm hji)) h3.1 ?_) h2
     · intro k ok hk hki hun' hno
       refine hfree k ok hk hki ?_ hno
       by_cases hjk : j = k
       · subst hjk; exact hjun
       · rw [getD_set_ne true hjk] at hun'; exact hun'
     · rw [Array.setIfInBounds_comm _ _ hji]
       exact h3.2
def zby (l : List Oper) : List Nat → List Oper
 | [] => []
 | i :: is => match l[i]? with | some o => o :: zby l is | none => zby l is
theorem zwo {l : List Oper} {hs ts : List Nat} {t : Nat} {Lq : Act → Prop} (hsel : Region.noSelect l.toArray = true) (hk : zn7 md l.toArray (hs ++ [t]) = true) (hc : zia md l.toArray (t :: ts) = true) (hlt : ∀ i, i ∈ hs → i < l.toArray.size)
 (hdis : ∀ i, i ∈ hs → i ∉ t :: ts) : ∀ (h : List Nat) (listed : Array Bool) (a : Act), (∀ i, i ∈ h → i ∈ hs) → InvO md l.toArray (t :: ts) listed →
 zwm md l.toArray (t :: ts) h listed = true → wpQuiet P l.toArray C Lq (zby l h) a →
 zwn P md l.toArray C (t :: ts) (fun listed' a' => zva md l.toArray (t :: ts) listed' = true ∧ Lq a') h.length listed a := by
 intro h
 induction h with
 | nil =>
   intro listed a _ _ hB hq
   exact ⟨by simpa [zwm] using hB, hq⟩
 | cons k h ih =>
   intro listed a hsub inv hB hq
   have hkin := hsub k (by simp)
   have hklt := hlt k hkin
   have h0 : l.toArray[k]? = some l.toArray[k] := Array.getElem?_eq_getElem hklt
   simp only [zwm, Bool.and_eq_true] at hB
   obtain ⟨⟨hr, hf⟩, hB'⟩ := hB
   have hr' : k ∈ Region.ready md l.toArray listed := by simpa using hr
   have hp : zby l (k :: h) = l.toArray[k] :: zby l h := by
    have : l[k]? = some l.toArray[k] := by simp
    simp only [zby, this]
   rw [hp] at hq
   have hst : qOp P l.toArray C k (wpQuiet P l.toArray C Lq (zby l h)) a := by unfold qOp; simp only [h0]; exact hq
   obtain ⟨v, hy, hK⟩ := yieldsIn_of_qOp h0 hst
   refine zo5 h0 (Region.noSelect_spec hsel) hk hc hlt hkin (hdis k hkin) (fun listed' a' hL j hj => ?_) h.length listed a inv (Region.free_spec h0 hf) hr' hy ?_
   · have h1 := hL.1
     simp only [zva, Bool.and_eq_true, decide_eq_true_eq] at h1
     rw [h1.1] at hj
     simp at hj
     simp [hj]
   · exact ih _ _ (fun i hi => hsub i (by simp [hi])) (inv.set hr' (hdis k hkin)) hB' hK
theorem zix {l : List Oper} {Q : Exit → Act → World → Prop} : ∀ (ts : List Nat) (listed : Array Bool) (a : Act) (w : World), (∀ i, i ∈ ts → i < l.toArray.size) →
 zva md l.toArray ts listed = true → wpList P l.toArray Q (zby l ts) a w → wpAny P md l.toArray Q ts.length listed a w
 | [], _, _, _, _, hB, h => ⟨by simpa [zva] using hB, h⟩
 | k :: ts, listed, a, w, hlt, hB, h => by
   have hklt := hlt k (by simp)
   have h0 : l.toArray[k]? = some l.toArray[k] := Array.getElem?_eq_getElem hklt
   have hp : zby l (k :: ts) = l.toArray[k] :: zby l ts := by
    have : l[k]? = some l.toArray[k] := by simp
    simp only [zby, this]
   rw [hp] at h
   simp only [zva, Bool.and_eq_true, decide_eq_true_eq] at hB
   refine ⟨fun h1 => (by rw [hB.1] at h1; cases h1), fun i hi => ?_⟩
   rw [hB.1] at hi
   obtain rfl : i = k := by simpa using hi
   have hw : wpOp P l.toArray Q i (wpList P l.toArray Q (zby l ts)) a w := by unfold wpOp; simp only [h0]; exact h
   exact wpOp_mono (fun a' w' h' => zix ts _ a' w' (fun i hi => hlt i (by simp [hi])) hB.2 h') hw
theorem zat {id : Nat} {Q : Exit → Act → World → Prop} {a : Act} {w : World} {l : List Oper} (hs : List Nat) (t : Nat) (ts : List Nat) (hm : P.follows .mixedOrders = true) (hB : z5u .any l.toArray hs t ts = true)
 (h : wpQuiet P l.toArray (fun w' => ∃ x, w' = w.plus x) (fun a' => ∀ w', (∃ x, w' = w.plus x) → wpList P l.toArray Q (zby l (t :: ts)) a' w') (zby l hs) a) : (Code.region id l.toArray true).wp P Q a w := by
 simp only [z5u, Bool.and_eq_true, decide_eq_true_eq] at hB
 obtain ⟨⟨⟨⟨⟨⟨hsel, hlen⟩, hk⟩, hc⟩, hlex⟩, hall⟩, htlt⟩ := hB
 have htlt' : ∀ i, i ∈ t :: ts → i < l.toArray.size := fun i hi => of_decide_eq_true (List.all_eq_true.1 htlt i hi)
 have hlt : ∀ i, i ∈ hs → i < l.toArray.size := fun i hi => by
  have := List.all_eq_true.1 hall i hi
  simp only [Bool.and_eq_true, decide_eq_true_eq] at this
  exact this.1
 have hdis : ∀ i, i ∈ hs → i ∉ t :: ts := fun i hi hit => by
  have := List.all_eq_true.1 hall i hi
  simp only [Bool.and_eq_true, Bool.not_eq_true', List.contains_eq_mem, decide_eq_false_iff_not] at this
  exact this.2 hit
 have inv0 : InvO .any l.toArray (t :: ts) (Array.replicate l.toArray.size false) :=
  ⟨by simp, fun j oj _ hl => (by rw [getD_replicate_false] at hl; cases hl), fun i hi => getD_in (by simpa using htlt' i hi) (getD_replicate_false _ _)⟩
 have H := zwo (md := .any) (C := fun w' => ∃ x, w' = w.plus x) hsel hk hc hlt hdis hs _ a (fun _ h => h) inv0 hlex h
 refine wp_region_any hm ?_
 have := zmr (Q := Q) (g := (t :: ts).length) (fun listed a' w' hw' hL => zix (md := .any) (t :: ts) listed a' w' htlt' hL.1 (hL.2 w' hw')) _ _ _ { w with drawn := w.drawn + 1 } ⟨⟨#[], fun d => d + 1⟩, by simp [World.plus]⟩ H
 rw [List.length_cons, hlen] at this
 exact this
end
end Go.Proofs.YthfalocligkamaaGreatDoor
