/-
  The next phase, as a plain function of an emitter; what every call of it keeps.
  The next phase leaves an error or a right state, as many cards, and no mana: in plain Lean.
  Strike and End of an emitter with an error or with a right state, however many events there are.
  The walk of trigger's Upkeep.
  The walks of turn's empty, wear and wake.
  The walks of turn's leave and Next.
  The walk of turn's Next.
-/
import Derived.Test.YtgobdndjemicjaaGreatDoorMTeN
import Derived.Test.YtgobdndjemicjaaGreatDoorMCb4
import Derived.Test.YtgobdndjemicjaaGreatDoorMTrF
namespace Go.Proofs.YtgobdndjemicjaaGreatDoor
open Go Go.RowKit Go.Shelf

/-! ### What a phase's end does -/
def Em.emptyTo (E : Em) (n : Nat) : Em := (List.range n).foldl (fun E i => E.setPl ((i / 6 : Nat) : Int) ((1 + i % 6 : Nat) : Int) 0) E
def Em.clears (E : Em) (id : Int) (l : List Int) : Em := l.foldl (fun E f => E.setObj id f 0) E
def wearL : List Int := [6, 8, 9, 10]
def Em.wears (E : Em) (l : List Int) : Em := l.foldl (fun E id => E.clears id wearL) E
def Em.wear (E : Em) : Em := E.wears (E.state.list 8)
def Em.wakeOne (E : Em) (S : St) (p id : Int) : Em := if gt (rowAt S.objs id.toNat) 2 = p then E.clears id [4, 5] else E
def Em.wakes (E : Em) (S : St) (p : Int) (l : List Int) : Em := l.foldl (fun E id => E.wakeOne S p id) E
def Em.wake (E : Em) (p : Int) : Em := E.wakes E.state p (E.state.list 8)
def Em.hits (E : Em) : Em := E.strikes E.state (HitsN E.state)
def Em.fought (E : Em) : Em := E.ends (E.state.list 8)
def Em.clean (E : Em) : Em := ((((E.wear.setGame 0 (wrap64 (E.state.num 18 + 1))).setGame 1 (1 - E.state.num 19)).setPl 0 7 0).setPl 1 7 0).wake (1 - E.state.num 19)
def Em.leave (E : Em) : Em :=
  if E.state.num 20 = 0 then (if 1 < E.state.num 18 then E.draw (E.state.num 19) else E)
  else if E.state.num 20 = 2 then E
  else if E.state.num 20 = 4 then E.hits.fought
  else if E.state.num 20 = 7 then E.clean
  else E
def Em.leaveR (E : Em) : Int :=
  if E.state.num 20 = 0 then 1
  else if E.state.num 20 = 2 then (if attackersN E.state = [] then 5 else 3)
  else if E.state.num 20 = 4 then 5
  else if E.state.num 20 = 7 then 0
  else E.state.num 20 + 1
def Em.goes (E : Em) (ph : Int) : Em :=
  let E1 := E.setGame 2 ph
  let E2 := (E1.setGame 3 (if ph = 3 then 1 - E1.state.num 19 else E1.state.num 19)).setGame 4 0
  (if ph = 0 then E2.upkeep else E2).settle
def Em.next (E : Em) : Em := if E.err ≠ 0 then E else (E.emptyTo 12).leave.goes (E.emptyTo 12).leaveR
theorem emptyTo_succ (E : Em) (n : Nat) : E.emptyTo (n + 1) = (E.emptyTo n).setPl ((n / 6 : Nat) : Int) ((1 + n % 6 : Nat) : Int) 0 := by
  unfold Em.emptyTo
  rw [List.range_succ, List.foldl_append]; rfl
theorem fold_gt {α : Type} (f : α → Int → α) (E : α) (l : List Int) (k : Nat) (h : k < l.length) : (l.take (k + 1)).foldl f E = f ((l.take k).foldl f E) (gt l k) := by
  have e : l.take (k + 1) = l.take k ++ [gt l k] := by rw [List.take_succ_eq_append_getElem h, gt_eq _ _ h]
  rw [e, List.foldl_append]
  rfl
theorem clears_succ (E : Em) (id : Int) (l : List Int) (k : Nat) (h : k < l.length) : E.clears id (l.take (k + 1)) = (E.clears id (l.take k)).setObj id (gt l k) 0 := fold_gt _ _ _ _ h
theorem wears_succ (E : Em) (l : List Int) (k : Nat) (h : k < l.length) : E.wears (l.take (k + 1)) = (E.wears (l.take k)).clears (gt l k) wearL := fold_gt _ _ _ _ h
theorem wakes_succ (E : Em) (S : St) (p : Int) (l : List Int) (k : Nat) (h : k < l.length) : E.wakes S p (l.take (k + 1)) = (E.wakes S p (l.take k)).wakeOne S p (gt l k) := fold_gt _ _ _ _ h
/-! ### What is kept, call by call -/
/-- What lasts whatever events do: numbers of places in Q are set, objects that are no cards are made. -/
structure Cl (Q : Nat → Prop) (P : St → Prop) : Prop where
  obj : ∀ {S : St} (a f : Nat) (v : Int), P S → f ≠ 13 → P (S.setObj a f v)
  num : ∀ {S : St} (q : Nat) (v : Int), P S → Q q → P (S.setNum q v)
  move : ∀ {S : St} (a b c d e : Nat), P S → P (movedS S a b c d e)
  make : ∀ {S : St} (c o k : Int), P S → k ≠ 0 → P { S with objs := S.objs ++ [[c, o, o, 10, 0, 0, 0, 0, 0, 0, 0, 0, 0, k, 0, 0, 0, 3]], list := upd S.list 10 (S.list 10 ++ [(S.objs.length : Int)]) }
def Hv (P : St → Prop) (E : Em) : Prop := E.err ≠ 0 ∨ P E.now
section
variable {Q : Nat → Prop} {P : St → Prop} {E : Em}
theorem Hv.do1 (h : Hv P E) (e : List Int) (hs : ∀ S, doEv E.now e = .ok S → P E.now → P S) : Hv P (E.do1 e) := by
  unfold Em.do1
  split
  · exact h
  · rename_i he
    have hp := h.resolve_left he
    cases hd : doEv E.now e with
    | error n => exact Or.inl (doEv_err hd)
    | ok S =>
      show Hv P (if E.evs.length < 65536 then _ else _)
      split
      · exact Or.inr (hs S hd hp)
      · exact Or.inl (by show (5 : Int) ≠ 0; decide)
theorem Hv.fail (h : Hv P E) (n : Int) : Hv P (E.fail n) := by
  unfold Em.fail
  split
  · exact Or.inr (h.resolve_left (fun h => h (by assumption)))
  · exact h
theorem Hv.set (h : Hv P E) (e : List Int) (u v : Int) (hs : ∀ S, doEv E.now ((e.set 3 u).set 4 v) = .ok S → P E.now → P S) : Hv P (E.set e u v) := by
  unfold Em.set
  split
  · exact h.fail _
  · exact h.do1 _ hs
theorem Hv.setObj (C : Cl Q P) (h : Hv P E) (id f v : Int) (hf : f.toNat ≠ 13) : Hv P (E.setObj id f v) := by
  unfold Em.setObj
  split
  · exact h
  · split
    · exact h.do1 _ (fun S hS hp => by rw [(doEv_obj hS).2]; exact C.obj _ _ _ hp hf)
    · exact h.set _ _ _ (fun S hS hp => by rw [(doEv_obj (u := gt (rowAt E.now.objs id.toNat) f.toNat) (v := v) hS).2]; exact C.obj _ _ _ hp hf)
theorem Hv.setPl (C : Cl Q P) (h : Hv P E) (p f v : Int) (hq : Q (p.toNat * 9 + f.toNat)) : Hv P (E.setPl p f v) := by
  unfold Em.setPl
  split
  · exact h
  · split
    · exact h.do1 _ (fun S hS hp => by rw [doEv_pl hS]; exact C.num _ _ hp hq)
    · exact h.set _ _ _ (fun S hS hp => by rw [doEv_pl (u := E.now.num (p.toNat * 9 + f.toNat)) (v := v) hS]; exact C.num _ _ hp hq)
theorem Hv.setGame (C : Cl Q P) (h : Hv P E) (f v : Int) (hq : Q (18 + f.toNat)) : Hv P (E.setGame f v) := by
  unfold Em.setGame
  split
  · exact h
  · split
    · exact h.do1 _ (fun S hS hp => by rw [doEv_gm hS]; exact C.num _ _ hp hq)
    · exact h.set _ _ _ (fun S hS hp => by rw [doEv_gm (u := E.now.num (18 + f.toNat)) (v := v) hS]; exact C.num _ _ hp hq)
theorem Hv.make (C : Cl Q P) (h : Hv P E) (c o k : Int) (hk : k ≠ 0) : Hv P (E.make c o k) := by
  unfold Em.make
  split
  · exact h
  · exact h.do1 _ (fun S hS hp => by rw [(doEv_make hS).2]; exact C.make _ _ _ hp hk)
theorem doEv_mv {S T : St} {e : List Int} (h0 : gt e 0 = 1) (h : doEv S e = .ok T) : ∃ a b c d e', T = movedS S a b c d e' := by
  have hc := doEv_check h
  unfold doEv at h
  rw [if_neg (by rw [hc]; simp), h0, if_neg (by decide), if_neg (by decide), if_pos rfl] at h
  unfold moveS at h
  split at h
  · cases h
  split at h
  · cases h
  split at h
  · cases h
  · injection h with h; exact ⟨_, _, _, _, _, h.symm⟩
theorem Hv.clears (C : Cl Q P) (id : Int) : ∀ (l : List Int) {E : Em}, Hv P E → (∀ f ∈ l, f.toNat ≠ 13) → Hv P (E.clears id l)
  | [], _, h, _ => h
  | f :: l, E, h, hl => Hv.clears C id l (h.setObj C id f 0 (hl f (by simp))) (fun g hg => hl g (by simp [hg]))
theorem Hv.dos (C : Cl Q P) : ∀ (l : List (List Int)) {E : Em}, Hv P E → (∀ e ∈ l, ∃ a u v, e = [2, a, 17, u, v, 0]) → Hv P (E.dos l)
  | [], _, h, _ => h
  | e :: l, E, h, hl => by
    obtain ⟨a, u, v, rfl⟩ := hl e (by simp)
    exact Hv.dos C l (h.do1 _ (fun S hS hp => by rw [(doEv_obj hS).2]; exact C.obj _ _ _ hp (by decide))) (fun g hg => hl g (by simp [hg]))
theorem Hv.show (C : Cl Q P) (h : Hv P E) (id p : Int) : Hv P (E.show id p) := by
  unfold Em.show
  split
  · exact h
  · refine h.dos C _ (fun e he => ?_)
    unfold showEv at he
    split at he
    · cases he
    split at he
    · cases he
    · exact ⟨_, _, _, List.mem_singleton.1 he⟩
theorem Hv.iff' (h : Hv P E) {p : Prop} [Decidable p] {F : Em} (hf : Hv P F) : Hv P (if p then F else E) := by split <;> assumption
theorem Hv.put2 (C : Cl Q P) (h : Hv P E) (id fr dz own : Int) : Hv P (E.put2 id fr dz own) := by
  unfold Em.put2
  have h2 : Hv P (if dz ≠ 8 then E.rest id else E) := h.iff' (h.clears C id restL (by decide))
  have h3 := h2.iff' (p := dz < 8) (h2.setObj C id 2 own (by decide))
  have h4 := h3.iff' (p := dz ≠ 9) (h3.setObj C id 16 0 (by decide))
  have h5 := h4.iff' (p := dz = 8 ∧ fr ≠ dz) (h4.setObj C id 5 1 (by decide))
  exact h5.show C id (kzone dz)
theorem Hv.await (h : Hv P E) (id wh ctl : Int) : Hv P (E.await id wh ctl) := by
  unfold Em.await
  split
  · exact h
  · exact h.fail _
theorem Hv.put3 (h : Hv P E) (id fr dz base ctl : Int) : Hv P (E.put3 id fr dz base ctl) := by
  unfold Em.put3
  split
  · exact h
  split
  · exact h.await _ _ _
  split
  · exact h.await _ _ _
  · exact h
theorem Hv.put (C : Cl Q P) (h : Hv P E) (id base : Int) : Hv P (E.put id base) := by
  unfold Em.put
  split
  · exact h
  split
  · exact Or.inl (show (4 : Int) ≠ 0 by decide)
  split
  · exact Or.inl (show (12 : Int) ≠ 0 by decide)
  · have h1 : Hv P (E.do1 (E.now.putEv id (homeN (rowAt E.now.objs id.toNat) base))) := h.do1 _ (fun S hS hp => by
      obtain ⟨a, b, c, d, e, rfl⟩ := doEv_mv rfl hS
      exact C.move _ _ _ _ _ hp)
    exact (h1.put2 C _ _ _ _).put3 _ _ _ _ _
theorem Hv.puts (C : Cl Q P) : ∀ (l : List Int) {E : Em}, Hv P E → Hv P (E.puts l)
  | [], _, h => h
  | x :: l, _, h => Hv.puts C l (h.put C x 4)
theorem Hv.draw (C : Cl Q P) (h : Hv P E) (p : Int) (hq : ∀ p : Nat, p < 2 → Q (p * 9 + 8)) : Hv P (E.draw p) := by
  unfold Em.draw
  split
  · exact h
  split
  · exact Or.inl (show (1 : Int) ≠ 0 by decide)
  rename_i hp
  split
  · exact h.setPl C p 8 1 (hq p.toNat (by omega))
  · exact h.put C _ _
theorem Hv.life (C : Cl Q P) (h : Hv P E) (p m : Int) (hq : ∀ p : Nat, p < 2 → Q (p * 9)) : Hv P (E.life p m) := by
  unfold Em.life
  split
  · exact h
  split
  · exact Or.inl (show (1 : Int) ≠ 0 by decide)
  · rename_i hp
    exact h.setPl C p 0 _ (hq p.toNat (by omega))
theorem Hv.strike (C : Cl Q P) (h : Hv P E) (S : St) (d : Nat) (t n : Int) (hq : ∀ p : Nat, p < 2 → Q (p * 9)) : Hv P (E.strike S d t n) := by
  unfold Em.strike
  have h1 : Hv P (if t < 0 then E.life (-1 - t) (-n) else E.setObj (t - 1) 6 (min (gt (rowAt E.now.objs (t - 1).toNat) 6 + (if hasB S d 16 = true then n + 1000 else n)) 1073741824)) := by
    split
    · exact h.life C _ _ hq
    · exact h.setObj C _ 6 _ (by decide)
  exact h1.iff' (h1.life C _ _ hq)
theorem Hv.strikes (C : Cl Q P) (S : St) (hq : ∀ p : Nat, p < 2 → Q (p * 9)) : ∀ (l : LR) {E : Em}, Hv P E → Hv P (E.strikes S l)
  | [], _, h => h
  | _ :: l, _, h => Hv.strikes C S hq l (h.strike C S _ _ _ hq)
theorem Hv.ends (C : Cl Q P) : ∀ (l : List Int) {E : Em}, Hv P E → Hv P (E.ends l)
  | [], _, h => h
  | x :: l, _, h => Hv.ends C l ((h.setObj C x 11 0 (by decide)).setObj C x 12 0 (by decide))
theorem Hv.wears (C : Cl Q P) : ∀ (l : List Int) {E : Em}, Hv P E → Hv P (E.wears l)
  | [], _, h => h
  | x :: l, _, h => Hv.wears C l (h.clears C x wearL (by decide))
theorem Hv.wakes (C : Cl Q P) (S : St) (p : Int) : ∀ (l : List Int) {E : Em}, Hv P E → Hv P (E.wakes S p l)
  | [], _, h => h
  | x :: l, _, h => Hv.wakes C S p l (h.iff' (h.clears C x [4, 5] (by decide)))
theorem Hv.abil (C : Cl Q P) (h : Hv P E) (id n p : Int) : Hv P (E.abil id n p) := by
  unfold Em.abil
  split
  · exact h
  split
  · exact Or.inl (show (4 : Int) ≠ 0 by decide)
  split
  · exact Or.inl (show (1 : Int) ≠ 0 by decide)
  · exact (((h.make C _ _ 2 (by decide)).setObj C _ 14 _ (by decide)).setObj C _ 15 _ (by decide)).put C _ 9
theorem Hv.abils (C : Cl Q P) : ∀ (l : LR) {E : Em}, Hv P E → Hv P (E.abils l)
  | [], _, h => h
  | _ :: l, _, h => Hv.abils C l (h.abil C _ _ _)
theorem Hv.round (C : Cl Q P) (h : Hv P E) (hq : Q 24) : Hv P E.round := by
  unfold Em.round
  split
  · exact h.setGame C 6 _ hq
  · exact h.puts C _
theorem Hv.run (C : Cl Q P) (hq : Q 24) : ∀ (g : Nat) {E : Em} (fuel n : Int), Hv P E → Hv P (runG g E fuel n).1
  | 0, _, _, _, h => h
  | g + 1, E, fuel, n, h => by
    rw [runG]
    split
    · exact h
    split
    · exact h
    split
    · exact h.setGame C 6 3 hq
    · exact Hv.run C hq g fuel (n + 1) (h.round C hq)
theorem Hv.settle (C : Cl Q P) (h : Hv P E) (hq : Q 24) : Hv P E.settle := by
  have hr : Hv P E.ran := h.run C hq _ _ _
  unfold Em.settle
  split
  · exact hr
  · exact Hv.abils C _ (E := E.ran.taken) hr
theorem Hv.upkeep (C : Cl Q P) (h : Hv P E) : Hv P E.upkeep := Hv.abils C _ h
end
end Go.Proofs.YtgobdndjemicjaaGreatDoor
namespace Go.Proofs.YtgobdndjemicjaaGreatDoor
open Go Go.RowKit Go.Shelf

theorem state_ok {E : Em} (h : E.err = 0) : E.state = E.now := by unfold Em.state; rw [if_neg (by rw [h]; simp)]
theorem state_bad {E : Em} (h : E.err ≠ 0) : E.state = St0 := by unfold Em.state; rw [if_pos h]
theorem upd_id {α : Type} (f : Nat → α) (z : Nat) : upd f z (f z) = f := by
  funext i
  unfold upd
  split
  · rename_i e; rw [e]
  · rfl
theorem got_set {E : Em} {e : List Int} {u v : Int} (h : (E.set e u v).err = 0) : (u = v ∧ (E.set e u v).now = E.now) ∨ doEv E.now ((e.set 3 u).set 4 v) = .ok (E.set e u v).now := by
  unfold Em.set at h ⊢
  split at h
  · rename_i hu
    rw [if_pos hu]
    exact Or.inl ⟨hu, fail_now _ _⟩
  · rename_i hu
    rw [if_neg hu]
    refine Or.inr ?_
    unfold Em.do1 at h ⊢
    split at h
    · rename_i he; exact absurd h he
    · rename_i he
      rw [if_neg he]
      cases hd : doEv E.now ((e.set 3 u).set 4 v) with
      | error n => rw [hd] at h; exact absurd h (doEv_err hd)
      | ok S =>
        show _ = Except.ok (if E.evs.length < 65536 then _ else _ : Em).now
        split <;> rfl
theorem got_setPl {E : Em} {p f v : Int} (h : (E.setPl p f v).err = 0) : (E.setPl p f v).now = E.now.setNum (p.toNat * 9 + f.toNat) v := by
  unfold Em.setPl at h ⊢
  split at h
  · rename_i he; exact absurd h he
  rename_i he
  split at h
  · rename_i hc
    exfalso
    unfold Em.do1 at h
    rw [if_neg he] at h
    cases hd : doEv E.now [3, p, f, 0, 0, 0] with
    | error n => rw [hd] at h; exact absurd h (doEv_err hd)
    | ok S => exact hc (doEv_check hd)
  · rename_i hc
    rw [if_neg he, if_neg hc]
    rcases got_set h with ⟨h1, h2⟩ | h1
    · rw [h2]
      unfold St.setNum
      rw [← h1, upd_id]
    · exact doEv_pl (u := E.now.num (p.toNat * 9 + f.toNat)) (v := v) h1
theorem got_setGame {E : Em} {f v : Int} (h : (E.setGame f v).err = 0) : (E.setGame f v).now = E.now.setNum (18 + f.toNat) v := by
  unfold Em.setGame at h ⊢
  split at h
  · rename_i he; exact absurd h he
  rename_i he
  split at h
  · rename_i hc
    exfalso
    unfold Em.do1 at h
    rw [if_neg he] at h
    cases hd : doEv E.now [4, 0, f, 0, 0, 0] with
    | error n => rw [hd] at h; exact absurd h (doEv_err hd)
    | ok S => exact hc (doEv_check hd)
  · rename_i hc
    rw [if_neg he, if_neg hc]
    rcases got_set h with ⟨h1, h2⟩ | h1
    · rw [h2]
      unfold St.setNum
      rw [← h1, upd_id]
    · exact doEv_gm (u := E.now.num (18 + f.toNat)) (v := v) h1
theorem life_err {E : Em} (h : E.err ≠ 0) (p m : Int) : E.life p m = E := by unfold Em.life; rw [if_pos h]
/-! ### Fights, wear and wake -/
/-- An error, or a right state whose lists are another's. -/
def FoR (S : St) (d : List Int) (E : Em) : Prop := E.err ≠ 0 ∨ (Rg 0 d E ∧ E.now.list = S.list ∧ E.now.objs.length = S.objs.length ∧ ∀ i, gt (rowAt E.now.objs i) 3 = gt (rowAt S.objs i) 3)
section
variable {S : St} {d : List Int} {E : Em}
theorem Og.for' (h : Og 0 d E) : FoR E.state d E := by
  rcases h with h | h
  · exact Or.inl h
  · rw [state_ok h.err]; exact Or.inr ⟨h, rfl, rfl, fun _ => rfl⟩
theorem FoR.og (h : FoR S d E) : Og 0 d E := h.imp id And.left
theorem obj_zero (n : Nat) (f : Nat) (hf : 4 ≤ f ∧ f ≤ 12) : gt (objBounds n) (f * 2) ≤ 0 ∧ 0 ≤ gt (objBounds n) (f * 2 + 1) := by
  have : f = 4 ∨ f = 5 ∨ f = 6 ∨ f = 7 ∨ f = 8 ∨ f = 9 ∨ f = 10 ∨ f = 11 ∨ f = 12 := by omega
  rcases this with rfl | rfl | rfl | rfl | rfl | rfl | rfl | rfl | rfl <;> simp [objBounds, gt]
theorem FoR.set (h : FoR S d E) (a f : Nat) (v : Int) (ha : a < S.objs.length) (h8 : gt (rowAt S.objs a) 3 = 8) (hf : 4 ≤ f ∧ f ≤ 12) (hv : gt (objBounds S.objs.length) (f * 2) ≤ v ∧ v ≤ gt (objBounds S.objs.length) (f * 2 + 1)) : FoR S d (E.setObj a f v) := by
  rcases h with h | ⟨hR, h1, h2, h3⟩
  · rw [setObj_err h]; exact Or.inl h
  have hO := hR.setObj a f v (fun a' g ha' hg hal => by
    obtain rfl : a = a' := by omega
    obtain rfl : f = g := by omega
    exact hR.right.onField hR.wid a f v hal (by rw [h3]; exact h8) hf (by rw [h2]; exact hv))
  by_cases he : (E.setObj a f v).err = 0
  · have hn := setObj_is hR.err he
    refine Or.inr ⟨hO.err he, by rw [hn]; exact h1, by rw [hn, setObj_len]; exact h2, fun i => ?_⟩
    rw [hn, setObj_row _ _ _ _ _ (by rw [h2]; exact ha)]
    split
    · rename_i e
      rw [gt_set _ _ _ _ (by rw [hR.wid a (by rw [h2]; exact ha)]; omega), if_neg (by omega), e]; exact h3 i
    · exact h3 i
  · exact Or.inl he
theorem FoR.life (h : FoR S d E) (p : Nat) (hp : p < 2) (m : Int) : FoR S d (E.life p m) := by
  rcases h with h | ⟨hR, h1, h2, h3⟩
  · rw [life_err h]; exact Or.inl h
  unfold Em.life
  rw [if_neg (by rw [hR.err]; simp), if_neg (by omega)]
  generalize hb : betw (E.now.num ((p : Int).toNat * 9) + betw m (-2147483648) 2147483648) (-1073741824) 1073741824 = v
  have hv : -1073741824 ≤ v ∧ v ≤ 1073741824 := by rw [← hb]; unfold betw; omega
  have hO := hR.setPl p 0 hp (by omega) v (by simp [inB, plBounds, gt]; omega)
  by_cases he : (E.setPl p 0 v).err = 0
  · have hn := got_setPl he
    exact Or.inr ⟨hO.err he, by rw [hn]; exact h1, by rw [hn]; exact h2, fun i => by rw [hn]; exact h3 i⟩
  · exact Or.inl he
theorem strike_err (h : E.err ≠ 0) (S : St) (k : Nat) (t n : Int) : E.strike S k t n = E := by
  unfold Em.strike
  simp only [life_err h, setObj_err h, ite_self]
theorem FoR.strike (hS : Right S) (h : FoR S d E) {k : Nat} {t n : Int} (H : HitIn S k t n) : FoR S d (E.strike S k t n) := by
  by_cases he : E.err = 0
  · have hE := h.resolve_left (fun h => h he)
    have hact := hS.active
    have hd : k < S.objs.length := by have := (creatureB_in H.from').2.1; omega
    have hctl : 0 ≤ gt (rowAt S.objs k) 2 ∧ gt (rowAt S.objs k) 2 ≤ 1 := hS.num hd (f := 2) (by decide)
    unfold Em.strike
    have h1 : FoR S d (if t < 0 then E.life (-1 - t) (-n) else E.setObj (t - 1) 6 (min (gt (rowAt E.now.objs (t - 1).toNat) 6 + (if hasB S k 16 = true then n + 1000 else n)) 1073741824)) := by
      rcases H.at' with rfl | ⟨e, rfl, he⟩
      · have hf : foeN S < 0 := by unfold foeN; omega
        rw [if_pos hf]
        obtain ⟨p, hp⟩ := Int.eq_ofNat_of_zero_le (show 0 ≤ -1 - foeN S by unfold foeN; omega)
        rw [hp]
        exact h.life p (by unfold foeN at hp; omega) _
      · have he2 := creatureB_in he
        have hel : e < S.objs.length := by omega
        rw [if_neg (by omega), show (e : Int) + 1 - 1 = (e : Int) by omega, Int.toNat_natCast]
        have hdm : 0 ≤ gt (rowAt E.now.objs e) 6 ∧ gt (rowAt E.now.objs e) 6 ≤ 1073741824 := hE.1.right.num (by rw [hE.2.2.1]; exact hel) (f := 6) (by decide)
        have h0 := H.pos
        have hv : 0 ≤ (if hasB S k 16 = true then n + 1000 else n) := by split <;> omega
        have e1 : gt (objBounds S.objs.length) (6 * 2) = 0 := rfl
        have e2 : gt (objBounds S.objs.length) (6 * 2 + 1) = 1073741824 := rfl
        exact h.set e 6 _ hel (by have := he2.2.2.1; rwa [Int.toNat_natCast] at this) (by omega) (by rw [e1, e2]; omega)
    dsimp only
    by_cases h32 : hasB S k 32 = true
    · rw [if_pos h32]
      obtain ⟨p, hp⟩ := Int.eq_ofNat_of_zero_le hctl.1
      rw [hp]
      exact h1.life p (by omega) n
    · rw [if_neg h32]; exact h1
  · rw [strike_err he]; exact h
theorem FoR.strikes (hS : Right S) (h : FoR S d E) : ∀ k, k ≤ (HitsN S).length → FoR S d (E.strikes S ((HitsN S).take k))
  | 0, _ => h
  | k + 1, hk => by
    rw [strikes_succ E S _ k (by omega)]
    obtain ⟨a, t, n, hr, H⟩ := hits_in hS (r := rowAt (HitsN S) k) (rowAt_in _ _ (by omega))
    rw [hr]
    exact FoR.strike hS (FoR.strikes hS h k (by omega)) H
theorem Right.stands (hS : Right S) (k : Nat) (hk : k < (S.list 8).length) : ∃ a : Nat, gt (S.list 8) k = a ∧ a < S.objs.length ∧ gt (rowAt S.objs a) 3 = 8 := by
  obtain ⟨o0, o1, o3, _⟩ := hS.zon.ok 8 (by decide) (gt (S.list 8) k) (by rw [gt_eq _ _ hk]; exact List.getElem_mem _)
  obtain ⟨a, ha⟩ := Int.eq_ofNat_of_zero_le o0
  rw [ha] at o1 o3
  rw [Int.toNat_natCast] at o3
  exact ⟨a, ha, by omega, by simpa using o3⟩
theorem FoR.clears (a : Nat) (ha : a < S.objs.length) (h8 : gt (rowAt S.objs a) 3 = 8) : ∀ (l : List Int), (∀ f ∈ l, 4 ≤ f ∧ f ≤ 12) → ∀ {E : Em}, FoR S d E → FoR S d (E.clears a l)
  | [], _, _, h => h
  | f :: l, hl, E, h => by
    have hf := hl f (by simp)
    obtain ⟨g, rfl⟩ := Int.eq_ofNat_of_zero_le (show 0 ≤ f by omega)
    exact FoR.clears a ha h8 l (fun x hx => hl x (by simp [hx])) (h.set a g 0 ha h8 (by omega) (obj_zero _ g (by omega)))
theorem FoR.ends (hS : Right S) (h : FoR S d E) : ∀ k, k ≤ (S.list 8).length → FoR S d (E.ends ((S.list 8).take k))
  | 0, _ => h
  | k + 1, hk => by
    rw [ends_succ E _ k (by omega)]
    obtain ⟨a, e, ha, h8⟩ := hS.stands k (by omega)
    rw [e]
    have h0 := FoR.ends hS h k (by omega)
    have h1 := FoR.set h0 a 11 0 ha h8 (by omega) (obj_zero _ 11 (by omega))
    exact FoR.set h1 a 12 0 ha h8 (by omega) (obj_zero _ 12 (by omega))
theorem FoR.wears (hS : Right S) (h : FoR S d E) : ∀ k, k ≤ (S.list 8).length → FoR S d (E.wears ((S.list 8).take k))
  | 0, _ => h
  | k + 1, hk => by
    rw [wears_succ E _ k (by omega)]
    obtain ⟨a, e, ha, h8⟩ := hS.stands k (by omega)
    rw [e]
    have h0 := FoR.wears hS h k (by omega)
    exact FoR.clears a ha h8 wearL (by decide) h0
theorem FoR.wakes (hS : Right S) (h : FoR S d E) (p : Int) : ∀ k, k ≤ (S.list 8).length → FoR S d (E.wakes S p ((S.list 8).take k))
  | 0, _ => h
  | k + 1, hk => by
    rw [wakes_succ E S p _ k (by omega)]
    obtain ⟨a, e, ha, h8⟩ := hS.stands k (by omega)
    rw [e]
    have h0 := FoR.wakes hS h p k (by omega)
    unfold Em.wakeOne
    split
    · exact FoR.clears a ha h8 [4, 5] (by decide) h0
    · exact h0
theorem Og.rightS {m : Nat} (h : Og m d E) : Right E.state := by
  rcases h with h | h
  · rw [state_bad h]; exact st0_right
  · rw [state_ok h.err]; exact h.right
theorem Og.hits (h : Og 0 d E) : Og 0 d E.hits := by
  have := (FoR.strikes h.rightS h.for' (HitsN E.state).length (Nat.le_refl _)).og
  rw [List.take_length] at this
  exact this
theorem Og.fought (h : Og 0 d E) : Og 0 d E.fought := by
  have := (FoR.ends h.rightS h.for' (E.state.list 8).length (Nat.le_refl _)).og
  rw [List.take_length] at this
  exact this
theorem Og.wear (h : Og 0 d E) : Og 0 d E.wear := by
  have := (FoR.wears h.rightS h.for' (E.state.list 8).length (Nat.le_refl _)).og
  rw [List.take_length] at this
  exact this
theorem Og.wake (h : Og 0 d E) (p : Int) : Og 0 d (E.wake p) := by
  have := (FoR.wakes h.rightS h.for' p (E.state.list 8).length (Nat.le_refl _)).og
  rw [List.take_length] at this
  exact this
/-! ### The next phase -/
theorem place_in : ∀ i, i < 12 → inB 0 (gt plBounds ((1 + i % 6) * 2)) (gt plBounds ((1 + i % 6) * 2 + 1)) = true := by decide
theorem Og.emptyTo {m : Nat} (h : Og m d E) : ∀ n, n ≤ 12 → Og m d (E.emptyTo n)
  | 0, _ => h
  | n + 1, hn => by
    rw [emptyTo_succ]
    exact (Og.emptyTo h n (by omega)).setPl (n / 6) (1 + n % 6) (by omega) (by omega) 0 (place_in n (by omega))
theorem turn_big {m : Nat} (h : Og m d E) : (E.setGame 0 1073741825).err ≠ 0 := fun he => by
  have hE : E.err = 0 := by
    by_cases h0 : E.err = 0
    · exact h0
    · rw [setGame_err h0] at he; exact absurd he h0
  have hR := h.err hE
  have hg : 0 ≤ E.now.num 18 ∧ E.now.num 18 ≤ 1073741824 := hR.right.gm 0 (by decide)
  have hn := got_setGame he
  unfold Em.setGame at he
  rw [if_neg (by rw [hE]; simp)] at he
  split at he
  · rename_i hc
    unfold Em.do1 at he
    rw [if_neg (by rw [hE]; simp)] at he
    cases hd : doEv E.now [4, 0, 0, 0, 0, 0] with
    | error n => rw [hd] at he; exact absurd he (doEv_err hd)
    | ok S => exact hc (doEv_check hd)
  · rcases got_set he with ⟨h1, _⟩ | h1
    · have h1 : E.now.num 18 = 1073741825 := h1
      omega
    · have hc := doEv_check h1
      have hc : evCheck [4, 0, 0, E.now.num 18, 1073741825, 0] = 0 := hc
      unfold evCheck evSpare evRanges evMakes inR evSmall inB at hc
      simp only [gt, List.getD_cons_zero, List.getD_cons_succ] at hc
      simp at hc
theorem Og.turn {m : Nat} (h : Og m d E) (t : Int) (ht : 0 ≤ t ∧ t ≤ 1073741824) : Og m d (E.setGame 0 (wrap64 (t + 1))) := by
  have hw : wrap64 (t + 1) = t + 1 := by unfold wrap64; omega
  rw [hw]
  by_cases hb : t = 1073741824
  · subst hb
    exact Or.inl (turn_big h)
  · exact h.setGm 0 (by omega) (t + 1) (by simp [inB, gmBounds, gt]; omega)
theorem gm_state {m : Nat} (h : Og m d E) : (0 ≤ E.state.num 18 ∧ E.state.num 18 ≤ 1073741824) ∧ (0 ≤ E.state.num 19 ∧ E.state.num 19 ≤ 1) ∧ (0 ≤ E.state.num 20 ∧ E.state.num 20 ≤ 7) :=
  ⟨h.rightS.gm 0 (by decide), h.rightS.gm 1 (by decide), h.rightS.gm 2 (by decide)⟩
theorem bit_in (a : Int) (h : 0 ≤ a ∧ a ≤ 1) (f : Nat) (hf : f = 1 ∨ f = 3 ∨ f = 4) : inB a (gt gmBounds (f * 2)) (gt gmBounds (f * 2 + 1)) = true := by
  rcases hf with rfl | rfl | rfl <;> simp [inB, gmBounds, gt] <;> omega
theorem Og.clean (h : Og 0 d E) : Og 0 d E.clean := by
  obtain ⟨h1, h2, _⟩ := gm_state h
  unfold Em.clean
  exact ((((h.wear.turn _ h1).setGm 1 (by omega) _ (bit_in _ (by omega) 1 (by omega))).setPl 0 7 (by omega) (by omega) 0 (by decide)).setPl 1 7 (by omega) (by omega) 0 (by decide)).wake _
theorem Og.leave (h : Og 0 d E) : Og 2 d E.leave := by
  unfold Em.leave
  split
  · split
    · exact h.draw _
    · exact h.mono (by omega)
  split
  · exact h.mono (by omega)
  split
  · exact h.hits.fought.mono (by omega)
  split
  · exact h.clean.mono (by omega)
  · exact h.mono (by omega)
theorem leaveR_in (h : Og 0 d E) : 0 ≤ E.leaveR ∧ E.leaveR ≤ 7 := by
  obtain ⟨_, _, h3⟩ := gm_state h
  unfold Em.leaveR
  (repeat' split) <;> omega
theorem Og.upkeep {m : Nat} (h : Og m d E) : Og m d E.upkeep := h.abils _
theorem Og.goes (h : Og 2 d E) (ph : Int) (hp : 0 ≤ ph ∧ ph ≤ 7) : Og 0 d (E.goes ph) := by
  unfold Em.goes
  have h1 := h.setGm 2 (by omega) ph (by simp [inB, gmBounds, gt]; omega)
  have h19 := (gm_state h1).2.1
  have h2 := h1.setGm 3 (by omega) (if ph = 3 then 1 - (E.setGame 2 ph).state.num 19 else (E.setGame 2 ph).state.num 19) (bit_in _ (by have h19 : 0 ≤ (E.setGame 2 ph).state.num 19 ∧ (E.setGame 2 ph).state.num 19 ≤ 1 := h19; split <;> omega) 3 (by omega))
  have h3 := h2.setGm 4 (by omega) 0 (bit_in _ (by omega) 4 (by omega))
  dsimp only
  split
  · exact h3.upkeep.settle
  · exact h3.settle
theorem Og.next (h : Og 0 d E) : Og 0 d E.next := by
  unfold Em.next
  split
  · exact h
  · have h1 := h.emptyTo 12 (by omega)
    exact h1.leave.goes _ (leaveR_in h1)
end
/-! ### What it keeps -/
def cardsN (S : St) : Nat := S.objs.countP fun r => gt r 13 == 0
theorem kinds_set (l : LR) (a f : Nat) (v : Int) (hf : f ≠ 13) : (l.set a ((rowAt l a).set f v)).map (fun r => gt r 13) = l.map fun r => gt r 13 := by
  refine List.ext_getElem (by simp) (fun i h1 h2 => ?_)
  simp only [List.getElem_map, List.getElem_set]
  split
  · rename_i e
    subst e
    have ha : a < l.length := by simpa using h2
    have : rowAt l a = l[a] := by simp [rowAt, ha]
    rw [this]
    unfold gt
    simp [List.getD_eq_getElem?_getD, hf]
  · rfl
theorem cards_of {S T : St} (h : T.objs.map (fun r => gt r 13) = S.objs.map fun r => gt r 13) : cardsN T = cardsN S := by
  have key : ∀ l : LR, l.countP (fun r => gt r 13 == 0) = (l.map fun r => gt r 13).countP (· == 0) := fun l => by rw [List.countP_map]; rfl
  unfold cardsN
  rw [key, key, h]
theorem cl_cards (n : Nat) : Cl (fun _ => True) (fun T => cardsN T = n) := by
  exact {
    obj := fun {S} a f v h hf => (cards_of (kinds_set S.objs a f v hf)).trans h
    num := fun _ _ h _ => h
    move := fun {S} a b c d e h => (cards_of (kinds_set S.objs a 3 d (by decide))).trans h
    make := fun {S} c o k h hk => by
      show (S.objs ++ [_]).countP _ = n
      rw [List.countP_append]
      have : ([[c, o, o, 10, 0, 0, 0, 0, 0, 0, 0, 0, 0, k, 0, 0, 0, 3]] : LR).countP (fun r => gt r 13 == 0) = 0 := by
        rw [List.countP_eq_zero]
        intro r hr
        obtain rfl := List.mem_singleton.1 hr
        simpa [gt] using hk
      rw [this]
      exact h }
/-- Nobody has mana. -/
def Bare (T : St) : Prop := ∀ p i, p < 2 → i < 6 → T.num (p * 9 + (1 + i)) = 0
def NoMana (q : Nat) : Prop := ∀ p i, p < 2 → i < 6 → q ≠ p * 9 + (1 + i)
theorem cl_bare : Cl NoMana Bare := by
  exact {
    obj := fun _ _ _ h _ => h
    num := fun {S} q v h hq p i hp hi => by
      show upd S.num q v _ = 0
      rw [upd_ne _ _ _ _ (Ne.symm (hq p i hp hi))]
      exact h p i hp hi
    move := fun _ _ _ _ _ h => h
    make := fun _ _ _ h _ => h }
theorem cl_pass : Cl (fun q => NoMana q ∧ q ≠ 22) (fun T => Bare T ∧ T.num 22 = 0) := by
  exact {
    obj := fun _ _ _ h _ => h
    num := fun {S} q v h hq => ⟨cl_bare.num q v h.1 hq.1, by show upd S.num q v _ = 0; rw [upd_ne _ _ _ _ (Ne.symm hq.2)]; exact h.2⟩
    move := fun _ _ _ _ _ h => h
    make := fun _ _ _ h _ => h }
section
variable {Q : Nat → Prop} {P : St → Prop} {E : Em}
theorem Hv.emptyTo (C : Cl Q P) (hq : ∀ q, Q q) (h : Hv P E) : ∀ n, Hv P (E.emptyTo n)
  | 0 => h
  | n + 1 => by rw [emptyTo_succ]; exact (Hv.emptyTo C hq h n).setPl C _ _ _ (hq _)
theorem bare_to (E : Em) : ∀ n, n ≤ 12 → Hv (fun T => ∀ i, i < n → T.num (i / 6 * 9 + (1 + i % 6)) = 0) (E.emptyTo n)
  | 0, _ => Or.inr fun i hi => absurd hi (by omega)
  | n + 1, hn => by
    rw [emptyTo_succ]
    by_cases he : ((E.emptyTo n).setPl ((n / 6 : Nat) : Int) ((1 + n % 6 : Nat) : Int) 0).err = 0
    · refine Or.inr fun i hi => ?_
      rw [got_setPl he, Int.toNat_natCast, Int.toNat_natCast]
      show upd _ _ _ _ = (0 : Int)
      by_cases e : i = n
      · subst e; rw [upd_same]
      · rw [upd_ne _ _ _ _ (by omega)]
        have ih := bare_to E n (by omega)
        refine (ih.resolve_left fun h0 => ?_) i (by omega)
        rw [setPl_err h0] at he
        exact h0 he
    · exact Or.inl he
theorem bare_empty (E : Em) : Hv Bare (E.emptyTo 12) := (bare_to E 12 (Nat.le_refl _)).imp id fun h p i hp hi => by
  have := h (p * 6 + i) (by omega)
  rw [show (p * 6 + i) / 6 = p by omega, show (p * 6 + i) % 6 = i by omega] at this
  exact this
theorem Hv.leave (C : Cl Q P) (h : Hv P E) (hq : ∀ p : Nat, p < 2 → Q (p * 9 + 8) ∧ Q (p * 9) ∧ Q (p * 9 + 7)) (h18 : Q 18) (h19 : Q 19) : Hv P E.leave := by
  unfold Em.leave
  split
  · split
    · exact h.draw C _ (fun p hp => (hq p hp).1)
    · exact h
  split
  · exact h
  split
  · exact Hv.ends C _ (Hv.strikes C _ (fun p hp => (hq p hp).2.1) _ h)
  split
  · unfold Em.clean
    exact Hv.wakes C _ _ _ (((((Hv.wears C _ h).setGame C 0 _ h18).setGame C 1 _ h19).setPl C 0 7 _ (hq 0 (by omega)).2.2).setPl C 1 7 _ (hq 1 (by omega)).2.2)
  · exact h
theorem Hv.goes (C : Cl Q P) (h : Hv P E) (ph : Int) (hq : Q 20 ∧ Q 21 ∧ Q 22 ∧ Q 24) : Hv P (E.goes ph) := by
  unfold Em.goes
  have h1 := ((h.setGame C 2 ph hq.1).setGame C 3 (if ph = 3 then 1 - (E.setGame 2 ph).state.num 19 else (E.setGame 2 ph).state.num 19) hq.2.1).setGame C 4 0 hq.2.2.1
  dsimp only
  split
  · exact (h1.upkeep C).settle C hq.2.2.2
  · exact h1.settle C hq.2.2.2
end
theorem cards_next (E : Em) : Hv (fun T => cardsN T = cardsN E.now) E.next := by
  unfold Em.next
  split
  · exact Or.inr rfl
  · have C := cl_cards (cardsN E.now)
    exact ((Hv.emptyTo C (fun _ => trivial) (E := E) (Or.inr rfl) 12).leave C (fun _ _ => ⟨trivial, trivial, trivial⟩) trivial trivial).goes C _ ⟨trivial, trivial, trivial, trivial⟩
theorem noMana (q : Nat) (h : q = 0 ∨ q = 9 ∨ q = 8 ∨ q = 17 ∨ q = 7 ∨ q = 16 ∨ 18 ≤ q) : NoMana q := fun p i hp hi => by omega
theorem bare_goes {E : Em} (h : Hv Bare E) (ph : Int) : Hv (fun T => Bare T ∧ T.num 22 = 0) (E.goes ph) := by
  unfold Em.goes
  have h1 := (h.setGame cl_bare 2 ph (noMana _ (by simp))).setGame cl_bare 3 (if ph = 3 then 1 - (E.setGame 2 ph).state.num 19 else (E.setGame 2 ph).state.num 19) (noMana _ (by simp))
  have h2 : Hv (fun T => Bare T ∧ T.num 22 = 0) (((E.setGame 2 ph).setGame 3 (if ph = 3 then 1 - (E.setGame 2 ph).state.num 19 else (E.setGame 2 ph).state.num 19)).setGame 4 0) := by
    rcases h1.setGame cl_bare 4 0 (noMana _ (by simp)) with g | g
    · exact Or.inl g
    · by_cases he : (((E.setGame 2 ph).setGame 3 (if ph = 3 then 1 - (E.setGame 2 ph).state.num 19 else (E.setGame 2 ph).state.num 19)).setGame 4 0).err = 0
      · refine Or.inr ⟨g, ?_⟩
        rw [got_setGame he]
        exact upd_same ((E.setGame 2 ph).setGame 3 (if ph = 3 then 1 - (E.setGame 2 ph).state.num 19 else (E.setGame 2 ph).state.num 19)).now.num 22 (0 : Int)
      · exact Or.inl he
  dsimp only
  split
  · exact (h2.upkeep cl_pass).settle cl_pass ⟨noMana _ (by simp), by decide⟩
  · exact h2.settle cl_pass ⟨noMana _ (by simp), by decide⟩
/-- What TurnKeeps asks of the next phase. -/
theorem next_law {d : List Int} {E : Em} (h : Og 0 d E) (h0 : E.err = 0) (he : E.next.err = 0) :
    Rg 0 d E.next ∧ cardsN E.next.now = cardsN E.now ∧ Bare E.next.now ∧ E.next.now.num 22 = 0 ∧ E.next.pend = [] := by
  have hR := h.next.err he
  have hb : Hv (fun T => Bare T ∧ T.num 22 = 0) E.next := by
    unfold Em.next
    rw [if_neg (by rw [h0]; simp)]
    refine bare_goes ?_ _
    refine Hv.leave cl_bare (bare_empty E) (fun p hp => ⟨noMana _ ?_, noMana _ ?_, noMana _ ?_⟩) (noMana _ (by simp)) (noMana _ (by simp)) <;> omega
  have hb := hb.resolve_left (fun g => g he)
  refine ⟨hR, (cards_next E).resolve_left (fun g => g he), hb.1, hb.2, ?_⟩
  have := hR.pend
  exact List.eq_nil_of_length_eq_zero (by omega)
end Go.Proofs.YtgobdndjemicjaaGreatDoor
namespace Go.Proofs.YtgobdndjemicjaaGreatDoor
open Go Go.RowKit Go.Shelf

theorem olife_any (w : World) (b : Nat) (own : Nat → Prop) (E : Em) (R : Emt w b own E) (H : Mo E) (p m : Int) :
    Calls Tryz.prog 72 #[.pointer (some ⟨b, 0, none⟩), .int .i64 p, .int .i64 m] w fun r w' => r = .returned (.tuple #[]) ∧ EPost w b own (E.life p m) w' := by
  by_cases he : E.err = 0
  · exact elife_any w b own E R he 131072 (H.get he).ok (by omega) (H.get he).nums p m
  · rw [life_err he]
    refine (elife_bad w _ E.err he (errsAt_em R) p m).mono ?_
    rintro _ w' ⟨rfl, g⟩
    exact ⟨rfl, R.stay g⟩
theorem hitsN_most {S : St} (h : Right S) : (HitsN S).length ≤ 1000000 := by
  have hl : (S.list 8).length ≤ 400 := h.smallN.list 8 (by omega)
  have h1 : (HitsN S).length ≤ (rawN S).length := List.length_filter_le _ _
  have h2 := rawTo_len S (by omega) (attackersN S).length (Nat.le_refl _)
  have h3 : (attackersN S).length ≤ (S.list 8).length := List.length_filter_le _ _
  have h4 : rawTo S (attackersN S).length = rawN S := by unfold rawTo; rw [List.take_length]; rfl
  rw [h4] at h2
  omega
theorem FoR.end1 {S : St} {d : List Int} {E : Em} (h : FoR S d E) (hS : Right S) (k : Nat) (hk : k < (S.list 8).length) : FoR S d (E.setObj (gt (S.list 8) k) 11 0) := by
  obtain ⟨a, e, ha, h8⟩ := hS.stands k hk
  rw [e]
  exact h.set a 11 0 ha h8 (by omega) (obj_zero _ 11 (by omega))
set_option maxRecDepth 100000 in
set_option maxHeartbeats 8000000 in
theorem ostrike_foe (w : World) (b : Nat) (own : Nat → Prop) (E : Em) (R : Emt w b own E) (S : St) (V : SV) (D : Side w own S V) {dr : List Int} (hdr : dr.length ≤ 1048576) (F : FoR S dr E) (d : Nat) (n : Int) (H : HitIn S d (foeN S) n) :
    Calls Tryz.prog 167 #[.pointer (some ⟨b, 0, none⟩), .agg (stA V S.num), .agg (cellsOf [(d : Int), foeN S, n])] w fun r w' => r = .returned (.tuple #[]) ∧ EPost w b own (E.strike S d (foeN S) n) w' := by
  have hact := D.rs.right.active
  have hd : d < S.objs.length := by have := (creatureB_in H.from').2.1; omega
  have hctl : 0 ≤ gt (rowAt S.objs d) 2 ∧ gt (rowAt S.objs d) 2 ≤ 1 := D.rs.right.num hd (f := 2) (by decide)
  have hf : foeN S < 0 := by unfold foeN; omega
  obtain ⟨p, hp⟩ := Int.eq_ofNat_of_zero_le (show 0 ≤ -1 - foeN S by unfold foeN; omega)
  have hp2 : p < 2 := by unfold foeN at hp; omega
  have HPl := Lib.hid (fun W => tPlayer_yes W (foeN S) (by unfold foeN; omega))
  rw [hp] at HPl
  have HLi := Lib.hid (fun W (g : Grow w W) => olife_any W b own E (R.grow g) (F.og.mo (by omega) hdr) p (-n))
  have HS1 : Hid (E.strike S d (foeN S) n = if hasB S d 32 = true then (E.life p (-n)).life (gt (rowAt S.objs d) 2) n else E.life p (-n)) := by
    rw [Hid, Em.strike, if_pos hf, hp]
  have hF1 := F.life p hp2 (-n)
  have HF1 := Lib.hid hF1
  have HD := Lib.hid D
  have HR := Lib.hid R
  have hown := R.lt
  have HOL := Lib.hid hown
  have hneg : wrap64 (-n) = -n := by have := H.pos; have := H.max; unfold wrap64; omega
  have hsw : (cellsOf [(d : Int), foeN S, n]).size = 3 := rfl
  have g0 : gt [(d : Int), foeN S, n] 0 = d := rfl
  have g1 : gt [(d : Int), foeN S, n] 1 = foeN S := rfl
  have g2 : gt [(d : Int), foeN S, n] 2 = n := rfl
  clear hact hf D R F hown hF1
  go_enter Tryz.func167, Tryz.ntmps167
  go_wp2_with (go_at_call 219; refine (HPl.out _).mono ?_; rintro e' w' ⟨rfl, nx, rfl⟩)
  refine (HLi.out _ grI).mono ?_
  rintro e' w3 ⟨rfl, own3, R3, K3, O3⟩
  have hwl := K3.size
  simp only [plus_size, alloc_size'] at hwl
  have hg0 : Grow w (((w.alloc (.cells (stA V S.num) 29)).alloc (.cells (cellsOf [(d : Int), foeN S, n]) 185)).plus nx) := grI
  have hno : ∀ q, w.heap.size ≤ q → ¬ own q := fun q hq h => by have := HOL.out q h; omega
  have hq0 : w3.blk w.heap.size = stA V S.num := by rw [K3.blk _ (by go_simp) (hno _ (Nat.le_refl _))]; go_simp
  have hq1 : w3.blk (w.heap.size + 1) = cellsOf [(d : Int), foeN S, n] := by rw [K3.blk _ (by go_simp) (hno _ (by omega))]; go_simp
  have hf1 : w3.free (w.heap.size + 1) = true := by rw [K3.free _ (by go_simp) (hno _ (by omega))]; go_simp
  have hc1 := cell_of_blk hf1 hq1
  have hb0 : w.heap.size < w3.heap.size := by omega
  have hb1 : w.heap.size + 1 < w3.heap.size := by omega
  have D3 : Side w3 own3 S V := (HD.out.grow hg0).turn K3 (fun j hj => (O3 j hj).imp id And.left)
  have HK3 := Lib.hid (show Kept own w w3 from (hg0.kept own).trans K3 (fun _ _ h => h))
  have HO3 := Lib.hid (show ∀ j, own3 j → own j ∨ (w.heap.size ≤ j ∧ j < w3.heap.size) from fun j hj => (O3 j hj).imp id (fun h => ⟨Nat.le_trans hg0.size h.1, h.2⟩))
  have HR3 := Lib.hid R3
  have HHs := Lib.hid (fun W (g : Grow w3 W) => has_word S V W (D3.rs.grow g) d 32 (by decide) (by decide))
  have HFd := Lib.hid (fun W (g : Grow w3 W) => field_any S V W (D3.rs.grow g).rep d 2 hd (by decide))
  have HOL3 := Lib.hid (show ∀ q, own3 q → q ≠ w.heap.size ∧ q ≠ w.heap.size + 1 from fun q hq => by
    rcases O3 q hq with h | h
    · have := HOL.out q h; omega
    · have := h.1; simp only [plus_size, alloc_size'] at this; omega)
  obtain ⟨c, hc⟩ := Int.eq_ofNat_of_zero_le hctl.1
  rw [hc] at HS1 HFd
  have HL3 := Lib.hid (fun W (g : Grow w3 W) => olife_any W b own3 _ (HR3.out.grow g) (HF1.out.og.mo (by omega) hdr) c n)
  clear D3 K3 O3 R3 hno hctl hc H hg0
  cases hD : hasB S d 32 with
  | true =>
    rw [hD, if_pos rfl] at HS1
    rw [hD] at HHs
    go_wp2_with (go_at_call 221; refine (HHs.out _ grI).mono ?_; rintro e' w' ⟨rfl, nx, rfl⟩)
    go_region_held3 (fun W => W.blk w.heap.size = stA V S.num ∧ W.blk (w.heap.size + 1) = cellsOf [(d : Int), foeN S, n] ∧ W.cell? ⟨w.heap.size + 1, 0, none⟩ = some (I d) ∧ W.cell? ⟨w.heap.size + 1, 2, none⟩ = some (I n)) (simp [go_sem, *]) (first | (go_at_call 215; refine (HFd.out _ grI).mono ?_; rintro e' w' ⟨rfl, nf, rfl⟩) | (go_at_call 72; refine (HL3.out _ grI).mono ?_; rintro e' w4 ⟨rfl, own4, R4, K4, O4⟩; have z0 : w4.blk w.heap.size = stA V S.num := (by rw [K4.blk _ (by first | (go_simp; done) | (go_simp; omega) | (simp only [Sl.b]; go_simp; omega)) (fun h => (HOL3.out _ h).1 rfl)]; go_simp); have z1 : w4.blk (w.heap.size + 1) = cellsOf [(d : Int), foeN S, n] := (by rw [K4.blk _ (by first | (go_simp; done) | (go_simp; omega) | (simp only [Sl.b]; go_simp; omega)) (fun h => (HOL3.out _ h).2 rfl)]; go_simp); have z2 : w4.cell? ⟨w.heap.size + 1, 0, none⟩ = some (I d) := (by rw [K4.cell _ _ (by first | (go_simp; done) | (go_simp; omega) | (simp only [Sl.b]; go_simp; omega)) (fun h => (HOL3.out _ h).2 rfl)]; go_simp); have z3 : w4.cell? ⟨w.heap.size + 1, 2, none⟩ = some (I n) := (by rw [K4.cell _ _ (by first | (go_simp; done) | (go_simp; omega) | (simp only [Sl.b]; go_simp; omega)) (fun h => (HOL3.out _ h).2 rfl)]; go_simp); have HE4 : Hid (EPost _ b own3 _ w4) := ⟨own4, R4, K4, O4⟩; clear R4 K4 O4))
    all_goals
      go_wp2_with fail
      go_end0
      exact ⟨rfl, by rw [HS1.out]; exact EPost.then HK3.out HO3.out (EPost.low grI HE4.out)⟩
  | false =>
    rw [hD, if_neg (by simp)] at HS1
    rw [hD] at HHs
    go_wp2_with (go_at_call 221; refine (HHs.out _ grI).mono ?_; rintro e' w' ⟨rfl, nx, rfl⟩)
    go_end0
    exact ⟨rfl, by rw [HS1.out]; exact EPost.then HK3.out HO3.out (.of_grow HR3.out grI)⟩
set_option maxRecDepth 100000 in
set_option maxHeartbeats 8000000 in
theorem ostrike_at (w : World) (b : Nat) (own : Nat → Prop) (E : Em) (R : Emt w b own E) (S : St) (V : SV) (D : Side w own S V) {dr : List Int} (hdr : dr.length ≤ 1048576) (F : FoR S dr E) (hE : E.err = 0) (d e : Nat) (n : Int) (H : HitIn S d ((e : Int) + 1) n) (he : creatureB S e = true) :
    Calls Tryz.prog 167 #[.pointer (some ⟨b, 0, none⟩), .agg (stA V S.num), .agg (cellsOf [(d : Int), (e : Int) + 1, n])] w fun r w' => r = .returned (.tuple #[]) ∧ EPost w b own (E.strike S d ((e : Int) + 1) n) w' := by
  have hd : d < S.objs.length := by have := (creatureB_in H.from').2.1; omega
  have he2 := creatureB_in he
  have hel : e < S.objs.length := by omega
  have hFE := F.resolve_left (fun h => h hE)
  have hel2 : e < E.now.objs.length := by rw [hFE.2.2.1]; exact hel
  have hctl : 0 ≤ gt (rowAt S.objs d) 2 ∧ gt (rowAt S.objs d) 2 ≤ 1 := D.rs.right.num hd (f := 2) (by decide)
  have hdm : 0 ≤ gt (rowAt E.now.objs e) 6 ∧ gt (rowAt E.now.objs e) 6 ≤ 1073741824 := hFE.1.right.num hel2 (f := 6) (by decide)
  have h400 := D.rs.right.many
  have HPl := Lib.hid (fun W => tPlayer_no W ((e : Int) + 1) (by omega))
  have HOb := Lib.hid (fun W => tObject_yes W ((e : Int) + 1) (by omega) (by omega))
  rw [show (e : Int) + 1 - 1 = (e : Int) by omega] at HOb
  have HEr := Lib.hid (fun W (g : Grow w W) => by have := err_any W b own E (R.grow g); rw [hE, errV_0] at this; exact this)
  have HH16 := Lib.hid (fun W (g : Grow w W) => has_word S V W (D.rs.grow g) d 16 (by decide) (by decide))
  have HSt := Lib.hid (fun W (g : Grow w W) => by have := ostate_any W b own E (R.grow g) (F.og.mo (by omega) hdr); rw [state_ok hE] at this; exact this)
  have h0 := H.pos
  have hn := H.max
  have e1 : gt (objBounds S.objs.length) (6 * 2) = 0 := rfl
  have e2 : gt (objBounds S.objs.length) (6 * 2 + 1) = 1073741824 := rfl
  have h8 : gt (rowAt S.objs e) 3 = 8 := by have := he2.2.2.1; rwa [Int.toNat_natCast] at this
  have HSet := Lib.hid (fun W (g : Grow w W) v => oset_any W b own E (R.grow g) (F.og.mo (by omega) hdr) (e : Int) 6 v)
  have HFs := Lib.hid (fun v (hv : 0 ≤ v ∧ v ≤ 1073741824) => F.set e 6 v hel h8 (by omega) (by rw [e1, e2]; exact hv))
  have HS0 : Hid (∀ k, (if hasB S d 16 = true then n + 1000 else n) = k → E.strike S d ((e : Int) + 1) n = if hasB S d 32 = true then (E.setObj (e : Int) 6 (min (gt (rowAt E.now.objs e) 6 + k) 1073741824)).life (gt (rowAt S.objs d) 2) n else E.setObj (e : Int) 6 (min (gt (rowAt E.now.objs e) 6 + k) 1073741824)) := fun k hk => by
    unfold Em.strike
    dsimp only
    rw [if_neg (show ¬ ((e : Int) + 1 < 0) by omega), hk, show (e : Int) + 1 - 1 = (e : Int) by omega, Int.toNat_natCast]
  have HD := Lib.hid D
  have HR := Lib.hid R
  have hown := R.lt
  have HOL := Lib.hid hown
  have hsw : (cellsOf [(d : Int), (e : Int) + 1, n]).size = 3 := rfl
  have g0 : gt [(d : Int), (e : Int) + 1, n] 0 = d := rfl
  have g1 : gt [(d : Int), (e : Int) + 1, n] 1 = (e : Int) + 1 := rfl
  have g2 : gt [(d : Int), (e : Int) + 1, n] 2 = n := rfl
  have hei : (e : Int) < (E.now.objs.length : Int) := by omega
  clear D R F hFE hE hown he he2 h8 e1 e2 H
  cases hB : hasB S d 16
  case' true =>
    rw [hB] at HH16 HS0
    have hS1 := HS0.out (n + 1000) (if_pos rfl)
    have hwn : wrap64 (n + 1000) = n + 1000 := by unfold wrap64; omega
    have hwd : wrap64 (gt (rowAt E.now.objs e) 6 + (n + 1000)) = gt (rowAt E.now.objs e) 6 + (n + 1000) := by unfold wrap64; omega
    have hF1 := HFs.out (min (gt (rowAt E.now.objs e) 6 + (n + 1000)) 1073741824) (by omega)
    have HSe := Lib.hid (fun W g => HSet.out W g (min (gt (rowAt E.now.objs e) 6 + (n + 1000)) 1073741824))
  case' false =>
    rw [hB] at HH16 HS0
    have hS1 := HS0.out n (if_neg (by simp))
    have hwn : True := trivial
    have hwd : wrap64 (gt (rowAt E.now.objs e) 6 + n) = gt (rowAt E.now.objs e) 6 + n := by unfold wrap64; omega
    have hF1 := HFs.out (min (gt (rowAt E.now.objs e) 6 + n) 1073741824) (by omega)
    have HSe := Lib.hid (fun W g => HSet.out W g (min (gt (rowAt E.now.objs e) 6 + n) 1073741824))
  all_goals
  have HS1 := Lib.hid hS1
  have HF1 := Lib.hid hF1
  clear hS1 hF1 HS0 HFs HSet hdm
  go_enter Tryz.func167, Tryz.ntmps167
  go_wp2_with (first | (go_at_call 219; refine (HPl.out _).mono ?_; rintro e' w' ⟨rfl, nx, rfl⟩) | (go_at_call 220; refine (HOb.out _).mono ?_; rintro e' w' ⟨rfl, nx, rfl⟩) | (go_at_call 17; refine (HEr.out _ grI).mono ?_; rintro e' w' ⟨rfl, nx, rfl⟩) | (go_at_call 221; refine (HH16.out _ grI).mono ?_; rintro e' w' ⟨rfl, nx, rfl⟩))
  refine (HSt.out _ grI).mono ?_
  rintro e' w2 ⟨V2, rfl, hR2, _, hG2⟩
  have HG2 : Hid (Grow w w2) := Grow.trans grI hG2
  have hs2 := hG2.size
  simp only [plus_size, alloc_size'] at hs2
  have hA0 : w2.blk w.heap.size = stA V S.num := by rw [blk_grow hG2 (by first | (go_simp; done) | (go_simp; omega) | (simp only [Sl.b]; go_simp; omega))]; go_simp
  have hA1 : w2.blk (w.heap.size + 1) = cellsOf [(d : Int), (e : Int) + 1, n] := by rw [blk_grow hG2 (by first | (go_simp; done) | (go_simp; omega) | (simp only [Sl.b]; go_simp; omega))]; go_simp
  have hA2 : w2.free (w.heap.size + 1) = true := by rw [hG2.free (by first | (go_simp; done) | (go_simp; omega) | (simp only [Sl.b]; go_simp; omega))]; go_simp
  have hz0 : w.heap.size < w2.heap.size := by omega
  have hz1 : w.heap.size + 1 < w2.heap.size := by omega
  have hN2 := hR2.objs.len
  obtain ⟨ob, _, _, _, oc⟩ := hR2.objs.at (by omega) e hel2
  have oc6 := oc 6 (by decide)
  clear hR2 hG2 oc
  generalize gt (rowAt E.now.objs e) 6 = dm at *
  go_wp2_with fail
  refine (HSe.out _ HG2.out).mono ?_
  rintro e' w3 ⟨rfl, own3, R3, K3, O3⟩
  have hwl := K3.size
  have hno : ∀ q, w.heap.size ≤ q → ¬ own q := fun q hq h => by have := HOL.out q h; omega
  have hs2 := HG2.out.size
  have hq0 : w3.blk w.heap.size = stA V S.num := by rw [K3.blk _ hz0 (hno _ (Nat.le_refl _))]; exact hA0
  have hq1 : w3.blk (w.heap.size + 1) = cellsOf [(d : Int), (e : Int) + 1, n] := by rw [K3.blk _ hz1 (hno _ (by omega))]; exact hA1
  have hf1 : w3.free (w.heap.size + 1) = true := by rw [K3.free _ hz1 (hno _ (by omega))]; exact hA2
  have hc1 := cell_of_blk hf1 hq1
  have hb0 : w.heap.size < w3.heap.size := by omega
  have hb1 : w.heap.size + 1 < w3.heap.size := by omega
  have hg0 := HG2.out
  have D3 : Side w3 own3 S V := (HD.out.grow hg0).turn K3 (fun j hj => (O3 j hj).imp id And.left)
  have HK3 := Lib.hid (show Kept own w w3 from (hg0.kept own).trans K3 (fun _ _ h => h))
  have HO3 := Lib.hid (show ∀ j, own3 j → own j ∨ (w.heap.size ≤ j ∧ j < w3.heap.size) from fun j hj => (O3 j hj).imp id (fun h => ⟨Nat.le_trans hg0.size h.1, h.2⟩))
  have HR3 := Lib.hid R3
  have HHs := Lib.hid (fun W (g : Grow w3 W) => has_word S V W (D3.rs.grow g) d 32 (by decide) (by decide))
  have HFd := Lib.hid (fun W (g : Grow w3 W) => field_any S V W (D3.rs.grow g).rep d 2 hd (by decide))
  have HOL3 := Lib.hid (show ∀ q, own3 q → q ≠ w.heap.size ∧ q ≠ w.heap.size + 1 from fun q hq => by
    rcases O3 q hq with h | h
    · have := HOL.out q h; omega
    · have := h.1; omega)
  obtain ⟨c, hc⟩ := Int.eq_ofNat_of_zero_le hctl.1
  rw [hc] at HS1 HFd
  have HL3 := Lib.hid (fun W (g : Grow w3 W) => olife_any W b own3 _ (HR3.out.grow g) (HF1.out.og.mo (by omega) hdr) c n)
  clear D3 K3 O3 R3 hno hctl hc hg0
  cases hD : hasB S d 32 with
  | true =>
    rw [hD, if_pos rfl] at HS1
    rw [hD] at HHs
    go_wp2_with (go_at_call 221; refine (HHs.out _ grI).mono ?_; rintro e' w' ⟨rfl, nx, rfl⟩)
    go_region_held3 (fun W => W.blk w.heap.size = stA V S.num ∧ W.blk (w.heap.size + 1) = cellsOf [(d : Int), (e : Int) + 1, n] ∧ W.cell? ⟨w.heap.size + 1, 0, none⟩ = some (I d) ∧ W.cell? ⟨w.heap.size + 1, 2, none⟩ = some (I n)) (simp [go_sem, *]) (first | (go_at_call 215; refine (HFd.out _ grI).mono ?_; rintro e' w' ⟨rfl, nf, rfl⟩) | (go_at_call 72; refine (HL3.out _ grI).mono ?_; rintro e' w4 ⟨rfl, own4, R4, K4, O4⟩; have z0 : w4.blk w.heap.size = stA V S.num := (by rw [K4.blk _ (by first | (go_simp; done) | (go_simp; omega) | (simp only [Sl.b]; go_simp; omega)) (fun h => (HOL3.out _ h).1 rfl)]; go_simp); have z1 : w4.blk (w.heap.size + 1) = cellsOf [(d : Int), (e : Int) + 1, n] := (by rw [K4.blk _ (by first | (go_simp; done) | (go_simp; omega) | (simp only [Sl.b]; go_simp; omega)) (fun h => (HOL3.out _ h).2 rfl)]; go_simp); have z2 : w4.cell? ⟨w.heap.size + 1, 0, none⟩ = some (I d) := (by rw [K4.cell _ _ (by first | (go_simp; done) | (go_simp; omega) | (simp only [Sl.b]; go_simp; omega)) (fun h => (HOL3.out _ h).2 rfl)]; go_simp); have z3 : w4.cell? ⟨w.heap.size + 1, 2, none⟩ = some (I n) := (by rw [K4.cell _ _ (by first | (go_simp; done) | (go_simp; omega) | (simp only [Sl.b]; go_simp; omega)) (fun h => (HOL3.out _ h).2 rfl)]; go_simp); have HE4 : Hid (EPost _ b own3 _ w4) := ⟨own4, R4, K4, O4⟩; clear R4 K4 O4))
    all_goals
      go_wp2_with fail
      go_end0
      exact ⟨rfl, by rw [HS1.out]; exact EPost.then HK3.out HO3.out (EPost.low grI HE4.out)⟩
  | false =>
    rw [hD, if_neg (by simp)] at HS1
    rw [hD] at HHs
    go_wp2_with (go_at_call 221; refine (HHs.out _ grI).mono ?_; rintro e' w' ⟨rfl, nx, rfl⟩)
    go_end0
    exact ⟨rfl, by rw [HS1.out]; exact EPost.then HK3.out HO3.out (.of_grow HR3.out grI)⟩
set_option maxRecDepth 100000 in
set_option maxHeartbeats 8000000 in
theorem ostrike_err (w : World) (b : Nat) (own : Nat → Prop) (E : Em) (R : Emt w b own E) (S : St) (V : SV) (D : Side w own S V) (hE : E.err ≠ 0) (d e : Nat) (n : Int) (H : HitIn S d ((e : Int) + 1) n) (he : creatureB S e = true) :
    Calls Tryz.prog 167 #[.pointer (some ⟨b, 0, none⟩), .agg (stA V S.num), .agg (cellsOf [(d : Int), (e : Int) + 1, n])] w fun r w' => r = .returned (.tuple #[]) ∧ EPost w b own E w' := by
  have hd : d < S.objs.length := by have := (creatureB_in H.from').2.1; omega
  have he2 := creatureB_in he
  have hctl : 0 ≤ gt (rowAt S.objs d) 2 ∧ gt (rowAt S.objs d) 2 ≤ 1 := D.rs.right.num hd (f := 2) (by decide)
  have h400 := D.rs.right.many
  have HPl := Lib.hid (fun W => tPlayer_no W ((e : Int) + 1) (by omega))
  have HOb := Lib.hid (fun W => tObject_yes W ((e : Int) + 1) (by omega) (by omega))
  rw [show (e : Int) + 1 - 1 = (e : Int) by omega] at HOb
  have HEr := Lib.hid (fun W (g : Grow w W) => by have := err_any W b own E (R.grow g); rw [errV_is hE] at this; exact this)
  have HHs := Lib.hid (fun W (g : Grow w W) => has_word S V W (D.rs.grow g) d 32 (by decide) (by decide))
  have HFd := Lib.hid (fun W (g : Grow w W) => field_any S V W (D.rs.grow g).rep d 2 hd (by decide))
  obtain ⟨c, hc⟩ := Int.eq_ofNat_of_zero_le hctl.1
  rw [hc] at HFd
  have HL := Lib.hid (fun W (g : Grow w W) => by have := olife_any W b own E (R.grow g) (Or.inl hE) c n; rw [life_err hE] at this; exact this)
  have HR := Lib.hid R
  have hown := R.lt
  have HOL := Lib.hid hown
  have hsw : (cellsOf [(d : Int), (e : Int) + 1, n]).size = 3 := rfl
  have g0 : gt [(d : Int), (e : Int) + 1, n] 0 = d := rfl
  have g1 : gt [(d : Int), (e : Int) + 1, n] 1 = (e : Int) + 1 := rfl
  have g2 : gt [(d : Int), (e : Int) + 1, n] 2 = n := rfl
  clear D R hE hown he he2 H hc hctl
  go_enter Tryz.func167, Tryz.ntmps167
  go_wp2_with (first | (go_at_call 219; refine (HPl.out _).mono ?_; rintro e' w' ⟨rfl, nx, rfl⟩) | (go_at_call 220; refine (HOb.out _).mono ?_; rintro e' w' ⟨rfl, nx, rfl⟩) | (go_at_call 17; refine (HEr.out _ grI).mono ?_; rintro e' w' ⟨rfl, nx, rfl⟩))
  refine (HHs.out _ grI).mono ?_
  rintro e' w3 ⟨rfl, hG3⟩
  have HG3 : Hid (Grow w w3) := Grow.trans grI hG3
  have hs3 := hG3.size
  simp only [plus_size, alloc_size'] at hs3
  have hq0 : w3.blk w.heap.size = stA V S.num := by rw [blk_grow hG3 (by first | (go_simp; done) | (go_simp; omega) | (simp only [Sl.b]; go_simp; omega))]; go_simp
  have hq1 : w3.blk (w.heap.size + 1) = cellsOf [(d : Int), (e : Int) + 1, n] := by rw [blk_grow hG3 (by first | (go_simp; done) | (go_simp; omega) | (simp only [Sl.b]; go_simp; omega))]; go_simp
  have hf1 : w3.free (w.heap.size + 1) = true := by rw [hG3.free (by first | (go_simp; done) | (go_simp; omega) | (simp only [Sl.b]; go_simp; omega))]; go_simp
  have hc1 := cell_of_blk hf1 hq1
  have hb0 : w.heap.size < w3.heap.size := by omega
  have hb1 : w.heap.size + 1 < w3.heap.size := by omega
  have HFd3 := Lib.hid (fun W (g : Grow w3 W) => HFd.out W (HG3.out.trans g))
  have HL3 := Lib.hid (fun W (g : Grow w3 W) => HL.out W (HG3.out.trans g))
  have HR3 := Lib.hid (HR.out.grow HG3.out)
  have HOL3 := Lib.hid (show ∀ q, own q → q ≠ w.heap.size ∧ q ≠ w.heap.size + 1 from fun q hq => by have := HOL.out q hq; omega)
  clear hG3 HHs HFd HL HOb HPl HEr
  cases hD : hasB S d 32 with
  | true =>
    go_wp2_with fail
    go_region_held3 (fun W => W.blk w.heap.size = stA V S.num ∧ W.blk (w.heap.size + 1) = cellsOf [(d : Int), (e : Int) + 1, n] ∧ W.cell? ⟨w.heap.size + 1, 0, none⟩ = some (I d) ∧ W.cell? ⟨w.heap.size + 1, 2, none⟩ = some (I n)) (simp [go_sem, *]) (first | (go_at_call 215; refine (HFd3.out _ grI).mono ?_; rintro e' w' ⟨rfl, nf, rfl⟩) | (go_at_call 72; refine (HL3.out _ grI).mono ?_; rintro e' w4 ⟨rfl, own4, R4, K4, O4⟩; have z0 : w4.blk w.heap.size = stA V S.num := (by rw [K4.blk _ (by first | (go_simp; done) | (go_simp; omega) | (simp only [Sl.b]; go_simp; omega)) (fun h => (HOL3.out _ h).1 rfl)]; go_simp); have z1 : w4.blk (w.heap.size + 1) = cellsOf [(d : Int), (e : Int) + 1, n] := (by rw [K4.blk _ (by first | (go_simp; done) | (go_simp; omega) | (simp only [Sl.b]; go_simp; omega)) (fun h => (HOL3.out _ h).2 rfl)]; go_simp); have z2 : w4.cell? ⟨w.heap.size + 1, 0, none⟩ = some (I d) := (by rw [K4.cell _ _ (by first | (go_simp; done) | (go_simp; omega) | (simp only [Sl.b]; go_simp; omega)) (fun h => (HOL3.out _ h).2 rfl)]; go_simp); have z3 : w4.cell? ⟨w.heap.size + 1, 2, none⟩ = some (I n) := (by rw [K4.cell _ _ (by first | (go_simp; done) | (go_simp; omega) | (simp only [Sl.b]; go_simp; omega)) (fun h => (HOL3.out _ h).2 rfl)]; go_simp); have HE4 : Hid (EPost _ b own _ w4) := ⟨own4, R4, K4, O4⟩; clear R4 K4 O4))
    all_goals
      go_wp2_with fail
      go_end0
      exact ⟨rfl, EPost.low HG3.out (EPost.low grI HE4.out)⟩
  | false =>
    go_wp2_with fail
    go_end0
    exact ⟨rfl, EPost.low HG3.out (.of_grow HR3.out grI)⟩
theorem ostrike_any (w : World) (b : Nat) (own : Nat → Prop) (E : Em) (R : Emt w b own E) (S : St) (V : SV) (D : Side w own S V) {dr : List Int} (hdr : dr.length ≤ 1048576) (F : FoR S dr E) (d : Nat) (t n : Int) (H : HitIn S d t n) :
    Calls Tryz.prog 167 #[.pointer (some ⟨b, 0, none⟩), .agg (stA V S.num), .agg (cellsOf [(d : Int), t, n])] w fun r w' => r = .returned (.tuple #[]) ∧ EPost w b own (E.strike S d t n) w' := by
  rcases H.at' with rfl | ⟨e, rfl, he⟩
  · exact ostrike_foe w b own E R S V D hdr F d n H
  · by_cases hE : E.err = 0
    · exact ostrike_at w b own E R S V D hdr F hE d e n H he
    · rw [strike_err hE]
      exact ostrike_err w b own E R S V D hE d e n H he
set_option maxRecDepth 100000 in
set_option maxHeartbeats 8000000 in
theorem ostrikeAll_any (w : World) (b : Nat) (own : Nat → Prop) (E : Em) (R : Emt w b own E) (GLE : GlobE w own) {dr : List Int} (hdr : dr.length ≤ 1048576) (OG : Og 0 dr E) :
    Calls Tryz.prog 110 #[.pointer (some ⟨b, 0, none⟩)] w fun r w' => r = .returned (.tuple #[]) ∧ EPost w b own E.hits w' := by
  have hRt : Right E.state := OG.rightS
  have F : FoR E.state dr E := OG.for'
  have hmoE : Mo E := OG.mo (by omega) hdr
  have hsml : Small E.state := hRt.smallN.small (by omega)
  have hl : (E.state.list 8).length ≤ 400 := hRt.smallN.list 8 (by omega)
  have hHc : (HitsN E.state).length ≤ 1000000 := hitsN_most hRt
  have hst0 : E.hits = E.strikes E.state (HitsN E.state) := rfl
  rw [hst0]
  clear hst0
  have GL := GLE.base
  have hv : ∀ k, (k = 2 ∨ k = 3 ∨ k = 4) → ¬ own k := by
    rintro k (rfl | rfl | rfl)
    · exact GLE.n1
    · exact GLE.n2
    · exact GLE.n3
  have hown := R.lt
  have HSt := Lib.hid (fun W (g : Grow w W) => ostate_any W b own E (R.grow g) hmoE)
  have HF := Lib.hid F
  have HRT := Lib.hid hRt
  have HSM := Lib.hid hsml
  generalize E.state = S0 at *
  have HR := Lib.hid R
  have HG := Lib.hid GL
  have HV := Lib.hid hv
  have HOL := Lib.hid hown
  clear R GL GLE hv F hown OG hmoE hRt hsml
  go_enter Tryz.func110, Tryz.ntmps110
  go_wp2_with fail
  refine (HSt.out _ grI).mono ?_
  rintro e' w2 ⟨V, rfl, hR2, hU2, hG2⟩
  have hRS2 : RS S0 V w2 := ⟨hR2, HRT.out, HSM.out, HG.out.grow hG2⟩
  have HRS2 := Lib.hid hRS2
  have HHi := Lib.hid (fun W (g : Grow w2 W) => allHits_own S0 V W (HRS2.out.grow g) (by omega))
  have HD2 : Hid (Side w2 own S0 V) := ⟨hRS2, fun k hk => ⟨fun ho => by have := HOL.out k ho; have := (hU2 k hk).1; omega, (hU2 k hk).2⟩, HV.out⟩
  have HG2 := Lib.hid hG2
  clear hRS2 hR2 hU2 hG2
  go_wp2_with (go_at_call 166; refine (HHi.out _ grI).mono ?_; rintro e' w' ⟨sh, rfl, hRH, hOH, nH, rfl⟩; have hNH := hRH.len)
  (try simp only [drew_plus] at hRH); (try simp only [plus_plus] at hRH)
  have hb0 : ((w2.alloc (.cells (stA V S0.num) 29)).plus nH).blk w2.heap.size = stA V S0.num := by go_simp
  have hl0 : w2.heap.size < ((w2.alloc (.cells (stA V S0.num) 29)).plus nH).heap.size := (by first | (go_simp; done) | (go_simp; omega) | (simp only [Sl.b]; go_simp; omega))
  have hG1 : Grow w2 ((w2.alloc (.cells (stA V S0.num) 29)).plus nH) := grI
  have HD1 := Lib.hid (HD2.out.grow hG1)
  have HR1 := Lib.hid (HR.out.grow (HG2.out.trans hG1))
  have hs2 := HG2.out.size
  have HRH := Lib.hid hRH
  have HOH := Lib.hid (show ∀ j, sh.owns j → ¬ own j from fun j hj ho => by have := HOL.out j ho; have := hOH j hj; rw [alloc_size'] at this; omega)
  have HB0 := Lib.hid hb0
  have HG1 := Lib.hid (HG2.out.trans hG1)
  clear hRH hOH hb0 hG1 HD2 HHi HRS2
  generalize (w2.alloc (.cells (stA V S0.num) 29)).plus nH = W1 at *
  go_loopw [10] (fun i wr => ∃ (k : Nat) (own2 : Nat → Prop), k ≤ (HitsN S0).length ∧ i = .int .i64 k ∧ Turn W1 b own (E.strikes S0 ((HitsN S0).take k)) wr own2) (fun i _ => (HitsN S0).length - (intOf i).toNat)
  case atStart => exact ⟨0, own, by omega, rfl, Turn.first HR1.out⟩
  case round =>
    obtain ⟨k, own2, hk, rfl, hT⟩ := hrel
    have HT := Lib.hid hT
    have hbw : wr.blk w2.heap.size = stA V S0.num := by rw [hT.kept.blk _ hl0 (fun h => by have := HOL.out _ h; omega)]; exact HB0.out
    have hlw : w2.heap.size < wr.heap.size := by have := hT.kept.size; omega
    clear hT
    by_cases hlt : k < (HitsN S0).length
    · obtain ⟨hb, hw, hsz, hsub, _⟩ := (HRH.out.kept HT.out.kept (fun hl ho => HOH.out _ (owns_ofR HRH.out hl) ho)).at (by omega) k hlt
      obtain ⟨d, t, n, hr, H⟩ := hits_in HRT.out (r := rowAt (HitsN S0) k) (rowAt_in _ _ hlt)
      have HS := Lib.hid (strikes_succ E S0 (HitsN S0) k hlt)
      rw [hr] at hsub HS
      have hst := ostrike_any (wr.alloc (.cells (cellsOf [(d : Int), t, n]) 185)) b own2 _ (HT.out.em.grow grI) S0 V ((HD1.out.turn HT.out.kept (fun j hj => (HT.out.own j hj).imp id And.left)).grow grI) hdr (FoR.strikes HRT.out HF.out k hk) d t n H
      have HSt2 := Lib.hid hst
      clear hst hr hw H
      go_wp2_with fail
      refine HSt2.out.mono ?_
      rintro e' w4 ⟨rfl, hE⟩
      obtain ⟨own4, T4⟩ := HT.out.step grI hE
      have HT4 := Lib.hid T4
      clear hE T4 hbw hlw hb hsz hsub
      go_wp2_with fail
      go_roundw
      case rel => exact ⟨k + 1, own4, by omega, by go_num, by rw [HS.out]; exact HT4.out⟩
      case measure => simp [intOf]; omega
    · have hke : k = (HitsN S0).length := by omega
      subst hke
      go_wp2_with fail
      go_end0
      have h2 := HT.out
      rw [List.take_length] at h2
      exact ⟨rfl, (h2.post HG1.out).more grI⟩
set_option maxRecDepth 100000 in
set_option maxHeartbeats 8000000 in
theorem oend_any (w : World) (b : Nat) (own : Nat → Prop) (E : Em) (R : Emt w b own E) {dr : List Int} (hdr : dr.length ≤ 1048576) (OG : Og 0 dr E) :
    Calls Tryz.prog 111 #[.pointer (some ⟨b, 0, none⟩)] w fun r w' => r = .returned (.tuple #[]) ∧ EPost w b own E.fought w' := by
  have hS : Right E.state := OG.rightS
  have F : FoR E.state dr E := OG.for'
  have hmoE : Mo E := OG.mo (by omega) hdr
  have hst0 : E.fought = E.ends (E.state.list 8) := rfl
  rw [hst0]
  clear hst0
  have hown := R.lt
  have HSt := Lib.hid (fun W (g : Grow w W) => ostate_any W b own E (R.grow g) hmoE)
  have HF := Lib.hid F
  have HR := Lib.hid R
  have HOL := Lib.hid hown
  have HRt := Lib.hid hS
  have hl8 : (E.state.list 8).length ≤ 400 := Nat.le_trans (hS.zon.len_le (z := 8) (by decide)) hS.many
  generalize E.state = S at *
  clear R F hown hS OG hmoE
  go_enter Tryz.func111, Tryz.ntmps111
  go_wp2_with fail
  refine (HSt.out _ grI).mono ?_
  rintro e' w2 ⟨V, rfl, hR2, hU2, hG2⟩
  have hI := hR2.list 8 (by decide)
  have hI8 := hI.len
  have HI := Lib.hid hI
  have HU := Lib.hid (show ∀ j, (V.list 8).owns j → ¬ own j from fun j hj ho => by have := HOL.out j ho; have := (hU2 j (Or.inr ⟨8, by decide, hj⟩)).1; omega)
  have HG2 := Lib.hid hG2
  have HR2 := Lib.hid (HR.out.grow hG2)
  clear hR2 hU2 hG2 hI
  go_wp2_with fail
  go_loopw [9] (fun i wr => ∃ (k : Nat) (own2 : Nat → Prop), k ≤ (S.list 8).length ∧ i = .int .i64 k ∧ Turn w2 b own (E.ends ((S.list 8).take k)) wr own2) (fun i _ => (S.list 8).length - (intOf i).toNat)
  case atStart => exact ⟨0, own, by omega, rfl, Turn.first HR2.out⟩
  case round =>
    obtain ⟨k, own2, hk, rfl, hT⟩ := hrel
    have HT := Lib.hid hT
    clear hT
    by_cases hlt : k < (S.list 8).length
    · obtain ⟨hlb, hlc⟩ := (HI.out.kept HT.out.kept (fun hl ho => HU.out _ (owns_of HI.out hl) ho)).at k hlt
      have HS := Lib.hid (ends_succ E (S.list 8) k hlt)
      have hFk := FoR.ends HRt.out HF.out k hk
      have hMk := hFk.og.mo (by omega) hdr
      have hMk2 := (hFk.end1 HRt.out k hlt).og.mo (by omega) hdr
      have HSet := Lib.hid (fun W (g : Grow wr W) => oset_any W b own2 _ (HT.out.em.grow g) hMk (gt (S.list 8) k) 11 0)
      have HK2 := Lib.hid hMk2
      generalize gt (S.list 8) k = id at *
      clear hFk hMk hMk2
      go_wp2_with fail
      refine (HSet.out _ grI).mono ?_
      rintro e' w3 ⟨rfl, hE⟩
      obtain ⟨own3, T3⟩ := HT.out.step grI hE
      have HT3 := Lib.hid T3
      have HSet2 := Lib.hid (fun W (g : Grow w3 W) => oset_any W b own3 _ (HT3.out.em.grow g) HK2.out id 12 0)
      clear hE T3 hlb hlc
      go_wp2_with fail
      refine (HSet2.out _ grI).mono ?_
      rintro e' w4 ⟨rfl, hE⟩
      obtain ⟨own4, T4⟩ := HT3.out.step grI hE
      have HT4 := Lib.hid T4
      clear hE T4
      go_wp2_with fail
      go_roundw
      case rel => exact ⟨k + 1, own4, by omega, by go_num, by rw [HS.out]; exact HT4.out⟩
      case measure => simp [intOf]; omega
    · have hke : k = (S.list 8).length := by omega
      subst hke
      go_wp2_with fail
      go_end0
      have h2 := HT.out
      rw [List.take_length] at h2
      exact ⟨rfl, (h2.post HG2.out).more grI⟩
end Go.Proofs.YtgobdndjemicjaaGreatDoor
namespace Go.Proofs.YtgobdndjemicjaaGreatDoor
open Go Go.RowKit Go.Shelf

/-- The upkeep abilities of the first objects. -/
def upkOne (S : St) (id : Int) : LR := if gt (rowAt S.objs id.toNat) 2 = S.num 19 then (usesN (kindN S id.toNat).abs 4).map fun i => [id, i, S.num 19] else []
def upkTo (S : St) (k : Nat) : LR := ((S.list 8).take k).flatMap (upkOne S)
theorem upkTo_succ (S : St) (k : Nat) (h : k < (S.list 8).length) : upkTo S (k + 1) = upkTo S k ++ upkOne S (gt (S.list 8) k) := by
  unfold upkTo
  rw [take_snoc _ _ h, List.flatMap_append]
  simp
theorem upkTo_all (S : St) : upkTo S (S.list 8).length = upkL S := by unfold upkTo; rw [List.take_length]; rfl
theorem upkTo_wid (S : St) (k : Nat) : ∀ r, r ∈ upkTo S k → r.length = 3 := by
  intro r h
  obtain ⟨a, _, ha⟩ := List.mem_flatMap.1 h
  unfold upkOne at ha
  split at ha
  · obtain ⟨i, _, rfl⟩ := List.mem_map.1 ha; rfl
  · cases ha
theorem upkeep_is (E : Em) : E.upkeep = E.abils (upkL E.state) := by
  unfold Em.upkeep Em.state
  by_cases h : E.err = 0
  · rw [if_neg (by rw [h]; simp), if_neg (by rw [h]; simp)]
  · rw [if_pos h, if_pos h]; rfl
set_option maxRecDepth 100000 in
set_option maxHeartbeats 8000000 in
theorem upkeep_any (w : World) (b : Nat) (own : Nat → Prop) (E : Em) (R : Emt w b own E) {m : Nat} {dr : List Int} (h : Og m dr E) (hm : m ≤ 131072) (hdr : dr.length ≤ 1048576) (GL : GlobE w own) :
    Calls Tryz.prog 33 #[.pointer (some ⟨b, 0, none⟩)] w fun r w' => r = .returned (.int .i64 (E.abilsR (upkL E.state))) ∧ EPost w b own E.upkeep w' := by
  have hRt := h.rightS
  have hMo := h.mo hm hdr
  have h8 : (E.state.list 8).length ≤ 400 := hRt.smallN.list 8 (by omega)
  rw [upkeep_is]
  have HSt := Lib.hid (fun W (g : Grow w W) => ostate_any W b own E (R.grow g) hMo)
  have HPut := Lib.hid (fun W (g : Grow w W) (s : Sl) (l : LR) (RL : Rows' W s 3 l) (hl : l.length ≤ 1048576) (hs : 0 < l.length → ¬ own s.b) => tput_any W b own E (R.grow g) h hm hdr (GL.grow g) s l RL hl hs)
  have hown := R.lt
  have HLT := Lib.hid hown
  have HRT := Lib.hid hRt
  clear R GL h hMo hRt hown
  generalize E.state = S at *
  go_enter Tryz.func33, Tryz.ntmps33
  go_wp2_with fail
  refine (HSt.out _ grI).mono ?_
  rintro e' w2 ⟨V, rfl, hR2, hU2, hG2⟩
  clear hU2
  have hN := hR2.objs.len
  have hL := (hR2.list 8 (by decide)).len
  have HR := Lib.hid hR2
  have HG2 := Lib.hid hG2
  clear hR2 hG2 HSt
  have e19 : gt [S.num 18, S.num 19, S.num 20, S.num 21, S.num 22, S.num 23, S.num 24] 1 = S.num 19 := rfl
  go_wp2_with fail
  go_loopw [5, 21] (fun v i wr => ∃ (k : Nat) (s : Sl), k ≤ (S.list 8).length ∧ i = .int .i64 k ∧ v = s.val ∧ Hid (Made (w2.alloc (.cells (stA V S.num) 29)).heap.size wr s 3 (flat (upkTo S k))) ∧ s.n ≤ 2 * k ∧ Grow (w2.alloc (.cells (stA V S.num) 29)) wr) (fun _ i _ => (S.list 8).length - (intOf i).toNat)
  case atStart => exact ⟨0, .nil, by omega, rfl, rfl, Made.nil _ _ _, by simp [Sl.n], grI⟩
  case round =>
    obtain ⟨k, s, hk, rfl, rfl, HM, hsn, hG⟩ := hrel
    obtain ⟨x, rfl⟩ := hG
    by_cases hlt : k < (S.list 8).length
    · obtain ⟨hlb, hlc⟩ := (HR.out.list 8 (by decide)).at k hlt
      obtain ⟨o1, o2, _, _⟩ := HRT.out.zon.ok 8 (by decide) (gt (S.list 8) k) (by rw [gt_eq _ _ hlt]; exact List.getElem_mem hlt)
      have HST := Lib.hid (upkTo_succ S k hlt)
      generalize hid : gt (S.list 8) k = id at *
      obtain ⟨d, rfl⟩ := Int.eq_ofNat_of_zero_le o1
      have hd : d < S.objs.length := by omega
      have hd' : (d : Int) < S.objs.length := by omega
      obtain ⟨hob, how, hosz, hosub, hocell⟩ := (HR.out.objs).at (by omega) d hd
      have hoc := hocell 2 (by omega)
      have hcd := HRT.out.card hd
      have HK := Lib.hid (fun W (g : Grow w2 W) => tkind_in S V W (HR.out.grow g) d hd (cdRel_ok (kindN S d)) 0 (fun W => by
        have := card_any W (gt (rowAt S.objs d) 0).toNat (by omega)
        rw [show (((gt (rowAt S.objs d) 0).toNat : Nat) : Int) = gt (rowAt S.objs d) 0 by omega] at this
        rw [errV_0]
        exact this.mono fun _ _ ⟨c, h1, h2, h3⟩ => ⟨c, h1, h2, h3⟩))
      have hst1 : upkOne S (d : Int) = if gt (rowAt S.objs d) 2 = S.num 19 then (usesN (kindN S d).abs 4).map fun i => [(d : Int), i, S.num 19] else [] := by unfold upkOne; rw [Int.toNat_natCast]
      rw [hst1] at HST
      clear hid o1 o2 hocell hosub hosz how hcd hst1
      generalize gt (rowAt S.objs d) 2 = ctl at *
      by_cases hctl : ctl = S.num 19
      · subst hctl
        rw [if_pos rfl] at HST
        have hne : (S.num 19 != S.num 19) = false := by simp
        have hu2 : (usesN (kindN S d).abs 4).length ≤ 2 := Nat.le_trans (usesN_len _ _) (kind_abs S d)
        have HUs := Lib.hid (fun (W : World) (c : CdV) (n : Nat) (hc : CardOk W n c (kindN S d)) => uses_any W c (kindN S d) n hc 4 (Nat.le_trans (kind_abs S d) (by decide)))
        generalize usesN (kindN S d).abs 4 = u at *
        go_wp2_with (first | (go_at_call 37; refine (HK.out _ grI).mono ?_; rintro e' w3 ⟨c, rfl, hc, n1, rfl⟩; (try simp only [drew_plus] at hc); (try simp only [plus_plus] at hc); have HC := Lib.hid hc; clear hc) | (go_at_call 85; refine (HUs.out _ c _ (HC.out.grow grI)).mono ?_; rintro e' w4 ⟨su, rfl, hI, hO, nU, rfl⟩; (try simp only [drew_plus] at hI); (try simp only [plus_plus] at hI); have HI := Lib.hid hI; have HO := Lib.hid hO; have hun := hI.len; clear hI hO))
        have hM4 : Made (w2.alloc (.cells (stA V S.num) 29)).heap.size ((((w2.alloc (.cells (stA V S.num) 29)).plus (x.and n1)).alloc (.cells c.arr 44)).plus nU) s 3 (flat (upkTo S k)) := HM.out.grow grI
        have hg4 : Grow (w2.alloc (.cells (stA V S.num) 29)) ((((w2.alloc (.cells (stA V S.num) 29)).plus (x.and n1)).alloc (.cells c.arr 44)).plus nU) := grI
        have hso : ∀ q, s.owns q → q < ((w2.alloc (.cells (stA V S.num) 29)).plus x).heap.size := fun q hq => (HM.out.own q hq).2
        have hsu : ∀ q, su.owns q → ((w2.alloc (.cells (stA V S.num) 29)).plus x).heap.size ≤ q := fun q hq => by
          have := HO.out q hq
          simp only [plus_size, alloc_size'] at this ⊢
          have e1 : ((w2.alloc (.cells (stA V S.num) 29)).plus (x.and n1)).heap.size = (((w2.alloc (.cells (stA V S.num) 29)).plus x).plus n1).heap.size := by rw [plus_plus]
          simp only [plus_size, alloc_size'] at e1
          omega
        have hpx : w2.heap.size + 1 ≤ ((w2.alloc (.cells (stA V S.num) 29)).plus x).heap.size := by simp only [plus_size, alloc_size']; omega
        have HM4 := Lib.hid hM4
        have HG4 := Lib.hid hg4
        have HSO := Lib.hid hso
        have HSU := Lib.hid hsu
        clear hM4 hg4 hso hsu HM HC HO HK HUs hoc hlc hlb hob
        generalize hpxe : ((w2.alloc (.cells (stA V S.num) 29)).plus x).heap.size = px at *
        clear hpxe
        generalize (((w2.alloc (.cells (stA V S.num) 29)).plus (x.and n1)).alloc (.cells c.arr 44)).plus nU = W4 at *
        go_loopw [5, 42] (fun v i wr => ∃ (j : Nat) (s : Sl), j ≤ u.length ∧ i = .int .i64 j ∧ v = s.val ∧ Hid (Made (w2.alloc (.cells (stA V S.num) 29)).heap.size wr s 3 (flat (upkTo S k ++ (u.take j).map fun i => [(d : Int), i, S.num 19])) ∧ (∀ q, s.owns q → q < px ∨ W4.heap.size ≤ q) ∧ Kept (fun q => q < px ∨ W4.heap.size ≤ q) W4 wr) ∧ s.n ≤ 2 * k + j ∧ Grow (w2.alloc (.cells (stA V S.num) 29)) wr) (fun _ i _ => u.length - (intOf i).toNat)
        case atStart => exact ⟨0, s, by omega, rfl, rfl, ⟨by rw [List.take_zero, List.map_nil, List.append_nil]; exact HM4.out, fun q hq => .inl (HSO.out q hq), Kept.refl _ _⟩, by omega, HG4.out⟩
        case round =>
          obtain ⟨j, s, hj, rfl, rfl, HM2, hsn2, hG⟩ := hrel
          obtain ⟨y, rfl⟩ := hG
          clear HM4 hsn HSO
          by_cases hjt : j < u.length
          · have HIj := HI.out.at j hjt
            have hsub : px ≤ su.b := HSU.out su.b (Sl.owns_b (by omega))
            have hks := HM2.out.2.2.size
            have f2 : ((w2.alloc (.cells (stA V S.num) 29)).plus y).cell? ⟨su.b, su.o + j, none⟩ = some (I (gt u j)) := by
              rw [HM2.out.2.2.cell _ _ HIj.1 (by have := HIj.1; omega)]; exact HIj.2
            have f2' : cellFar (w2.alloc (.cells (stA V S.num) 29)) y su.b (su.o + j) = some (I (gt u j)) := f2
            have r3 : w2.heap.size + 1 ≤ su.b := by omega
            have r6 : su.b < w2.heap.size + 1 + y.objs.size := by have := HIj.1; simp only [plus_size, alloc_size'] at hks; omega
            have HTK := Lib.hid (take_snoc u j hjt)
            have HKS := Lib.hid hks
            generalize gt u j = ui at *
            clear f2 HIj hks
            go_wp2_with (at_builtin; refine wpList_made rfl _ _ 55 rfl 99 Tryz.t99 (.agg (cellsOf [0, 0, 0])) 3 24 Tryz.underlying55 (by kernel_rfl) (by kernel_rfl) (by kernel_rfl) (by kernel_rfl) (by omega) rfl (w2.alloc (.cells (stA V S.num) 29)) s (.mk _ 0 1 1) (flat (upkTo S k ++ (u.take j).map fun i => [(d : Int), i, S.num 19])) (flat [[(d : Int), ui, S.num 19]]) rfl rfl (HM2.out.1.grow grI) grI (one_row _ _ 3 [(d : Int), ui, S.num 19] rfl (by go_simp)) (flat_ones _) (flat_ones _) (by simp only [Sl.n] at hsn2 ⊢; omega) ?_; intro s2 y3 c1 c2 c3 c4; have C := Lib.hid (And.intro c1 (And.intro c2 (And.intro c3 c4))); clear c1 c2 c3 c4)
            go_roundw
            case rel =>
              have hb3 : s2.n = s.n + 1 := C.out.2.2.1
              refine ⟨j + 1, s2, by omega, by go_num, rfl, ⟨by rw [HTK.out, List.map_append, ← List.append_assoc, flat_append]; exact C.out.1.grow grI, fun q hq => (C.out.2.2.2 q hq).elim (HM2.out.2.1 q) (fun h => .inr (by have := HKS.out; simp only [alloc_size', plus_size] at h this ⊢; omega)), ?_⟩, by omega, grI⟩
              exact ((HM2.out.2.2.trans (o2 := fun _ => False) (Grow.kept _ (show Grow ((w2.alloc (.cells (stA V S.num) 29)).plus y) _ from grI)) (fun _ _ h => h.elim)).trans (o2 := s.owns) C.out.2.1 (fun q _ hq => HM2.out.2.1 q hq))
            case measure => simp [intOf]; omega
          · have hju : j = u.length := by omega
            subst hju
            have HTA := Lib.hid (List.take_length (l := u))
            go_wp2_with fail
            go_roundw
            case rel => exact ⟨k + 1, s, by omega, by go_num, rfl, by rw [HST.out, ← HTA.out]; exact HM2.out.1.grow grI, by omega, grI⟩
            case measure => simp [intOf]; omega
      · rw [if_neg hctl] at HST
        have hne : (ctl != S.num 19) = true := by simpa using hctl
        go_wp2_with (go_at_call 37; refine (HK.out _ grI).mono ?_; rintro e' w3 ⟨c, rfl, hc, n1, rfl⟩; clear hc)
        go_roundw
        case rel => exact ⟨k + 1, s, by omega, by go_num, rfl, by rw [HST.out, List.append_nil]; exact HM.out.grow grI, by omega, grI⟩
        case measure => simp [intOf]; omega
    · have hke : k = (S.list 8).length := by omega
      subst hke
      have hm' := HM.out
      rw [upkTo_all] at hm'
      have hrw := hm'.rows3 (fun r hr => upkTo_wid S (S.list 8).length r (by rw [upkTo_all]; exact hr))
      have hrl := hrw.len
      have HRW := Lib.hid hrw
      have hsb : 0 < (upkL S).length → ¬ own s.b := fun hp ho => by
        have h1 := (hm'.own s.b (Sl.owns_b (by omega))).1
        have h2 := HLT.out _ ho
        have h3 := HG2.out.size
        rw [alloc_size'] at h1
        omega
      have HP2 := Lib.hid (fun W (g : Grow (w2.alloc (.cells (stA V S.num) 29)) W) (RL : Rows' W s 3 (upkL S)) => HPut.out W (HG2.out.trans (Grow.trans grI g)) s (upkL S) RL (by omega) hsb)
      have HG3 := Lib.hid (show Grow w (w2.alloc (.cells (stA V S.num) 29)) from HG2.out.trans grI)
      clear hm' hrw HM HPut hsb HRT HR
      go_wp2_with fail
      refine (HP2.out _ grI (HRW.out.grow grI)).mono ?_
      rintro e' w4 ⟨rfl, hE⟩
      have HE := Lib.hid hE
      clear hE
      go_wp2_with fail
      go_ret
      exact ⟨rfl, (EPost.low (Grow.trans HG3.out grI) HE.out).more grI⟩
end Go.Proofs.YtgobdndjemicjaaGreatDoor
namespace Go.Proofs.YtgobdndjemicjaaGreatDoor
open Go Go.RowKit Go.Shelf

set_option maxRecDepth 100000 in
set_option maxHeartbeats 4000000 in
theorem tempty_any (w : World) (b : Nat) (own : Nat → Prop) (E : Em) (R : Emt w b own E) {m : Nat} {dr : List Int} (hm : m ≤ 131072) (hdr : dr.length ≤ 1048576) (OG : Og m dr E) :
    Calls Tryz.prog 50 #[.pointer (some ⟨b, 0, none⟩)] w fun r w' => r = .returned (.tuple #[]) ∧ EPost w b own (E.emptyTo 12) w' := by
  have HMo : Hid (∀ n, n ≤ 12 → Mo (E.emptyTo n)) := fun n hn => (OG.emptyTo n hn).mo hm hdr
  have HSc : Hid (∀ k j, k < 2 → j < 6 → E.emptyTo (6 * k + (j + 1)) = (E.emptyTo (6 * k + j)).setPl (k : Int) (1 + (j : Int)) 0) := fun k j hk hj => by
    rw [show 6 * k + (j + 1) = 6 * k + j + 1 by omega, emptyTo_succ, show (6 * k + j) / 6 = k by omega, show (6 * k + j) % 6 = j by omega]
    congr 1
  have HR := Lib.hid R
  clear R OG
  go_enter Tryz.func50, Tryz.ntmps50
  go_wp2_with fail
  go_loopw [4] (fun i wr => ∃ (k : Nat) (own2 : Nat → Prop), k ≤ 2 ∧ i = .int .i64 k ∧ Turn w b own (E.emptyTo (6 * k)) wr own2) (fun i _ => 2 - (intOf i).toNat)
  case atStart => exact ⟨0, own, by omega, rfl, Turn.first HR.out⟩
  case round =>
    obtain ⟨k, own2, hk, rfl, hT⟩ := hrel
    have HT := Lib.hid hT
    clear hT
    by_cases hlt : k < 2
    · have hlt' : (k : Int) < 2 := by omega
      go_wp2_with fail
      go_loopw [7] (fun i wj => ∃ (j : Nat) (own3 : Nat → Prop), j ≤ 6 ∧ i = .int .i64 j ∧ Turn w b own (E.emptyTo (6 * k + j)) wj own3) (fun i _ => 6 - (intOf i).toNat)
      case atStart => exact ⟨0, own2, by omega, rfl, HT.out⟩
      case round =>
        obtain ⟨j, own3, hj, rfl, hT3⟩ := hrel
        by_cases hjt : j < 6
        · have hjt' : (j : Int) < 6 := by omega
          have HS := Lib.hid (HSc.out k j hlt hjt)
          have hmo := HMo.out (6 * k + j) (by omega)
          have HP := Lib.hid (fun W (g : Grow wr W) => oplayer_any W b own3 _ (hT3.em.grow g) hmo (k : Int) (1 + (j : Int)) 0)
          have HT3 := Lib.hid hT3
          generalize E.emptyTo (6 * k + j) = Ej at *
          clear hT3 hmo
          go_wp2_with fail
          refine (HP.out _ grI).mono ?_
          rintro e' w4 ⟨rfl, hE⟩
          obtain ⟨own4, T4⟩ := HT3.out.step grI hE
          rw [← HS.out] at T4
          have HT4 := Lib.hid T4
          clear hE T4
          go_wp2_with fail
          go_roundw
          case rel => exact ⟨j + 1, own4, by omega, by go_num, HT4.out⟩
          case measure => simp [intOf]; omega
        · have hje : j = 6 := by omega
          subst hje
          have HT3 := Lib.hid hT3
          clear hT3
          go_wp2_with fail
          go_roundw
          case rel => exact ⟨k + 1, own3, by omega, by go_num, HT3.out⟩
          case measure => simp [intOf]; omega
    · have hke : k = 2 := by omega
      subst hke
      go_wp2_with fail
      go_end0
      exact ⟨rfl, HT.out.post (Grow.refl _)⟩
@[go_sem ↓] theorem bslice_ints4 (ρ : Operand → Value) (dst : Option Tmp) (n : Nat) (parts : Array (Nat × Operand)) (ty : TypeId) (pos : String) (after : Array Edge) (guard : Option (Nat × Bool)) :
    execOp ρ { dst, op := .buildSlice 23 n parts, type := ty, pos, after, guard } = bsRow 23 n (parts.map fun (i, x) => (i, ρ x)) := rfl
@[go_sem] theorem run_bs_wear (w : World) : (bsRow 23 4 #[(0, .int .i64 6), (1, .int .i64 8), (2, .int .i64 9), (3, .int .i64 10)]).run Tryz.prog w = .ok (.value (.slice (some ⟨w.heap.size, 0, none⟩) 4 4)) (w.alloc (.cells (cellsOf wearL) 3)) := by kernel_rfl
set_option maxRecDepth 100000 in
set_option maxHeartbeats 4000000 in
theorem wear_any (w : World) (b : Nat) (own : Nat → Prop) (E : Em) (R : Emt w b own E) {dr : List Int} (hdr : dr.length ≤ 1048576) (OG : Og 0 dr E) :
    Calls Tryz.prog 112 #[.pointer (some ⟨b, 0, none⟩)] w fun r w' => r = .returned (.tuple #[]) ∧ EPost w b own E.wear w' := by
  have hS : Right E.state := OG.rightS
  have F : FoR E.state dr E := OG.for'
  have hmoE : Mo E := OG.mo (by omega) hdr
  have hst0 : E.wear = E.wears (E.state.list 8) := rfl
  rw [hst0]
  clear hst0
  have hown := R.lt
  have HSt := Lib.hid (fun W (g : Grow w W) => ostate_any W b own E (R.grow g) hmoE)
  have hl8 : (E.state.list 8).length ≤ 400 := hS.smallN.list 8 (by omega)
  have HMo : Hid (∀ k, k < (E.state.list 8).length → ∀ j, Mo ((E.wears ((E.state.list 8).take k)).clears (gt (E.state.list 8) k) (wearL.take j))) := fun k hk j => by
    obtain ⟨a, e, ha, h8⟩ := hS.stands k hk
    rw [e]
    exact (FoR.clears a ha h8 (wearL.take j) (fun f hf => (by decide : ∀ f ∈ wearL, 4 ≤ f ∧ f ≤ 12) f (List.mem_of_mem_take hf)) (FoR.wears hS F k (by omega))).og.mo (by omega) hdr
  have HR := Lib.hid R
  have HOL := Lib.hid hown
  clear R F hown hS OG hmoE
  generalize E.state = S at *
  go_enter Tryz.func112, Tryz.ntmps112
  go_wp2_with fail
  refine (HSt.out _ grI).mono ?_
  rintro e' w2 ⟨V, rfl, hR2, hU2, hG2⟩
  have hI := hR2.list 8 (by decide)
  have hI8 := hI.len
  have HI := Lib.hid hI
  have HU := Lib.hid (show ∀ j, (V.list 8).owns j → ¬ own j from fun j hj ho => by have := HOL.out j ho; have := (hU2 j (Or.inr ⟨8, by decide, hj⟩)).1; omega)
  have HG2 := Lib.hid hG2
  have HR2 := Lib.hid (HR.out.grow hG2)
  clear hR2 hU2 hG2 hI HSt
  go_wp2_with fail
  go_loopw [11] (fun i wr => ∃ (k : Nat) (own2 : Nat → Prop), k ≤ (S.list 8).length ∧ i = .int .i64 k ∧ Turn w2 b own (E.wears ((S.list 8).take k)) wr own2) (fun i _ => (S.list 8).length - (intOf i).toNat)
  case atStart => exact ⟨0, own, by omega, rfl, Turn.first HR2.out⟩
  case round =>
    obtain ⟨k, own2, hk, rfl, hT⟩ := hrel
    have HT := Lib.hid hT
    clear hT
    by_cases hlt : k < (S.list 8).length
    · obtain ⟨hlb, hlc⟩ := (HI.out.kept HT.out.kept (fun hl ho => HU.out _ (owns_of HI.out hl) ho)).at k hlt
      have HS := Lib.hid (wears_succ E (S.list 8) k hlt)
      have HM := Lib.hid (HMo.out k hlt)
      have HO2 := Lib.hid HT.out.em.lt
      generalize gt (S.list 8) k = id at *
      generalize E.wears ((S.list 8).take k) = Ek at *
      go_wp2_with fail
      have hT0 : Turn (wr.alloc (.cells (cellsOf wearL) 3)) b own2 (Ek.clears id (wearL.take 0)) (wr.alloc (.cells (cellsOf wearL) 3)) own2 := Turn.first (HT.out.em.grow grI)
      have HT0 := Lib.hid hT0
      have HGA := Lib.hid (show Grow wr (wr.alloc (.cells (cellsOf wearL) 3)) from grI)
      have hlit : ∀ j, j < 4 → (wr.alloc (.cells (cellsOf wearL) 3)).cell? ⟨wr.heap.size, j, none⟩ = some (I (gt wearL j)) := fun j hj => by
        rw [alloc_cell, if_pos rfl]
        have : j = 0 ∨ j = 1 ∨ j = 2 ∨ j = 3 := by omega
        rcases this with rfl | rfl | rfl | rfl <;> rfl
      have HLIT := Lib.hid hlit
      have HSZ := Lib.hid (show wr.heap.size < (wr.alloc (.cells (cellsOf wearL) 3)).heap.size by rw [alloc_size']; omega)
      clear hT0 hlit hlb hlc
      generalize hq : wr.heap.size = q at *
      generalize wr.alloc (.cells (cellsOf wearL) 3) = W1 at *
      go_loopw [17] (fun i wj => ∃ (j : Nat) (own3 : Nat → Prop), j ≤ 4 ∧ i = .int .i64 j ∧ Turn W1 b own2 (Ek.clears id (wearL.take j)) wj own3) (fun i _ => 4 - (intOf i).toNat)
      case atStart => exact ⟨0, own2, by omega, rfl, HT0.out⟩
      case round =>
        obtain ⟨j, own3, hj, rfl, hT3⟩ := hrel
        by_cases hjt : j < 4
        · have hjt' : (j : Int) < 4 := by omega
          have hcj : wr.cell? ⟨q, j, none⟩ = some (I (gt wearL j)) := by
            rw [hT3.kept.cell q j HSZ.out (fun h => by have := HO2.out q h; omega)]; exact HLIT.out j hjt
          have hqj : q < wr.heap.size := Nat.lt_of_lt_of_le HSZ.out hT3.kept.size
          have HSj := Lib.hid (clears_succ Ek id wearL j hjt)
          have hmo := HM.out j
          have HP := Lib.hid (fun W (g : Grow wr W) f => oset_any W b own3 _ (hT3.em.grow g) hmo id f 0)
          have HT3 := Lib.hid hT3
          generalize Ek.clears id (wearL.take j) = Ej at *
          generalize gt wearL j = f at *
          clear hT3 hmo
          go_wp2_with fail
          refine (HP.out _ grI f).mono ?_
          rintro e' w4 ⟨rfl, hE⟩
          obtain ⟨own4, T4⟩ := HT3.out.step grI hE
          rw [← HSj.out] at T4
          have HT4 := Lib.hid T4
          clear hE T4 hcj hqj
          go_wp2_with fail
          go_roundw
          case rel => exact ⟨j + 1, own4, by omega, by go_num, HT4.out⟩
          case measure => simp [intOf]; omega
        · have hje : j = 4 := by omega
          subst hje
          obtain ⟨own4, T4⟩ := HT.out.step HGA.out (hT3.post (Grow.refl _))
          rw [show wearL.take 4 = wearL from rfl, ← HS.out] at T4
          have HT4 := Lib.hid T4
          clear hT3 T4
          go_wp2_with fail
          go_roundw
          case rel => exact ⟨k + 1, own4, by omega, by go_num, HT4.out⟩
          case measure => simp [intOf]; omega
    · have hke : k = (S.list 8).length := by omega
      subst hke
      go_wp2_with fail
      go_end0
      have h2 := HT.out
      rw [List.take_length] at h2
      exact ⟨rfl, (h2.post HG2.out).more grI⟩
set_option maxRecDepth 100000 in
set_option maxHeartbeats 4000000 in
theorem wake_any (w : World) (b : Nat) (own : Nat → Prop) (E : Em) (R : Emt w b own E) {dr : List Int} (hdr : dr.length ≤ 1048576) (OG : Og 0 dr E) (p : Int) :
    Calls Tryz.prog 113 #[.pointer (some ⟨b, 0, none⟩), .int .i64 p] w fun r w' => r = .returned (.tuple #[]) ∧ EPost w b own (E.wake p) w' := by
  have hS : Right E.state := OG.rightS
  have F : FoR E.state dr E := OG.for'
  have hmoE : Mo E := OG.mo (by omega) hdr
  have hst0 : E.wake p = E.wakes E.state p (E.state.list 8) := rfl
  rw [hst0]
  clear hst0
  have hown := R.lt
  have HSt := Lib.hid (fun W (g : Grow w W) => ostate_any W b own E (R.grow g) hmoE)
  have hl8 : (E.state.list 8).length ≤ 400 := hS.smallN.list 8 (by omega)
  have HMo : Hid (∀ k, k < (E.state.list 8).length → Mo (E.wakes E.state p ((E.state.list 8).take k)) ∧ Mo ((E.wakes E.state p ((E.state.list 8).take k)).setObj (gt (E.state.list 8) k) 4 0) ∧ (∃ a : Nat, gt (E.state.list 8) k = a ∧ a < E.state.objs.length)) := fun k hk => by
    obtain ⟨a, e, ha, h8⟩ := hS.stands k hk
    have h1 := FoR.wakes hS F p k (by omega)
    refine ⟨h1.og.mo (by omega) hdr, ?_, a, e, ha⟩
    rw [e]
    exact (FoR.set h1 a 4 0 ha h8 (by omega) (obj_zero _ 4 (by omega))).og.mo (by omega) hdr
  have HR := Lib.hid R
  have HOL := Lib.hid hown
  clear R F hown hS OG hmoE
  generalize E.state = S at *
  go_enter Tryz.func113, Tryz.ntmps113
  go_wp2_with fail
  refine (HSt.out _ grI).mono ?_
  rintro e' w2 ⟨V, rfl, hR2, hU2, hG2⟩
  have hI8 := (hR2.list 8 (by decide)).len
  have hN := hR2.objs.len
  have HRep := Lib.hid hR2
  have HU := Lib.hid (show ∀ j, V.uses j → ¬ own j from fun j hj ho => by have := HOL.out j ho; have := (hU2 j hj).1; omega)
  have HG2 := Lib.hid hG2
  have HR2 := Lib.hid (HR.out.grow hG2)
  have HOL2 := Lib.hid (show ∀ j, own j → j < w2.heap.size from fun j hj => Nat.lt_of_lt_of_le (HOL.out j hj) hG2.size)
  clear hR2 hU2 hG2 HSt
  go_wp2_with fail
  go_loopw [13] (fun i wr => ∃ (k : Nat) (own2 : Nat → Prop), k ≤ (S.list 8).length ∧ i = .int .i64 k ∧ Turn (w2.alloc (.cells (stA V S.num) 29)) b own (E.wakes S p ((S.list 8).take k)) wr own2) (fun i _ => (S.list 8).length - (intOf i).toNat)
  case atStart => exact ⟨0, own, by omega, rfl, Turn.first (HR2.out.grow grI)⟩
  case round =>
    obtain ⟨k, own2, hk, rfl, hT⟩ := hrel
    have HT := Lib.hid hT
    by_cases hlt : k < (S.list 8).length
    · have hrep : RepSt wr V S := (HRep.out.grow (w' := w2.alloc (.cells (stA V S.num) 29)) grI).kept hT.kept (fun j hj => HU.out j hj)
      have hbw : wr.cell? ⟨w2.heap.size, 0, none⟩ = some V.objs.val := by rw [hT.kept.cell _ _ (by rw [alloc_size']; omega) (fun h => by have := HOL2.out _ h; omega), alloc_cell, if_pos rfl]; rfl
      have hlw : w2.heap.size < wr.heap.size := by have := hT.kept.size; rw [alloc_size'] at this; omega
      obtain ⟨hlb, hlc⟩ := (hrep.list 8 (by decide)).at k hlt
      have HS := Lib.hid (wakes_succ E S p (S.list 8) k hlt)
      obtain ⟨M1, M2, a, ha, hal⟩ := HMo.out k hlt
      rw [ha] at hlc HS M2
      have hal' : (a : Int) < S.objs.length := by omega
      obtain ⟨hob, _, _, _, hocell⟩ := (hrep.objs).at (by omega) a hal
      have hoc := hocell 2 (by omega)
      have hw1 : ∀ E : Em, E.wakeOne S p (a : Int) = if gt (rowAt S.objs a) 2 = p then (E.setObj (a : Int) 4 0).setObj (a : Int) 5 0 else E := fun E => by unfold Em.wakeOne; rw [Int.toNat_natCast]; rfl
      rw [hw1] at HS
      have HP1 := Lib.hid (fun W (g : Grow wr W) => oset_any W b own2 _ (hT.em.grow g) M1 (a : Int) 4 0)
      have HP2 := Lib.hid (fun W own3 (R3 : Emt W b own3 ((E.wakes S p ((S.list 8).take k)).setObj (a : Int) 4 0)) => oset_any W b own3 _ R3 M2 (a : Int) 5 0)
      generalize E.wakes S p ((S.list 8).take k) = Ek at *
      generalize gt (rowAt S.objs a) 2 = ctl at *
      clear hT hrep hocell M1 M2 ha hw1
      by_cases hc : ctl = p
      · rw [if_pos hc] at HS
        have hcb : (ctl == p) = true := by simpa using hc
        clear hc
        go_wp2_with fail
        refine (HP1.out _ grI).mono ?_
        rintro e' w3 ⟨rfl, hE⟩
        obtain ⟨own3, T3⟩ := HT.out.step grI hE
        have HP3 := Lib.hid (fun W (g : Grow w3 W) => HP2.out W own3 (T3.em.grow g))
        have HT3 := Lib.hid T3
        clear hE T3 hlb hlc hob hoc hbw hlw HP1 HP2
        go_wp2_with fail
        refine (HP3.out _ grI).mono ?_
        rintro e' w4 ⟨rfl, hE⟩
        obtain ⟨own4, T4⟩ := HT3.out.step grI hE
        rw [← HS.out] at T4
        have HT4 := Lib.hid T4
        clear hE T4 HP3
        go_wp2_with fail
        go_roundw
        case rel => exact ⟨k + 1, own4, by omega, by go_num, HT4.out⟩
        case measure => simp [intOf]; omega
      · rw [if_neg hc] at HS
        have hcb : (ctl == p) = false := by simpa using hc
        have T4 := HT.out
        rw [← HS.out] at T4
        have HT4 := Lib.hid T4
        clear hc T4
        go_wp2_with fail
        go_roundw
        case rel => exact ⟨k + 1, own2, by omega, by go_num, HT4.out.grow grI⟩
        case measure => simp [intOf]; omega
    · have hke : k = (S.list 8).length := by omega
      subst hke
      clear hT
      have HG3 := Lib.hid (show Grow w (w2.alloc (.cells (stA V S.num) 29)) from HG2.out.trans grI)
      go_wp2_with fail
      go_end0
      have h2 := HT.out
      rw [List.take_length] at h2
      exact ⟨rfl, (h2.post HG3.out).more grI⟩
end Go.Proofs.YtgobdndjemicjaaGreatDoor
namespace Go.Proofs.YtgobdndjemicjaaGreatDoor
open Go Go.RowKit Go.Shelf

theorem leave_0 {E : Em} (h : E.state.num 20 = 0) : E.leave = (if 1 < E.state.num 18 then E.draw (E.state.num 19) else E) ∧ E.leaveR = 1 := by unfold Em.leave Em.leaveR; rw [if_pos h, if_pos h]; exact ⟨rfl, rfl⟩
theorem leave_2 {E : Em} (h : E.state.num 20 = 2) : E.leave = E ∧ E.leaveR = (if attackersN E.state = [] then 5 else 3) := by unfold Em.leave Em.leaveR; simp [h]
theorem leave_4 {E : Em} (h : E.state.num 20 = 4) : E.leave = E.hits.fought ∧ E.leaveR = 5 := by unfold Em.leave Em.leaveR; simp [h]
theorem leave_7 {E : Em} (h : E.state.num 20 = 7) : E.leave = E.clean ∧ E.leaveR = 0 := by unfold Em.leave Em.leaveR; simp [h]
theorem leave_else {E : Em} (h0 : E.state.num 20 ≠ 0) (h2 : E.state.num 20 ≠ 2) (h4 : E.state.num 20 ≠ 4) (h7 : E.state.num 20 ≠ 7) : E.leave = E ∧ E.leaveR = E.state.num 20 + 1 := by
  unfold Em.leave Em.leaveR
  rw [if_neg h0, if_neg h0, if_neg h2, if_neg h2, if_neg h4, if_neg h4, if_neg h7, if_neg h7]; exact ⟨rfl, rfl⟩
section
variable (w : World) (b : Nat) (own : Nat → Prop) (E : Em) (R : Emt w b own E) {dr : List Int} (hdr : dr.length ≤ 1048576) (OG : Og 0 dr E) (GL : GlobE w own)
include R hdr OG GL
set_option maxRecDepth 100000 in
set_option maxHeartbeats 4000000 in
theorem leave0_any (h : E.state.num 20 = 0) : Calls Tryz.prog 51 #[.pointer (some ⟨b, 0, none⟩)] w fun r w' => r = .returned (.int .i64 E.leaveR) ∧ EPost w b own E.leave w' := by
  obtain ⟨e1, e2⟩ := leave_0 h
  rw [e1, e2]
  have HSt := Lib.hid (fun W (g : Grow w W) => ostate_any W b own E (R.grow g) (OG.mo (by omega) hdr))
  have HDr := Lib.hid (fun W (g : Grow w W) => odraw_any W b own E (R.grow g) (OG.mo (by omega) hdr) (GL.grow g) (E.state.num 19))
  have HR := Lib.hid R
  have hb0 : (E.state.num 20 == 0) = true := by simpa using h
  clear R OG GL h e1 e2
  generalize E.state = S at *
  by_cases ht : 1 < S.num 18
  · rw [if_pos ht]
    go_enter Tryz.func51, Tryz.ntmps51
    go_wp2_with fail
    refine (HSt.out _ grI).mono ?_
    rintro e' w2 ⟨V, rfl, hR2, hU2, hG2⟩
    have HD2 := Lib.hid (fun W (g : Grow w2 W) => HDr.out W (hG2.trans g))
    have HG2 := Lib.hid hG2
    clear hR2 hU2 hG2 HDr HSt
    go_wp2_with fail
    refine (HD2.out _ grI).mono ?_
    rintro e' w3 ⟨rfl, hE⟩
    have HE := Lib.hid (EPost.low (HG2.out.trans grI) hE)
    clear hE HD2
    go_wp2_with fail
    go_ret
    exact ⟨rfl, HE.out.more grI⟩
  · rw [if_neg ht]
    have ht' : (1 < S.num 18) = False := by simpa using ht
    clear ht
    go_enter Tryz.func51, Tryz.ntmps51
    go_wp2_with (go_at_call 18; refine (HSt.out _ grI).mono ?_; rintro e' w' ⟨V', rfl, _, _, nS, rfl⟩)
    go_ret
    exact ⟨rfl, .of_grow HR.out grI⟩
set_option maxRecDepth 100000 in
set_option maxHeartbeats 4000000 in
theorem leave2_any (h : E.state.num 20 = 2) : Calls Tryz.prog 51 #[.pointer (some ⟨b, 0, none⟩)] w fun r w' => r = .returned (.int .i64 E.leaveR) ∧ EPost w b own E.leave w' := by
  obtain ⟨e1, e2⟩ := leave_2 h
  rw [e1, e2]
  have hRt := OG.rightS
  have hsm : Small E.state := hRt.smallN.small (by omega)
  have HSt := Lib.hid (fun W (g : Grow w W) => ostate_any W b own E (R.grow g) (OG.mo (by omega) hdr))
  have HAt := Lib.hid (fun V W (g : Grow w W) (r : RepSt W V E.state) => attackers_any E.state V W ⟨r, hRt, hsm, GL.base.grow g⟩)
  have HR := Lib.hid R
  have hb0 : (E.state.num 20 == 0) = false := by rw [h]; rfl
  have hb2 : (E.state.num 20 == 2) = true := by simpa using h
  clear R OG GL h e1 e2 hRt hsm
  generalize E.state = S at *
  by_cases ha : attackersN S = []
  · rw [if_pos ha]
    go_enter Tryz.func51, Tryz.ntmps51
    go_wp2_with (first | (go_at_call 18; refine (HSt.out _ grI).mono ?_; rintro e' w' ⟨V', rfl, hR2, _, nS, rfl⟩; have HR2 := Lib.hid hR2; clear hR2) | (go_at_call 109; refine (HAt.out _ _ grI (HR2.out.grow grI)).mono ?_; rintro e' w' ⟨sa, rfl, hI, nA, rfl⟩; have hl := hI.len; rw [ha, List.length_nil] at hl; clear hI))
    go_ret
    exact ⟨rfl, .of_grow HR.out grI⟩
  · rw [if_neg ha]
    have hap : 0 < (attackersN S).length := List.length_pos_iff.2 ha
    go_enter Tryz.func51, Tryz.ntmps51
    go_wp2_with (first | (go_at_call 18; refine (HSt.out _ grI).mono ?_; rintro e' w' ⟨V', rfl, hR2, _, nS, rfl⟩; have HR2 := Lib.hid hR2; clear hR2) | (go_at_call 109; refine (HAt.out _ _ grI (HR2.out.grow grI)).mono ?_; rintro e' w' ⟨sa, rfl, hI, nA, rfl⟩; have hl := hI.len; have hlb : ((sa.n : Int) == 0) = false := (by simp; omega); clear hI))
    go_ret
    exact ⟨rfl, .of_grow HR.out grI⟩
set_option maxRecDepth 100000 in
set_option maxHeartbeats 4000000 in
theorem leave4_any (h : E.state.num 20 = 4) : Calls Tryz.prog 51 #[.pointer (some ⟨b, 0, none⟩)] w fun r w' => r = .returned (.int .i64 E.leaveR) ∧ EPost w b own E.leave w' := by
  obtain ⟨e1, e2⟩ := leave_4 h
  rw [e1, e2]
  have HSt := Lib.hid (fun W (g : Grow w W) => ostate_any W b own E (R.grow g) (OG.mo (by omega) hdr))
  have HSk := Lib.hid (fun W (g : Grow w W) => ostrikeAll_any W b own E (R.grow g) (GL.grow g) hdr OG)
  have HEn := Lib.hid (fun W own' (R' : Emt W b own' E.hits) => oend_any W b own' E.hits R' hdr OG.hits)
  have HR := Lib.hid R
  have hb0 : (E.state.num 20 == 0) = false := by rw [h]; rfl
  have hb2 : (E.state.num 20 == 2) = false := by rw [h]; rfl
  have hb4 : (E.state.num 20 == 4) = true := by simpa using h
  clear R OG GL h e1 e2
  generalize E.hits = E1 at *
  generalize E.state = S at *
  go_enter Tryz.func51, Tryz.ntmps51
  go_wp2_with (go_at_call 18; refine (HSt.out _ grI).mono ?_; rintro e' w' ⟨V', rfl, _, _, nS, rfl⟩)
  refine (HSk.out _ grI).mono ?_
  rintro e' w2 ⟨rfl, hE⟩
  obtain ⟨own2, T2⟩ := (Turn.first HR.out).step grI hE
  have HT2 := Lib.hid T2
  have HE2 := Lib.hid (fun W (g : Grow w2 W) => HEn.out W own2 (T2.em.grow g))
  clear hE T2 HSk HSt HEn
  go_wp2_with fail
  refine (HE2.out _ grI).mono ?_
  rintro e' w3 ⟨rfl, hE⟩
  obtain ⟨own3, T3⟩ := HT2.out.step grI hE
  have HT3 := Lib.hid T3
  clear hE T3
  go_wp2_with fail
  go_ret
  exact ⟨rfl, (HT3.out.post (Grow.refl _)).more grI⟩
set_option maxRecDepth 100000 in
set_option maxHeartbeats 4000000 in
theorem leaveD_any (h0 : E.state.num 20 ≠ 0) (h2 : E.state.num 20 ≠ 2) (h4 : E.state.num 20 ≠ 4) (h7 : E.state.num 20 ≠ 7) : Calls Tryz.prog 51 #[.pointer (some ⟨b, 0, none⟩)] w fun r w' => r = .returned (.int .i64 E.leaveR) ∧ EPost w b own E.leave w' := by
  have _ := GL
  obtain ⟨e1, e2⟩ := leave_else h0 h2 h4 h7
  rw [e1, e2]
  have HSt := Lib.hid (fun W (g : Grow w W) => ostate_any W b own E (R.grow g) (OG.mo (by omega) hdr))
  obtain ⟨_, _, g1, g2⟩ := gm_state OG
  have HR := Lib.hid R
  have hb0 : (E.state.num 20 == 0) = false := by simpa using h0
  have hb2 : (E.state.num 20 == 2) = false := by simpa using h2
  have hb4 : (E.state.num 20 == 4) = false := by simpa using h4
  have hb7 : (E.state.num 20 == 7) = false := by simpa using h7
  clear R OG GL h0 h2 h4 h7 e1 e2
  generalize E.state = S at *
  go_enter Tryz.func51, Tryz.ntmps51
  go_wp2_with (go_at_call 18; refine (HSt.out _ grI).mono ?_; rintro e' w' ⟨V', rfl, _, _, nS, rfl⟩)
  go_ret
  exact ⟨rfl, .of_grow HR.out grI⟩
end
/-- Nobody has played a source, for the first players. -/
def Em.freshTo (E : Em) (k : Nat) : Em := (List.range k).foldl (fun (E : Em) (i : Nat) => E.setPl (i : Int) 7 0) E
theorem freshTo_succ (E : Em) (k : Nat) : E.freshTo (k + 1) = (E.freshTo k).setPl (k : Int) 7 0 := by
  unfold Em.freshTo
  rw [List.range_succ, List.foldl_append]; rfl
theorem Og.freshTo {m : Nat} {d : List Int} {E : Em} (h : Og m d E) : ∀ k, k ≤ 2 → Og m d (E.freshTo k)
  | 0, _ => h
  | k + 1, hk => by
    rw [freshTo_succ]
    exact (Og.freshTo h k (by omega)).setPl k 7 (by omega) (by omega) 0 (by decide)
section
variable (w : World) (b : Nat) (own : Nat → Prop) (E : Em) (R : Emt w b own E) {dr : List Int} (hdr : dr.length ≤ 1048576) (OG : Og 0 dr E) (GL : GlobE w own)
include R hdr OG GL
set_option maxRecDepth 100000 in
set_option maxHeartbeats 4000000 in
theorem leave7_any (h : E.state.num 20 = 7) : Calls Tryz.prog 51 #[.pointer (some ⟨b, 0, none⟩)] w fun r w' => r = .returned (.int .i64 E.leaveR) ∧ EPost w b own E.leave w' := by
  have _ := GL
  obtain ⟨e1, e2⟩ := leave_7 h
  rw [e1, e2]
  obtain ⟨g1, g2, _⟩ := gm_state OG
  have hcl : E.clean = ((((E.wear.setGame 0 (E.state.num 18 + 1)).setGame 1 (1 - E.state.num 19)).freshTo 2)).wake (1 - E.state.num 19) := by
    unfold Em.clean
    rw [show wrap64 (E.state.num 18 + 1) = E.state.num 18 + 1 by unfold wrap64; omega]
    rfl
  rw [hcl]
  have O1 := OG.wear
  have O2 := O1.turn _ g1
  rw [show wrap64 (E.state.num 18 + 1) = E.state.num 18 + 1 by unfold wrap64; omega] at O2
  have O3 := O2.setGm 1 (by omega) (1 - E.state.num 19) (bit_in _ (by omega) 1 (by omega))
  have HSt := Lib.hid (fun W (g : Grow w W) => ostate_any W b own E (R.grow g) (OG.mo (by omega) hdr))
  have HWe := Lib.hid (fun W (g : Grow w W) => wear_any W b own E (R.grow g) hdr OG)
  have HG1 := Lib.hid (fun W own' (R' : Emt W b own' E.wear) => ogame_any W b own' E.wear R' (O1.mo (by omega) hdr) 0 (E.state.num 18 + 1))
  have HG2 := Lib.hid (fun W own' (R' : Emt W b own' (E.wear.setGame 0 (E.state.num 18 + 1))) => ogame_any W b own' _ R' (O2.mo (by omega) hdr) 1 (1 - E.state.num 19))
  have O3' : Og 0 dr ((E.wear.setGame 0 (E.state.num 18 + 1)).setGame 1 (1 - E.state.num 19)) := O3
  have HFoe := Lib.hid (fun W => foe_any W (E.state.num 19) g2.1 g2.2)
  clear O3
  generalize E.wear.setGame 0 (E.state.num 18 + 1) = E2 at *
  generalize E.wear = E1 at *
  generalize E2.setGame 1 (1 - E.state.num 19) = E3 at *
  have HPl := Lib.hid (fun W own' k (hk : k ≤ 2) (R' : Emt W b own' (E3.freshTo k)) => oplayer_any W b own' _ R' ((O3'.freshTo k hk).mo (by omega) hdr) (k : Int) 7 0)
  have HWa := Lib.hid (fun W own' (R' : Emt W b own' (E3.freshTo 2)) => wake_any W b own' _ R' hdr (O3'.freshTo 2 (by omega)) (1 - E.state.num 19))
  have hown := R.lt
  have HOL := Lib.hid hown
  have HR := Lib.hid R
  have hb0 : (E.state.num 20 == 0) = false := by rw [h]; rfl
  have hb2 : (E.state.num 20 == 2) = false := by rw [h]; rfl
  have hb4 : (E.state.num 20 == 4) = false := by rw [h]; rfl
  have hb7 : (E.state.num 20 == 7) = true := by simpa using h
  obtain ⟨g11, g12⟩ := g1
  obtain ⟨g21, g22⟩ := g2
  clear R OG GL h e1 e2 O1 O2 O3' hcl hown
  generalize E.state = S at *
  go_enter Tryz.func51, Tryz.ntmps51
  go_wp2_with fail
  refine (HSt.out _ grI).mono ?_
  rintro e' w1 ⟨V, rfl, _, _, hG⟩
  have HGG := Lib.hid hG
  have HWe1 := Lib.hid (fun W (g : Grow w1 W) => HWe.out W (hG.trans g))
  have HR1 := Lib.hid (HR.out.grow hG)
  have HOL1 := Lib.hid (show ∀ j, own j → j < w1.heap.size from fun j hj => Nat.lt_of_lt_of_le (HOL.out j hj) hG.size)
  clear hG HSt HWe
  go_wp2_with fail
  refine (HWe1.out _ grI).mono ?_
  rintro e' w2 ⟨rfl, hE⟩
  obtain ⟨own2, T2⟩ := (Turn.first (HR1.out.grow (show Grow w1 (w1.alloc (.cells (stA V S.num) 29)) from grI))).step grI hE
  have hcw : w2.cell? ⟨w1.heap.size, 30, none⟩ = some (I (S.num 18)) := by rw [T2.kept.cell _ _ (by rw [alloc_size']; omega) (fun h => by have := HOL1.out _ h; omega), alloc_cell, if_pos rfl]; rfl
  have hlw : w1.heap.size < w2.heap.size := by have := T2.kept.size; rw [alloc_size'] at this; omega
  have HT2 := Lib.hid T2
  have HG12 := Lib.hid (fun W (g : Grow w2 W) => HG1.out W own2 (T2.em.grow g))
  clear hE T2 HWe1 HG1
  go_wp2_with fail
  refine (HG12.out _ grI).mono ?_
  rintro e' w3 ⟨rfl, hE⟩
  obtain ⟨own3, T3⟩ := HT2.out.step grI hE
  have HT3 := Lib.hid T3
  have HG23 := Lib.hid (fun W (g : Grow w3 W) => HG2.out W own3 (T3.em.grow g))
  clear hE T3 HG12 HG2 hcw hlw
  go_wp2_with (go_at_call 53; refine (HFoe.out _).mono ?_; rintro e' w' ⟨rfl, nx, rfl⟩)
  refine (HG23.out _ grI).mono ?_
  rintro e' w4 ⟨rfl, hE⟩
  obtain ⟨own4, T4⟩ := HT3.out.step grI hE
  have HT4 := Lib.hid T4
  clear hE T4 HG23
  go_wp2_with fail
  go_loopw [53] (fun i wr => ∃ (k : Nat) (ownk : Nat → Prop), k ≤ 2 ∧ i = .int .i64 k ∧ Turn (w1.alloc (.cells (stA V S.num) 29)) b own (E3.freshTo k) wr ownk) (fun i _ => 2 - (intOf i).toNat)
  case atStart => exact ⟨0, own4, by omega, rfl, HT4.out⟩
  case round =>
    obtain ⟨k, ownk, hk, rfl, hT⟩ := hrel
    by_cases hlt : k < 2
    · have hlt' : (k : Int) < 2 := by omega
      have HP := Lib.hid (fun W (g : Grow wr W) => HPl.out W ownk k hk (hT.em.grow g))
      have HT := Lib.hid hT
      clear hT
      go_wp2_with fail
      refine (HP.out _ grI).mono ?_
      rintro e' w5 ⟨rfl, hE⟩
      obtain ⟨own5, T5⟩ := HT.out.step grI hE
      rw [← freshTo_succ] at T5
      have HT5 := Lib.hid T5
      clear hE T5 HP
      go_wp2_with fail
      go_roundw
      case rel => exact ⟨k + 1, own5, by omega, by go_num, HT5.out⟩
      case measure => simp [intOf]; omega
    · have hke : k = 2 := by omega
      subst hke
      have HWk := Lib.hid (fun W (g : Grow wr W) => HWa.out W ownk (hT.em.grow g))
      have HT := Lib.hid hT
      clear hT
      go_wp2_with (go_at_call 53; refine (HFoe.out _).mono ?_; rintro e' w' ⟨rfl, nx, rfl⟩)
      refine (HWk.out _ grI).mono ?_
      rintro e' w6 ⟨rfl, hE⟩
      obtain ⟨own6, T6⟩ := HT.out.step grI hE
      have HT6 := Lib.hid T6
      clear hE T6 HWk
      go_wp2_with fail
      go_ret
      exact ⟨rfl, (HT6.out.post (HGG.out.trans (show Grow w1 (w1.alloc (.cells (stA V S.num) 29)) from grI))).more grI⟩
theorem leave_any : Calls Tryz.prog 51 #[.pointer (some ⟨b, 0, none⟩)] w fun r w' => r = .returned (.int .i64 E.leaveR) ∧ EPost w b own E.leave w' := by
  by_cases h0 : E.state.num 20 = 0
  · exact leave0_any w b own E R hdr OG GL h0
  by_cases h2 : E.state.num 20 = 2
  · exact leave2_any w b own E R hdr OG GL h2
  by_cases h4 : E.state.num 20 = 4
  · exact leave4_any w b own E R hdr OG GL h4
  by_cases h7 : E.state.num 20 = 7
  · exact leave7_any w b own E R hdr OG GL h7
  · exact leaveD_any w b own E R hdr OG GL h0 h2 h4 h7
end
end Go.Proofs.YtgobdndjemicjaaGreatDoor
namespace Go.Proofs.YtgobdndjemicjaaGreatDoor
open Go Go.RowKit Go.Shelf

section
variable (w : World) (b : Nat) (own : Nat → Prop) (E : Em) (R : Emt w b own E) {dr : List Int} (hdr : dr.length ≤ 1048576) (OG : Og 0 dr E) (GL : GlobE w own)
include R hdr OG GL
set_option maxRecDepth 100000 in
set_option maxHeartbeats 4000000 in
theorem next3_any (he : E.err = 0) (hph : (E.emptyTo 12).leaveR = 3) : Calls Tryz.prog 16 #[.pointer (some ⟨b, 0, none⟩)] w fun r w' => r = .returned (.tuple #[]) ∧ EPost w b own E.next w' := by
  have hn : E.next = (E.emptyTo 12).leave.goes (E.emptyTo 12).leaveR := by unfold Em.next; rw [if_neg (by rw [he]; simp)]
  rw [hn]
  have O1 := OG.emptyTo 12 (by omega)
  have O2 := O1.leave
  have hin := leaveR_in O1
  have HEr := Lib.hid (fun W (g : Grow w W) => by have := err_any W b own E (R.grow g); rw [he, errV_0] at this; exact this)
  have HEm := Lib.hid (fun W (g : Grow w W) => tempty_any W b own E (R.grow g) (by omega) hdr OG)
  have HLe := Lib.hid (fun W own' (R' : Emt W b own' (E.emptyTo 12)) (G' : GlobE W own') => leave_any W b own' _ R' hdr O1 G')
  clear hn OG he O1
  generalize (E.emptyTo 12).leaveR = ph at *
  generalize (E.emptyTo 12).leave = El at *
  have O3 : Og 2 dr (El.setGame 2 ph) := O2.setGm 2 (by omega) ph (by simp [inB, gmBounds, gt]; omega)
  have h19 : 0 ≤ (El.setGame 2 ph).state.num 19 ∧ (El.setGame 2 ph).state.num 19 ≤ 1 := (gm_state O3).2.1
  have hgo : El.goes ph = ((((El.setGame 2 ph).setGame 3 (1 - (El.setGame 2 ph).state.num 19)).setGame 4 0)).settle := by unfold Em.goes; dsimp only; rw [if_pos hph, if_neg (by omega)]
  rw [hgo]
  have HG2 := Lib.hid (fun W own' (R' : Emt W b own' El) => ogame_any W b own' _ R' (O2.mo (by omega) hdr) 2 ph)
  have HSt := Lib.hid (fun W own' (R' : Emt W b own' (El.setGame 2 ph)) => ostate_any W b own' _ R' (O3.mo (by omega) hdr))
  generalize El.setGame 2 ph = E3 at *
  have O4 : Og 2 dr (E3.setGame 3 (1 - E3.state.num 19)) := O3.setGm 3 (by omega) (1 - E3.state.num 19) (bit_in _ (by omega) 3 (by omega))
  have HFoe := Lib.hid (fun W => foe_any W (E3.state.num 19) h19.1 h19.2)
  have HG3 := Lib.hid (fun W own' (R' : Emt W b own' E3) => ogame_any W b own' _ R' (O3.mo (by omega) hdr) 3 (1 - E3.state.num 19))
  have HG4 := Lib.hid (fun W own' (R' : Emt W b own' (E3.setGame 3 (1 - E3.state.num 19))) => ogame_any W b own' _ R' (O4.mo (by omega) hdr) 4 0)
  have O5 : Og 2 dr ((E3.setGame 3 (1 - E3.state.num 19)).setGame 4 0) := O4.setGm 4 (by omega) 0 (bit_in _ (by omega) 4 (by omega))
  have e19 : gt [E3.state.num 18, E3.state.num 19, E3.state.num 20, E3.state.num 21, E3.state.num 22, E3.state.num 23, E3.state.num 24] 1 = E3.state.num 19 := rfl
  generalize E3.setGame 3 (1 - E3.state.num 19) = E4 at *
  generalize E4.setGame 4 0 = E5 at *
  have HSe := Lib.hid (fun W own' (R' : Emt W b own' E5) (G' : GlobE W own') => settle_any W b own' _ R' O5 (by omega) hdr G')
  have HR := Lib.hid R
  have HGL := Lib.hid GL
  have hb3 : (ph == 3) = true := by simpa using hph
  have hb0 : (ph == 0) = false := by simp; omega
  clear R GL hph hgo O2 O3 O4 O5 hin h19
  generalize E3.state = S3 at *
  generalize E.emptyTo 12 = E1 at *
  go_enter Tryz.func16, Tryz.ntmps16
  go_wp2_with (go_at_call 17; refine (HEr.out _ grI).mono ?_; rintro e' w' ⟨rfl, nx, rfl⟩)
  refine (HEm.out _ grI).mono ?_
  rintro e' w1 ⟨rfl, hE⟩
  obtain ⟨own1, T1⟩ := (Turn.first HR.out).step grI hE
  have HT1 := Lib.hid T1
  have HL1 := Lib.hid (fun W (g : Grow w1 W) => HLe.out W own1 (T1.em.grow g) ((T1.glob HGL.out).grow g))
  clear hE T1 HEm HEr HLe
  go_wp2_with fail
  refine (HL1.out _ grI).mono ?_
  rintro e' w2 ⟨rfl, hE⟩
  obtain ⟨own2, T2⟩ := HT1.out.step grI hE
  have HT2 := Lib.hid T2
  have HG22 := Lib.hid (fun W (g : Grow w2 W) => HG2.out W own2 (T2.em.grow g))
  clear hE T2 HL1 HG2
  go_wp2_with fail
  refine (HG22.out _ grI).mono ?_
  rintro e' w3 ⟨rfl, hE⟩
  obtain ⟨own3, T3⟩ := HT2.out.step grI hE
  have HT3 := Lib.hid T3
  have HS3 := Lib.hid (fun W (g : Grow w3 W) => HSt.out W own3 (T3.em.grow g))
  have HG33 := Lib.hid (fun W (g : Grow w3 W) => HG3.out W own3 (T3.em.grow g))
  clear hE T3 HG22 HSt HG3
  go_wp2_with (first | (go_at_call 18; refine (HS3.out _ grI).mono ?_; rintro e' w' ⟨V', rfl, _, _, nS, rfl⟩) | (go_at_call 53; refine (HFoe.out _).mono ?_; rintro e' w' ⟨rfl, nx, rfl⟩))
  refine (HG33.out _ grI).mono ?_
  rintro e' w4 ⟨rfl, hE⟩
  obtain ⟨own4, T4⟩ := HT3.out.step grI hE
  have HT4 := Lib.hid T4
  have HG44 := Lib.hid (fun W (g : Grow w4 W) => HG4.out W own4 (T4.em.grow g))
  clear hE T4 HS3 HG33 HG4
  go_wp2_with fail
  refine (HG44.out _ grI).mono ?_
  rintro e' w5 ⟨rfl, hE⟩
  obtain ⟨own5, T5⟩ := HT4.out.step grI hE
  have HT5 := Lib.hid T5
  have HSe5 := Lib.hid (fun W (g : Grow w5 W) => HSe.out W own5 (T5.em.grow g) ((T5.glob HGL.out).grow g))
  clear hE T5 HG44 HSe
  go_wp2_with fail
  refine (HSe5.out _ grI).mono ?_
  rintro e' w7 ⟨rfl, hE⟩
  obtain ⟨own7, T7⟩ := HT5.out.step grI hE
  have HT7 := Lib.hid T7
  clear hE T7 HSe5
  go_wp2_with fail
  go_end0
  exact ⟨rfl, HT7.out.post (Grow.refl _)⟩
set_option maxRecDepth 100000 in
set_option maxHeartbeats 4000000 in
theorem next0_any (he : E.err = 0) (hph : (E.emptyTo 12).leaveR = 0) : Calls Tryz.prog 16 #[.pointer (some ⟨b, 0, none⟩)] w fun r w' => r = .returned (.tuple #[]) ∧ EPost w b own E.next w' := by
  have hn : E.next = (E.emptyTo 12).leave.goes (E.emptyTo 12).leaveR := by unfold Em.next; rw [if_neg (by rw [he]; simp)]
  rw [hn]
  have O1 := OG.emptyTo 12 (by omega)
  have O2 := O1.leave
  have hin := leaveR_in O1
  have HEr := Lib.hid (fun W (g : Grow w W) => by have := err_any W b own E (R.grow g); rw [he, errV_0] at this; exact this)
  have HEm := Lib.hid (fun W (g : Grow w W) => tempty_any W b own E (R.grow g) (by omega) hdr OG)
  have HLe := Lib.hid (fun W own' (R' : Emt W b own' (E.emptyTo 12)) (G' : GlobE W own') => leave_any W b own' _ R' hdr O1 G')
  clear hn OG he O1
  generalize (E.emptyTo 12).leaveR = ph at *
  generalize (E.emptyTo 12).leave = El at *
  have O3 : Og 2 dr (El.setGame 2 ph) := O2.setGm 2 (by omega) ph (by simp [inB, gmBounds, gt]; omega)
  have h19 : 0 ≤ (El.setGame 2 ph).state.num 19 ∧ (El.setGame 2 ph).state.num 19 ≤ 1 := (gm_state O3).2.1
  have hgo : El.goes ph = ((((El.setGame 2 ph).setGame 3 ((El.setGame 2 ph).state.num 19)).setGame 4 0).upkeep).settle := by unfold Em.goes; dsimp only; rw [if_pos hph, if_neg (show ¬ ph = 3 by omega)]
  rw [hgo]
  have HG2 := Lib.hid (fun W own' (R' : Emt W b own' El) => ogame_any W b own' _ R' (O2.mo (by omega) hdr) 2 ph)
  have HSt := Lib.hid (fun W own' (R' : Emt W b own' (El.setGame 2 ph)) => ostate_any W b own' _ R' (O3.mo (by omega) hdr))
  generalize El.setGame 2 ph = E3 at *
  have O4 : Og 2 dr (E3.setGame 3 (E3.state.num 19)) := O3.setGm 3 (by omega) (E3.state.num 19) (bit_in _ (by omega) 3 (by omega))
  have HFoe := Lib.hid (fun W => foe_any W (E3.state.num 19) h19.1 h19.2)
  have HG3 := Lib.hid (fun W own' (R' : Emt W b own' E3) => ogame_any W b own' _ R' (O3.mo (by omega) hdr) 3 (E3.state.num 19))
  have HG4 := Lib.hid (fun W own' (R' : Emt W b own' (E3.setGame 3 (E3.state.num 19))) => ogame_any W b own' _ R' (O4.mo (by omega) hdr) 4 0)
  have O5 : Og 2 dr ((E3.setGame 3 (E3.state.num 19)).setGame 4 0) := O4.setGm 4 (by omega) 0 (bit_in _ (by omega) 4 (by omega))
  have e19 : gt [E3.state.num 18, E3.state.num 19, E3.state.num 20, E3.state.num 21, E3.state.num 22, E3.state.num 23, E3.state.num 24] 1 = E3.state.num 19 := rfl
  generalize E3.setGame 3 (E3.state.num 19) = E4 at *
  generalize E4.setGame 4 0 = E5 at *
  have HUp := Lib.hid (fun W own' (R' : Emt W b own' E5) (G' : GlobE W own') => (upkeep_any W b own' _ R' O5 (by omega) hdr G').mono fun r w' h => (⟨⟨_, h.1⟩, h.2⟩ : (∃ v : Int, r = .returned (.int .i64 v)) ∧ EPost W b own' E5.upkeep w'))
  have O6 : Og 2 dr E5.upkeep := O5.upkeep
  generalize E5.upkeep = E6 at *
  have HSe := Lib.hid (fun W own' (R' : Emt W b own' E6) (G' : GlobE W own') => settle_any W b own' _ R' O6 (by omega) hdr G')
  have HR := Lib.hid R
  have HGL := Lib.hid GL
  have hb3 : (ph == 3) = false := by simp; omega
  have hb0 : (ph == 0) = true := by simpa using hph
  clear R GL hph hgo O2 O3 O4 O5 O6 hin h19
  generalize E3.state = S3 at *
  generalize E.emptyTo 12 = E1 at *
  go_enter Tryz.func16, Tryz.ntmps16
  go_wp2_with (go_at_call 17; refine (HEr.out _ grI).mono ?_; rintro e' w' ⟨rfl, nx, rfl⟩)
  refine (HEm.out _ grI).mono ?_
  rintro e' w1 ⟨rfl, hE⟩
  obtain ⟨own1, T1⟩ := (Turn.first HR.out).step grI hE
  have HT1 := Lib.hid T1
  have HL1 := Lib.hid (fun W (g : Grow w1 W) => HLe.out W own1 (T1.em.grow g) ((T1.glob HGL.out).grow g))
  clear hE T1 HEm HEr HLe
  go_wp2_with fail
  refine (HL1.out _ grI).mono ?_
  rintro e' w2 ⟨rfl, hE⟩
  obtain ⟨own2, T2⟩ := HT1.out.step grI hE
  have HT2 := Lib.hid T2
  have HG22 := Lib.hid (fun W (g : Grow w2 W) => HG2.out W own2 (T2.em.grow g))
  clear hE T2 HL1 HG2
  go_wp2_with fail
  refine (HG22.out _ grI).mono ?_
  rintro e' w3 ⟨rfl, hE⟩
  obtain ⟨own3, T3⟩ := HT2.out.step grI hE
  have HT3 := Lib.hid T3
  have HS3 := Lib.hid (fun W (g : Grow w3 W) => HSt.out W own3 (T3.em.grow g))
  have HG33 := Lib.hid (fun W (g : Grow w3 W) => HG3.out W own3 (T3.em.grow g))
  clear hE T3 HG22 HSt HG3
  go_wp2_with (first | (go_at_call 18; refine (HS3.out _ grI).mono ?_; rintro e' w' ⟨V', rfl, _, _, nS, rfl⟩) | (go_at_call 53; refine (HFoe.out _).mono ?_; rintro e' w' ⟨rfl, nx, rfl⟩))
  refine (HG33.out _ grI).mono ?_
  rintro e' w4 ⟨rfl, hE⟩
  obtain ⟨own4, T4⟩ := HT3.out.step grI hE
  have HT4 := Lib.hid T4
  have HG44 := Lib.hid (fun W (g : Grow w4 W) => HG4.out W own4 (T4.em.grow g))
  clear hE T4 HS3 HG33 HG4
  go_wp2_with fail
  refine (HG44.out _ grI).mono ?_
  rintro e' w5 ⟨rfl, hE⟩
  obtain ⟨own5, T5⟩ := HT4.out.step grI hE
  have HT5 := Lib.hid T5
  have HUp5 := Lib.hid (fun W (g : Grow w5 W) => HUp.out W own5 (T5.em.grow g) ((T5.glob HGL.out).grow g))
  clear hE T5 HG44 HUp
  go_wp2_with fail
  refine (HUp5.out _ grI).mono ?_
  rintro e' w6 ⟨⟨v, rfl⟩, hE⟩
  obtain ⟨own6, T6⟩ := HT5.out.step grI hE
  have HT6 := Lib.hid T6
  have HSe5 := Lib.hid (fun W (g : Grow w6 W) => HSe.out W own6 (T6.em.grow g) ((T6.glob HGL.out).grow g))
  clear hE T6 HUp5 HSe
  go_wp2_with fail
  refine (HSe5.out _ grI).mono ?_
  rintro e' w7 ⟨rfl, hE⟩
  obtain ⟨own7, T7⟩ := HT6.out.step grI hE
  have HT7 := Lib.hid T7
  clear hE T7 HSe5
  go_wp2_with fail
  go_end0
  exact ⟨rfl, HT7.out.post (Grow.refl _)⟩
set_option maxRecDepth 100000 in
set_option maxHeartbeats 4000000 in
theorem nextD_any (he : E.err = 0) (hph : (E.emptyTo 12).leaveR ≠ 3 ∧ (E.emptyTo 12).leaveR ≠ 0) : Calls Tryz.prog 16 #[.pointer (some ⟨b, 0, none⟩)] w fun r w' => r = .returned (.tuple #[]) ∧ EPost w b own E.next w' := by
  have hn : E.next = (E.emptyTo 12).leave.goes (E.emptyTo 12).leaveR := by unfold Em.next; rw [if_neg (by rw [he]; simp)]
  rw [hn]
  have O1 := OG.emptyTo 12 (by omega)
  have O2 := O1.leave
  have hin := leaveR_in O1
  have HEr := Lib.hid (fun W (g : Grow w W) => by have := err_any W b own E (R.grow g); rw [he, errV_0] at this; exact this)
  have HEm := Lib.hid (fun W (g : Grow w W) => tempty_any W b own E (R.grow g) (by omega) hdr OG)
  have HLe := Lib.hid (fun W own' (R' : Emt W b own' (E.emptyTo 12)) (G' : GlobE W own') => leave_any W b own' _ R' hdr O1 G')
  clear hn OG he O1
  generalize (E.emptyTo 12).leaveR = ph at *
  generalize (E.emptyTo 12).leave = El at *
  have O3 : Og 2 dr (El.setGame 2 ph) := O2.setGm 2 (by omega) ph (by simp [inB, gmBounds, gt]; omega)
  have h19 : 0 ≤ (El.setGame 2 ph).state.num 19 ∧ (El.setGame 2 ph).state.num 19 ≤ 1 := (gm_state O3).2.1
  have hgo : El.goes ph = ((((El.setGame 2 ph).setGame 3 ((El.setGame 2 ph).state.num 19)).setGame 4 0)).settle := by unfold Em.goes; dsimp only; rw [if_neg hph.1, if_neg hph.2]
  rw [hgo]
  have HG2 := Lib.hid (fun W own' (R' : Emt W b own' El) => ogame_any W b own' _ R' (O2.mo (by omega) hdr) 2 ph)
  have HSt := Lib.hid (fun W own' (R' : Emt W b own' (El.setGame 2 ph)) => ostate_any W b own' _ R' (O3.mo (by omega) hdr))
  generalize El.setGame 2 ph = E3 at *
  have O4 : Og 2 dr (E3.setGame 3 (E3.state.num 19)) := O3.setGm 3 (by omega) (E3.state.num 19) (bit_in _ (by omega) 3 (by omega))
  have HFoe := Lib.hid (fun W => foe_any W (E3.state.num 19) h19.1 h19.2)
  have HG3 := Lib.hid (fun W own' (R' : Emt W b own' E3) => ogame_any W b own' _ R' (O3.mo (by omega) hdr) 3 (E3.state.num 19))
  have HG4 := Lib.hid (fun W own' (R' : Emt W b own' (E3.setGame 3 (E3.state.num 19))) => ogame_any W b own' _ R' (O4.mo (by omega) hdr) 4 0)
  have O5 : Og 2 dr ((E3.setGame 3 (E3.state.num 19)).setGame 4 0) := O4.setGm 4 (by omega) 0 (bit_in _ (by omega) 4 (by omega))
  have e19 : gt [E3.state.num 18, E3.state.num 19, E3.state.num 20, E3.state.num 21, E3.state.num 22, E3.state.num 23, E3.state.num 24] 1 = E3.state.num 19 := rfl
  generalize E3.setGame 3 (E3.state.num 19) = E4 at *
  generalize E4.setGame 4 0 = E5 at *
  have HSe := Lib.hid (fun W own' (R' : Emt W b own' E5) (G' : GlobE W own') => settle_any W b own' _ R' O5 (by omega) hdr G')
  have HR := Lib.hid R
  have HGL := Lib.hid GL
  have hb3 : (ph == 3) = false := by simpa using hph.1
  have hb0 : (ph == 0) = false := by simpa using hph.2
  clear R GL hph hgo O2 O3 O4 O5 hin h19
  generalize E3.state = S3 at *
  generalize E.emptyTo 12 = E1 at *
  go_enter Tryz.func16, Tryz.ntmps16
  go_wp2_with (go_at_call 17; refine (HEr.out _ grI).mono ?_; rintro e' w' ⟨rfl, nx, rfl⟩)
  refine (HEm.out _ grI).mono ?_
  rintro e' w1 ⟨rfl, hE⟩
  obtain ⟨own1, T1⟩ := (Turn.first HR.out).step grI hE
  have HT1 := Lib.hid T1
  have HL1 := Lib.hid (fun W (g : Grow w1 W) => HLe.out W own1 (T1.em.grow g) ((T1.glob HGL.out).grow g))
  clear hE T1 HEm HEr HLe
  go_wp2_with fail
  refine (HL1.out _ grI).mono ?_
  rintro e' w2 ⟨rfl, hE⟩
  obtain ⟨own2, T2⟩ := HT1.out.step grI hE
  have HT2 := Lib.hid T2
  have HG22 := Lib.hid (fun W (g : Grow w2 W) => HG2.out W own2 (T2.em.grow g))
  clear hE T2 HL1 HG2
  go_wp2_with fail
  refine (HG22.out _ grI).mono ?_
  rintro e' w3 ⟨rfl, hE⟩
  obtain ⟨own3, T3⟩ := HT2.out.step grI hE
  have HT3 := Lib.hid T3
  have HS3 := Lib.hid (fun W (g : Grow w3 W) => HSt.out W own3 (T3.em.grow g))
  have HG33 := Lib.hid (fun W (g : Grow w3 W) => HG3.out W own3 (T3.em.grow g))
  clear hE T3 HG22 HSt HG3
  go_wp2_with (first | (go_at_call 18; refine (HS3.out _ grI).mono ?_; rintro e' w' ⟨V', rfl, _, _, nS, rfl⟩) | (go_at_call 53; refine (HFoe.out _).mono ?_; rintro e' w' ⟨rfl, nx, rfl⟩))
  refine (HG33.out _ grI).mono ?_
  rintro e' w4 ⟨rfl, hE⟩
  obtain ⟨own4, T4⟩ := HT3.out.step grI hE
  have HT4 := Lib.hid T4
  have HG44 := Lib.hid (fun W (g : Grow w4 W) => HG4.out W own4 (T4.em.grow g))
  clear hE T4 HS3 HG33 HG4
  go_wp2_with fail
  refine (HG44.out _ grI).mono ?_
  rintro e' w5 ⟨rfl, hE⟩
  obtain ⟨own5, T5⟩ := HT4.out.step grI hE
  have HT5 := Lib.hid T5
  have HSe5 := Lib.hid (fun W (g : Grow w5 W) => HSe.out W own5 (T5.em.grow g) ((T5.glob HGL.out).grow g))
  clear hE T5 HG44 HSe
  go_wp2_with fail
  refine (HSe5.out _ grI).mono ?_
  rintro e' w7 ⟨rfl, hE⟩
  obtain ⟨own7, T7⟩ := HT5.out.step grI hE
  have HT7 := Lib.hid T7
  clear hE T7 HSe5
  go_wp2_with fail
  go_end0
  exact ⟨rfl, HT7.out.post (Grow.refl _)⟩
theorem next_any : Calls Tryz.prog 16 #[.pointer (some ⟨b, 0, none⟩)] w fun r w' => r = .returned (.tuple #[]) ∧ EPost w b own E.next w' := by
  by_cases he : E.err = 0
  · by_cases h3 : (E.emptyTo 12).leaveR = 3
    · exact next3_any w b own E R hdr OG GL he h3
    by_cases h0 : (E.emptyTo 12).leaveR = 0
    · exact next0_any w b own E R hdr OG GL he h0
    · exact nextD_any w b own E R hdr OG GL he ⟨h3, h0⟩
  · have hn : E.next = E := by unfold Em.next; rw [if_pos he]
    rw [hn]
    have HEr := Lib.hid (fun W (g : Grow w W) => by have := err_any W b own E (R.grow g); rw [errV_is he] at this; exact this)
    have HR := Lib.hid R
    clear R OG GL hn he
    go_enter Tryz.func16, Tryz.ntmps16
    go_wp2_with (go_at_call 17; refine (HEr.out _ grI).mono ?_; rintro e' w' ⟨rfl, nx, rfl⟩)
    refine bodyPost_ret (results_none rfl _ _ _) rfl ?_
    exact ⟨rfl, .of_grow HR.out grI⟩
end
end Go.Proofs.YtgobdndjemicjaaGreatDoor
