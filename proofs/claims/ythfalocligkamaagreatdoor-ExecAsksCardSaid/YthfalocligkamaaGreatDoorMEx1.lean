/- What lasts whatever an emitter's calls do: in plain Lean. -/
import Derived.Test.YthfalocligkamaaGreatDoorMOc
import Derived.Test.YthfalocligkamaaGreatDoorMShN
import Derived.Test.YthfalocligkamaaGreatDoorMEval
import Derived.Test.YthfalocligkamaaGreatDoorMPutN
import Derived.Test.YthfalocligkamaaGreatDoorMEmNew
import Derived.Test.YthfalocligkamaaGreatDoorMIs19
namespace Go.Proofs.YthfalocligkamaaGreatDoor
open Go Go.RowKit Go.Shelf
structure Kc (M : Prop) (Q : Nat → Prop) (P : St → Prop) : Prop where
 obj : ∀ {S : St} (a f : Nat) (v : Int), P S → f ≠ 13 ∧ f ≠ 0 ∧ f ≠ 1 → P (S.setObj a f v)
 num : ∀ {S : St} (q : Nat) (v : Int), P S → Q q → P (S.setNum q v)
 move : ∀ {S : St} (a b c d e : Nat), P S → P (zbt S a b c d e)
 make : M → ∀ {S : St} (c o k : Int), P S → P { S with objs := S.objs ++ [[c, o, o, 10, 0, 0, 0, 0, 0, 0, 0, 0, 0, k, 0, 0, 0, 3]], list := upd S.list 10 (S.list 10 ++ [(S.objs.length : Int)]) }
def Kv (P : St → Prop) (E : Em) : Prop := E.err ≠ 0 ∨ P E.now
section
variable {M : Prop} {Q : Nat → Prop} {P : St → Prop} {E : Em}
theorem Kv.do1 (h : Kv P E) (e : List Int) (hs : ∀ S, zen E.now e = .ok S → P E.now → P S) : Kv P (E.do1 e) := by
 unfold Em.do1
 split
 · exact h
 · rename_i he
   have hp := h.resolve_left he
   cases hd : zen E.now e with
   | error n => exact Or.inl (zfx hd)
   | ok S =>
     show Kv P (if E.evs.length < 65536 then _ else _)
     split
     · exact Or.inr (hs S hd hp)
     · exact Or.inl (by show (5 : Int) ≠ 0; decide)
theorem Kv.fail (h : Kv P E) (n : Int) : Kv P (E.fail n) := by
 unfold Em.fail
 split
 · exact Or.inr (h.resolve_left (fun h => h (by assumption)))
 · exact h
theorem Kv.set (h : Kv P E) (e : List Int) (u v : Int) (hs : ∀ S, zen E.now ((e.set 3 u).set 4 v) = .ok S → P E.now → P S) : Kv P (E.set e u v) := by
 unfold Em.set
 split
 · exact h.fail _
 · exact h.do1 _ hs
theorem Kv.setObj (C : Kc M Q P) (h : Kv P E) (id f v : Int) (hf : f.toNat ≠ 13 ∧ f.toNat ≠ 0 ∧ f.toNat ≠ 1) : Kv P (E.setObj id f v) := by
 unfold Em.setObj
 split
 · exact h
 · split
   · exact h.do1 _ (fun S hS hp => by rw [(zed hS).2]; exact C.obj _ _ _ hp hf)
   · exact h.set _ _ _ (fun S hS hp => by rw [(zed (u := gt (rowAt E.now.objs id.toNat) f.toNat) (v := v) hS).2]; exact C.obj _ _ _ hp hf)
theorem Kv.setPl (C : Kc M Q P) (h : Kv P E) (p f v : Int) (hq : Q (p.toNat * 9 + f.toNat)) : Kv P (E.setPl p f v) := by
 unfold Em.setPl
 split
 · exact h
 · split
   · exact h.do1 _ (fun S hS hp => by rw [zow hS]; exact C.num _ _ hp hq)
   · exact h.set _ _ _ (fun S hS hp => by rw [zow (u := E.now.num (p.toNat * 9 + f.toNat)) (v := v) hS]; exact C.num _ _ hp hq)
theorem Kv.setGame (C : Kc M Q P) (h : Kv P E) (f v : Int) (hq : Q (18 + f.toNat)) : Kv P (E.setGame f v) := by
 unfold Em.setGame
 split
 · exact h
 · split
   · exact h.do1 _ (fun S hS hp => by rw [zi7 hS]; exact C.num _ _ hp hq)
   · exact h.set _ _ _ (fun S hS hp => by rw [zi7 (u := E.now.num (18 + f.toNat)) (v := v) hS]; exact C.num _ _ hp hq)
theorem Kv.make (C : Kc M Q P) (h : Kv P E) (c o k : Int) (hm : M) : Kv P (E.make c o k) := by
 unfold Em.make
 split
 · exact h
 · exact h.do1 _ (fun S hS hp => by rw [(zmx hS).2]; exact C.make hm _ _ _ hp)
theorem zks {S T : St} {e : List Int} (h0 : gt e 0 = 1) (h : zen S e = .ok T) : ∃ a b c d e', T = zbt S a b c d e' := by
 have hc := zb1 h
 unfold zen at h
 rw [if_neg (by rw [hc]; simp), h0, if_neg (by decide), if_neg (by decide), if_pos rfl] at h
 unfold zhx at h
 split at h
 · cases h
 split at h
 · cases h
 split at h
 · cases h
 · injection h with h; exact ⟨_, _, _, _, _, h.symm⟩
theorem Kv.zeros (C : Kc M Q P) (id : Int) : ∀ (l : List Int) {E : Em}, Kv P E → (∀ f ∈ l, f.toNat ≠ 13 ∧ f.toNat ≠ 0 ∧ f.toNat ≠ 1) → Kv P (l.foldl (fun E f => E.setObj id f 0) E)
 | [], _, h, _ => h
 | f :: l, _, h, hl => Kv.zeros C id l (h.setObj C id f 0 (hl f (by simp))) (fun g hg => hl g (by simp [hg]))
theorem Kv.dos (C : Kc M Q P) : ∀ (l : List (List Int)) {E : Em}, Kv P E → (∀ e ∈ l, ∃ a u v, e = [2, a, 17, u, v, 0]) → Kv P (E.dos l)
 | [], _, h, _ => h
 | e :: l, _, h, hl => by
   obtain ⟨a, u, v, rfl⟩ := hl e (by simp)
   exact Kv.dos C l (h.do1 _ (fun S hS hp => by rw [(zed hS).2]; exact C.obj _ _ _ hp (by decide))) (fun g hg => hl g (by simp [hg]))
theorem Kv.show (C : Kc M Q P) (h : Kv P E) (id p : Int) : Kv P (E.show id p) := by
 unfold Em.show
 split
 · exact h
 · refine h.dos C _ (fun e he => ?_)
   unfold showEv at he
   split at he
   · cases he
   split at he
   · cases he
   · exact ⟨_, _, _, List.mem_singleton.1 he⟩
theorem Kv.iff' (h : Kv P E) {p : Prop} [Decidable p] {F : Em} (hf : Kv P F) : Kv P (if p then F else E) := by split <;> assumption
theorem Kv.put2 (C : Kc M Q P) (h : Kv P E) (id fr dz own : Int) : Kv P (E.put2 id fr dz own) := by
 unfold Em.put2
 have h2 : Kv P (if dz ≠ 8 then E.rest id else E) := h.iff' (h.zeros C id restL (by decide))
 have h3 := h2.iff' (p := dz < 8) (h2.setObj C id 2 own (by decide))
 have h4 := h3.iff' (p := dz ≠ 9) (h3.setObj C id 16 0 (by decide))
 have h5 := h4.iff' (p := dz = 8 ∧ fr ≠ dz) (h4.setObj C id 5 1 (by decide))
 exact h5.show C id (zbx dz)
theorem Kv.await (h : Kv P E) (id wh ctl : Int) : Kv P (E.await id wh ctl) := by
 unfold Em.await
 split
 · exact h
 · exact h.fail _
theorem Kv.put3 (h : Kv P E) (id fr dz base ctl : Int) : Kv P (E.put3 id fr dz base ctl) := by
 unfold Em.put3
 split
 · exact h
 split
 · exact h.await _ _ _
 split
 · exact h.await _ _ _
 · exact h
theorem Kv.put (C : Kc M Q P) (h : Kv P E) (id base : Int) : Kv P (E.put id base) := by
 unfold Em.put
 split
 · exact h
 split
 · exact Or.inl (show (4 : Int) ≠ 0 by decide)
 split
 · exact Or.inl (show (12 : Int) ≠ 0 by decide)
 · have h1 : Kv P (E.do1 (E.now.putEv id (zfk (rowAt E.now.objs id.toNat) base))) := h.do1 _ (fun S hS hp => by
    obtain ⟨a, b, c, d, e, rfl⟩ := zks rfl hS
    exact C.move _ _ _ _ _ hp)
   exact (h1.put2 C _ _ _ _).put3 _ _ _ _ _
theorem Kv.draw (C : Kc M Q P) (h : Kv P E) (p : Int) (hq : ∀ q, q < 18 → Q q) : Kv P (E.draw p) := by
 unfold Em.draw
 split
 · exact h
 split
 · exact Or.inl (show (1 : Int) ≠ 0 by decide)
 rename_i hp
 split
 · exact h.setPl C p 8 1 (hq _ (by omega))
 · exact h.put C _ _
theorem Kv.life (C : Kc M Q P) (h : Kv P E) (p m : Int) (hq : ∀ q, q < 18 → Q q) : Kv P (E.life p m) := by
 unfold Em.life
 split
 · exact h
 split
 · exact Or.inl (show (1 : Int) ≠ 0 by decide)
 · rename_i hp
   exact h.setPl C p 0 _ (hq _ (by omega))
theorem Kv.mana (C : Kc M Q P) (h : Kv P E) (p l m : Int) (hq : ∀ q, q < 18 → Q q) : Kv P (E.mana p l m) := by
 unfold Em.mana
 split
 · exact h
 split
 · exact Or.inl (show (1 : Int) ≠ 0 by decide)
 split
 · exact Or.inl (show (6 : Int) ≠ 0 by decide)
 · rename_i hp hl
   exact h.setPl C p _ _ (hq _ (by omega))
theorem Kv.pick (C : Kc M Q P) (h : Kv P E) (n : Int) (hq : Q 23) : Kv P (E.pick n) := by
 unfold Em.pick
 split
 · exact h
 · exact (h.fail _).setGame C 5 _ hq
theorem Kv.shufTo (C : Kc M Q P) (z : Nat) (l : List Int) : ∀ (k : Nat) {E : Em}, Kv P E → Kv P (E.shufTo z l k)
 | 0, _, h => h
 | k + 1, E, h => by
   have h1 := Kv.shufTo C z l k h
   show Kv P ((E.shufTo z l k).shufAt z (gt l k) k)
   generalize E.shufTo z l k = F at *
   unfold Em.shufAt
   split
   · exact h1
   · exact h1.do1 _ (fun S hS hp => by
      obtain ⟨a, b, c, d, e, rfl⟩ := zks rfl hS
      exact C.move _ _ _ _ _ hp)
theorem Kv.hideTo (C : Kc M Q P) (l : List Int) : ∀ (k : Nat) {E : Em}, Kv P E → Kv P (E.hideTo l k)
 | 0, _, h => h
 | k + 1, E, h => by
   have h1 := Kv.hideTo C l k h
   show Kv P ((E.hideTo l k).dos (hideEv (E.hideTo l k).now (gt l k) 3))
   generalize E.hideTo l k = F at *
   refine h1.dos C _ (fun e he => ?_)
   unfold hideEv at he
   split at he
   · cases he
   split at he
   · cases he
   · exact ⟨_, _, _, List.mem_singleton.1 he⟩
theorem Kv.shuffle (C : Kc M Q P) (h : Kv P E) (p : Int) (hq : Q 23) : Kv P (E.shuffle p) := by
 have h0 : ∀ p : Nat, Kv P (E.shuf0 p) := fun p => (h.fail _).setGame C 5 _ hq
 unfold Em.shuffle
 split
 · exact h
 split
 · exact Or.inl (show (1 : Int) ≠ 0 by decide)
 split
 · exact h0 _
 · exact Kv.hideTo C _ _ (Kv.shufTo C _ _ _ (h0 _))
end
def Lk (k : Nat) (E : Em) : Prop := E.err ≠ 0 ∨ E.pend.length + k ≤ 2 * E.evs.length
section
variable {k : Nat} {E : Em}
theorem Lk.mono {j : Nat} (h : Lk k E) (hj : j ≤ k) : Lk j E := h.imp id (fun h => by omega)
theorem Lk.do1 (h : Lk k E) (e : List Int) : Lk (k + 2) (E.do1 e) := by
 unfold Em.do1
 split
 · rename_i he; exact Or.inl he
 · rename_i he
   have hp := h.resolve_left he
   cases hd : zen E.now e with
   | error n => exact Or.inl (zfx hd)
   | ok S =>
     show Lk (k + 2) (if E.evs.length < 65536 then _ else _)
     split
     · refine Or.inr ?_
       show E.pend.length + (k + 2) ≤ 2 * (E.evs ++ [e]).length
       rw [List.length_append, List.length_singleton]; omega
     · exact Or.inl (by show (5 : Int) ≠ 0; decide)
theorem Lk.do0 (h : Lk k E) (e : List Int) : Lk k (E.do1 e) := (h.do1 e).mono (by omega)
theorem Lk.fail (h : Lk k E) (n : Int) : Lk k (E.fail n) := by
 unfold Em.fail
 split
 · exact Or.inr (h.resolve_left (fun h => h (by assumption)))
 · exact h
theorem Lk.set (h : Lk k E) (e : List Int) (u v : Int) : Lk k (E.set e u v) := by
 unfold Em.set
 split
 · exact h.fail _
 · exact h.do0 _
theorem Lk.setObj (h : Lk k E) (id f v : Int) : Lk k (E.setObj id f v) := by
 unfold Em.setObj
 split
 · exact h
 split
 · exact h.do0 _
 · exact h.set _ _ _
theorem Lk.setPl (h : Lk k E) (p f v : Int) : Lk k (E.setPl p f v) := by
 unfold Em.setPl
 split
 · exact h
 split
 · exact h.do0 _
 · exact h.set _ _ _
theorem Lk.setGame (h : Lk k E) (f v : Int) : Lk k (E.setGame f v) := by
 unfold Em.setGame
 split
 · exact h
 split
 · exact h.do0 _
 · exact h.set _ _ _
theorem Lk.make (h : Lk k E) (c o kk : Int) : Lk k (E.make c o kk) := by
 unfold Em.make
 split
 · exact h
 · exact h.do0 _
theorem Lk.zeros (id : Int) : ∀ (l : List Int) {E : Em}, Lk k E → Lk k (l.foldl (fun E f => E.setObj id f 0) E)
 | [], _, h => h
 | f :: l, _, h => Lk.zeros id l (h.setObj id f 0)
theorem Lk.dos : ∀ (l : List (List Int)) {E : Em}, Lk k E → Lk k (E.dos l)
 | [], _, h => h
 | e :: l, _, h => Lk.dos l (h.do0 e)
theorem Lk.show (h : Lk k E) (id p : Int) : Lk k (E.show id p) := by
 unfold Em.show
 split
 · exact h
 · exact h.dos _
theorem Lk.iff' (h : Lk k E) {p : Prop} [Decidable p] {F : Em} (hf : Lk k F) : Lk k (if p then F else E) := by split <;> assumption
theorem Lk.put2 (h : Lk k E) (id fr dz own : Int) : Lk k (E.put2 id fr dz own) := by
 unfold Em.put2
 have h2 : Lk k (if dz ≠ 8 then E.rest id else E) := h.iff' (h.zeros id restL)
 have h3 := h2.iff' (p := dz < 8) (h2.setObj id 2 own)
 have h4 := h3.iff' (p := dz ≠ 9) (h3.setObj id 16 0)
 have h5 := h4.iff' (p := dz = 8 ∧ fr ≠ dz) (h4.setObj id 5 1)
 exact h5.show id (zbx dz)
theorem Lk.await (h : Lk 2 E) (id wh ctl : Int) : Lk 0 (E.await id wh ctl) := by
 unfold Em.await
 split
 · rename_i hc
   rcases h with h | h
   · exact Or.inl h
   · refine Or.inr ?_
     have hu : (usesN (zcs (gt (rowAt E.now.objs id.toNat) 0).toNat).abs wh).length ≤ 2 := Nat.le_trans (zhq _ _) (zgw _)
     show (E.pend ++ _).length + 0 ≤ 2 * E.evs.length
     rw [List.length_append, List.length_map]; omega
 · exact (h.mono (by omega)).fail _
theorem Lk.put3 (h : Lk 2 E) (id fr dz base ctl : Int) : Lk 0 (E.put3 id fr dz base ctl) := by
 have h0 := h.mono (show 0 ≤ 2 by omega)
 unfold Em.put3
 split
 · exact h0
 split
 · exact h.await _ _ _
 split
 · exact h.await _ _ _
 · exact h0
theorem Lk.put (h : Lk 0 E) (id base : Int) : Lk 0 (E.put id base) := by
 unfold Em.put
 split
 · exact h
 split
 · exact Or.inl (show (4 : Int) ≠ 0 by decide)
 split
 · exact Or.inl (show (12 : Int) ≠ 0 by decide)
 · exact ((h.do1 (E.now.putEv id (zfk (rowAt E.now.objs id.toNat) base))).put2 _ _ _ _).put3 _ _ _ _ _
theorem Lk.draw (h : Lk 0 E) (p : Int) : Lk 0 (E.draw p) := by
 unfold Em.draw
 split
 · exact h
 split
 · exact Or.inl (show (1 : Int) ≠ 0 by decide)
 split
 · exact h.setPl _ _ _
 · exact h.put _ _
theorem Lk.life (h : Lk k E) (p m : Int) : Lk k (E.life p m) := by
 unfold Em.life
 split
 · exact h
 split
 · exact Or.inl (show (1 : Int) ≠ 0 by decide)
 · exact h.setPl _ _ _
theorem Lk.mana (h : Lk k E) (p l m : Int) : Lk k (E.mana p l m) := by
 unfold Em.mana
 split
 · exact h
 split
 · exact Or.inl (show (1 : Int) ≠ 0 by decide)
 split
 · exact Or.inl (show (6 : Int) ≠ 0 by decide)
 · exact h.setPl _ _ _
theorem Lk.pick (h : Lk k E) (n : Int) : Lk k (E.pick n) := by
 unfold Em.pick
 split
 · exact h
 · exact (h.fail _).setGame _ _
theorem Lk.shufTo (z : Nat) (l : List Int) : ∀ (j : Nat) {E : Em}, Lk k E → Lk k (E.shufTo z l j)
 | 0, _, h => h
 | j + 1, E, h => by
   have h1 := Lk.shufTo z l j h
   show Lk k ((E.shufTo z l j).shufAt z (gt l j) j)
   generalize E.shufTo z l j = F at *
   unfold Em.shufAt
   split
   · exact h1
   · exact h1.do0 _
theorem Lk.hideTo (l : List Int) : ∀ (j : Nat) {E : Em}, Lk k E → Lk k (E.hideTo l j)
 | 0, _, h => h
 | j + 1, _, h => (Lk.hideTo l j h).dos _
theorem Lk.shuffle (h : Lk k E) (p : Int) : Lk k (E.shuffle p) := by
 have h0 : ∀ p : Nat, Lk k (E.shuf0 p) := fun p => (h.fail _).setGame _ _
 unfold Em.shuffle
 split
 · exact h
 split
 · exact Or.inl (show (1 : Int) ≠ 0 by decide)
 split
 · exact h0 _
 · exact Lk.hideTo _ _ (Lk.shufTo _ _ _ (h0 _))
end
theorem zwd (E : Em) (k : Int) (hk : k ≠ 0) : (E.fail k).err ≠ 0 := by
 unfold Em.fail
 split
 · exact hk
 · assumption
theorem zty {E : Em} (he : E.err = 0) {a f : Nat} {v : Int} (h : (E.setObj a f v).err = 0) : (E.setObj a f v).now = E.now.setObj a f v := by
 have key : ∀ e u, (∀ S, zen E.now e = .ok S → S = u) → (E.do1 e).err = 0 → (E.do1 e).now = u := by
  intro e u hu h
  unfold Em.do1 at h ⊢
  rw [if_neg (by rw [he]; simp)] at h ⊢
  cases hd : zen E.now e with
  | error n => rw [hd] at h; exact absurd h (zfx hd)
  | ok S =>
    rw [hd] at h
    have h : (if E.evs.length < 65536 then _ else _ : Em).err = 0 := h
    show (if E.evs.length < 65536 then _ else _ : Em).now = _
    split
    · exact hu S hd
    · exact hu S hd
 unfold Em.setObj at h ⊢
 rw [if_neg (by rw [he]; simp)] at h ⊢
 split at h
 · rename_i hc
   rw [if_pos hc]
   refine key _ _ (fun S hS => ?_) h
   rcases hc with hc | hc
   · exact absurd (zb1 hS) hc
   · exact absurd (zed hS).1 (by omega)
 · rename_i hc
   rw [if_neg hc]
   unfold Em.set at h ⊢
   split at h
   · rename_i hv
     rw [if_pos hv, zg2]
     unfold St.setObj
     rw [← hv, Int.toNat_natCast, Int.toNat_natCast, zyh, zyj]
   · rename_i hv
     rw [if_neg hv]
     refine key _ _ (fun S hS => ?_) h
     have := (zed hS).2
     rw [Int.toNat_natCast, Int.toNat_natCast] at this
     exact this
theorem zk0 {E : Em} (h : E.err ≠ 0) (p m : Int) : E.life p m = E := by unfold Em.life; rw [if_pos h]
theorem zk1 {E : Em} (h : E.err ≠ 0) (p l m : Int) : E.mana p l m = E := by unfold Em.mana; rw [if_pos h]
theorem zhy {E : Em} (h : E.err ≠ 0) (n : Int) : E.pick n = E := by unfold Em.pick; rw [if_pos h]
theorem zmj {E : Em} (h : E.err ≠ 0) (p : Int) : E.shuffle p = E := by unfold Em.shuffle; rw [if_pos h]
theorem Sim.life {n : Nat} {E F : Em} (h : Sim n E F) (hn : n < 65536) (p m : Int) : Sim (n + 1) (E.life p m) (F.life p m) := by
 refine h.step (f := fun E => E.life p m) (fun h => zk0 h _ _) (fun e1 e2 e3 => ?_)
 unfold Em.life
 rw [if_neg (show ¬ E.err ≠ 0 by rw [e1]; simp), if_neg (show ¬ F.err ≠ 0 by rw [e2]; simp), e3]
 split
 · exact ⟨h.evs, Or.inl (show (1 : Int) ≠ 0 by decide)⟩
 · exact h.setPl hn _ _ _
theorem Sim.mana {n : Nat} {E F : Em} (h : Sim n E F) (hn : n < 65536) (p l m : Int) : Sim (n + 1) (E.mana p l m) (F.mana p l m) := by
 refine h.step (f := fun E => E.mana p l m) (fun h => zk1 h _ _ _) (fun e1 e2 e3 => ?_)
 unfold Em.mana
 rw [if_neg (show ¬ E.err ≠ 0 by rw [e1]; simp), if_neg (show ¬ F.err ≠ 0 by rw [e2]; simp), e3]
 split
 · exact ⟨h.evs, Or.inl (show (1 : Int) ≠ 0 by decide)⟩
 split
 · exact ⟨h.evs, Or.inl (show (6 : Int) ≠ 0 by decide)⟩
 · exact h.setPl hn _ _ _
theorem Sim.same {n : Nat} {E F : Em} (h : Sim n E F) (he : E.err = 0) : F.err = 0 ∧ E.now = F.now ∧ E.draws = F.draws := by
 rcases h.or with h1 | ⟨h1, h2, _, h3, _⟩
 · exact absurd he h1
 · exact ⟨by rw [← h1]; exact he, h2, h3⟩
theorem Sim.pick {n : Nat} {E F : Em} (h : Sim n E F) (hn : n < 65536) (m : Int) : Sim (n + 1) (E.pick m) (F.pick m) := by
 by_cases he : E.err = 0
 · obtain ⟨e2, e3, e4⟩ := h.same he
   unfold Em.pick
   rw [if_neg (show ¬ E.err ≠ 0 by rw [he]; simp), if_neg (show ¬ F.err ≠ 0 by rw [e2]; simp), e3, e4]
   exact (h.fail _).setGame hn _ _
 · rw [zhy he]; exact h.bad he _ _
theorem Sim.shufTo {n : Nat} {E F : Em} (h : Sim n E F) (z : Nat) (l : List Int) : ∀ k, n + k ≤ 65536 → Sim (n + k) (E.shufTo z l k) (F.shufTo z l k)
 | 0, _ => h
 | k + 1, hk => by
   have h1 := Sim.shufTo h z l k (by omega)
   show Sim (n + k + 1) ((E.shufTo z l k).shufAt z (gt l k) k) ((F.shufTo z l k).shufAt z (gt l k) k)
   generalize E.shufTo z l k = E1 at *
   generalize F.shufTo z l k = F1 at *
   by_cases he : E1.err = 0
   · obtain ⟨e2, e3, e4⟩ := h1.same he
     unfold Em.shufAt
     rw [e3]
     split
     · exact h1.mono (by omega)
     · exact h1.do1 (by omega) _
   · refine ⟨?_, Or.inl (zlb he _ _ _)⟩
     · unfold Em.shufAt
       split
       · exact h1.evs
       · unfold Em.do1
         rw [if_pos he]; exact h1.evs
theorem Sim.hideTo {n : Nat} {E F : Em} (h : Sim n E F) (l : List Int) : ∀ k, n + k ≤ 65536 → Sim (n + k) (E.hideTo l k) (F.hideTo l k)
 | 0, _ => h
 | k + 1, hk => by
   have h1 := Sim.hideTo h l k (by omega)
   show Sim (n + k + 1) ((E.hideTo l k).dos (hideEv (E.hideTo l k).now (gt l k) 3)) ((F.hideTo l k).dos (hideEv (F.hideTo l k).now (gt l k) 3))
   generalize E.hideTo l k = E1 at *
   generalize F.hideTo l k = F1 at *
   by_cases he : E1.err = 0
   · obtain ⟨e2, e3, e4⟩ := h1.same he
     rw [e3]
     have hl : (hideEv F1.now (gt l k) 3).length ≤ 1 := by
      unfold Go.Proofs.YthfalocligkamaaGreatDoor.hideEv
      split
      · simp
      split <;> simp
     exact (Sim.dos _ h1 (by omega)).mono (by omega)
   · rw [zi8 he]; exact h1.bad he _ _
theorem Rg.life {m : Nat} {d : List Int} {E : Em} (h : Rg m d E) (p v : Int) : Og m d (E.life p v) := Og.of (h.sim.life (by omega) p v) (h.gd.life p v)
theorem Rg.mana {m : Nat} {d : List Int} {E : Em} (h : Rg m d E) (p l v : Int) : Og m d (E.mana p l v) := Og.of (h.sim.mana (by omega) p l v) (h.gd.mana p l v)
theorem Rg.pick {m : Nat} {d : List Int} {E : Em} (h : Rg m d E) (n : Int) : Og m d (E.pick n) := Og.of (h.sim.pick (by omega) n) (h.gd.pick n)
theorem Rg.show {m : Nat} {d : List Int} {E : Em} (h : Rg m d E) (a p : Int) : Og m d (E.show a p) := Og.of (h.sim.show (by omega) a p) (h.gd.show a p)
theorem zlc {E : Em} (h : E.err = 0) {p : Int} (hp : p = 0 ∨ p = 1) : E.shuffle p = if (E.shuf0 p.toNat).err ≠ 0 then E.shuf0 p.toNat else ((E.shuf0 p.toNat).shufTo p.toNat (E.shufD p.toNat) (E.shufD p.toNat).length).hideTo (E.shufD p.toNat) (E.shufD p.toNat).length := by
 unfold Em.shuffle
 rw [if_neg (show ¬ E.err ≠ 0 by rw [h]; simp), if_neg (show ¬ ¬ (p = 0 ∨ p = 1) from fun h => h hp)]
theorem Rg.shuffle {m : Nat} {d : List Int} {E : Em} (h : Rg m d E) (p : Int) : Og m d (E.shuffle p) := by
 by_cases hp : p = 0 ∨ p = 1
 · refine Og.of (n := 801) ?_ (h.gd.shuffle p)
   have hb : E.bare.err = 0 := h.err
   have hl : (E.shufD p.toNat).length ≤ 400 := zn6 h.right p.toNat (by omega)
   have hd : E.bare.shufD p.toNat = E.shufD p.toNat := rfl
   have h0 : Sim 1 (E.shuf0 p.toNat) (E.bare.shuf0 p.toNat) := (h.sim.fail _).setGame (by omega) _ _
   rw [zlc h.err hp, zlc hb hp, hd]
   by_cases he : (E.shuf0 p.toNat).err = 0
   · obtain ⟨e2, _, _⟩ := h0.same he
     rw [if_neg (show ¬ (E.shuf0 p.toNat).err ≠ 0 by rw [he]; simp), if_neg (show ¬ (E.bare.shuf0 p.toNat).err ≠ 0 by rw [e2]; simp)]
     exact (Sim.hideTo (Sim.shufTo h0 _ _ _ (by omega)) _ _ (by omega)).mono (by omega)
   · rw [if_pos he]
     exact h0.bad he _ _
 · refine Or.inl ?_
   unfold Em.shuffle
   rw [if_neg (by rw [h.err]; simp), if_pos hp]
   show (1 : Int) ≠ 0
   decide
theorem z63 (r : List Int) (h : r.length = 18) (h8 : gt r 3 = 8) (f : Nat) (v : Int) (hf : 4 ≤ f ∧ f ≤ 12) : zbf (r.set f v) = zbf r := by
 have key : ∀ g, g ≠ f → gt (r.set f v) g = gt r g := fun g hg => by rw [zeh _ _ _ _ (by omega), if_neg (Ne.symm hg)]
 unfold zbf
 rw [key 3 (by omega), key 2 (by omega), key 1 (by omega), key 16 (by omega), h8]
 simp
theorem Right.fld8 {S : St} (h : Right S) (hw : zgh S) (a f : Nat) (v : Int) (ha : a < S.objs.length) (h8 : gt (rowAt S.objs a) 3 = 8) (hf : 4 ≤ f ∧ f ≤ 12) (hv : gt (zal S.objs.length) (f * 2) ≤ v ∧ v ≤ gt (zal S.objs.length) (f * 2 + 1)) : Right (S.setObj a f v) :=
 h.setObj hw a f v ha (by omega) (by omega) (by omega) (by simp [inB]; exact hv) (by omega) (by rw [z63 _ (hw a ha) h8 f v hf]; exact h.formed a ha)
def Oq (d : List Int) (E : Em) : Prop := Og 131072 d E ∧ Lk 0 E
section
variable {d : List Int} {E : Em}
theorem Oq.of {m : Nat} (h : Og m d E) (k : Lk 0 E) : Oq d E := by
 refine ⟨?_, k⟩
 rcases h with h | h
 · exact Or.inl h
 · have := k.resolve_left (fun e => e h.err)
   exact Or.inr ⟨h.err, h.right, h.wid, h.evs, by have := h.evs; omega, h.draws⟩
theorem Oq.mo (h : Oq d E) (hd : d.length ≤ 1048576) : Mo E := h.1.mo (by omega) hd
theorem Oq.err (h : Oq d E) (he : E.err = 0) : Rg 131072 d E := h.1.err he
theorem Oq.bad (he : E.err ≠ 0) : Oq d E := ⟨Or.inl he, Or.inl he⟩
theorem Oq.put (h : Oq d E) (id base : Int) : Oq d (E.put id base) := .of (h.1.put id base) (h.2.put id base)
theorem Oq.make (h : Oq d E) (c o k : Int) : Oq d (E.make c o k) := .of (h.1.make c o k) (h.2.make c o k)
theorem Oq.draw (h : Oq d E) (p : Int) : Oq d (E.draw p) := .of (h.1.draw p) (h.2.draw p)
theorem Oq.by (h : Oq d E) {f : Em → Em} (hb : ∀ {E : Em}, E.err ≠ 0 → f E = E) (hr : Rg 131072 d E → Og 131072 d (f E)) (hk : Lk 0 (f E)) : Oq d (f E) := by
 by_cases he : E.err = 0
 · exact .of (hr (h.err he)) hk
 · rw [hb he]; exact h
theorem Oq.life (h : Oq d E) (p v : Int) : Oq d (E.life p v) := h.by (f := fun E => E.life p v) (fun h => zk0 h _ _) (fun h => h.life p v) (h.2.life p v)
theorem Oq.mana (h : Oq d E) (p l v : Int) : Oq d (E.mana p l v) := h.by (f := fun E => E.mana p l v) (fun h => zk1 h _ _ _) (fun h => h.mana p l v) (h.2.mana p l v)
theorem Oq.pick (h : Oq d E) (n : Int) : Oq d (E.pick n) := h.by (f := fun E => E.pick n) (fun h => zhy h _) (fun h => h.pick n) (h.2.pick n)
theorem Oq.show (h : Oq d E) (a p : Int) : Oq d (E.show a p) := h.by (f := fun E => E.show a p) (fun h => zmi h _ _) (fun h => h.show a p) (h.2.show a p)
theorem Oq.shuffle (h : Oq d E) (p : Int) : Oq d (E.shuffle p) := h.by (f := fun E => E.shuffle p) (fun h => zmj h _) (fun h => h.shuffle p) (h.2.shuffle p)
theorem Oq.setObj (h : Oq d E) (a f : Nat) (v : Int) (hs : E.err = 0 → a < E.now.objs.length ∧ gt (rowAt E.now.objs a) 3 = 8) (hf : 4 ≤ f ∧ f ≤ 12) (hv : E.err = 0 → gt (zal E.now.objs.length) (f * 2) ≤ v ∧ v ≤ gt (zal E.now.objs.length) (f * 2 + 1)) : Oq d (E.setObj a f v) :=
 h.by (f := fun E => E.setObj a f v) (fun h => zf4 h _ _ _) (fun hR => hR.setObj a f v (fun a' g ha' hg hal => by
  obtain rfl : a = a' := by omega
  obtain rfl : f = g := by omega
  exact hR.right.fld8 hR.wid a f v hal (hs hR.err).2 hf (hv hR.err))) (h.2.setObj a f v)
theorem Oq.fail (h : Oq d E) (n : Int) : Oq d (E.fail n) := by
 by_cases he : E.err = 0
 · by_cases hn : n = 0
   · subst hn
     have e : E.fail 0 = E := by unfold Em.fail; rw [if_pos he]; cases E; simp only at he; rw [he]
     rw [e]; exact h
   · exact Oq.bad (by unfold Em.fail; rw [if_pos he]; exact hn)
 · have e : E.fail n = E := by unfold Em.fail; rw [if_neg he]
   rw [e]; exact h
end
end Go.Proofs.YthfalocligkamaaGreatDoor
namespace Go.Proofs.YthfalocligkamaaGreatDoor
open Go Go.RowKit Go.Shelf
def zum (S : St) (n ctl src id : Int) : Bool :=
 if n = 0 then true else if n = 1 then gt (rowAt S.objs id.toNat) 2 == ctl else if n = 2 then !(gt (rowAt S.objs id.toNat) 2 == ctl) else (gt (rowAt S.objs id.toNat) 2 == ctl && id != src)
def groupN (S : St) (n ctl src : Int) : List Int := if checkN S ≠ 0 ∨ n < 0 ∨ 3 < n then [] else (S.list 8).filter fun id => zum S n ctl src id && zam S id
def beastsN (S : St) (p : Int) : List Int := if checkN S ≠ 0 then [] else (S.list 8).filter fun id => zam S id && gt (rowAt S.objs id.toNat) 2 == p
def holdsB (S : St) (n m p : Int) : Bool :=
 if ¬ (p = 0 ∨ p = 1) ∨ checkN S ≠ 0 then false
 else if n = 0 then decide (S.num (p.toNat * 9) ≤ m) else if n = 1 then decide (m ≤ ((beastsN S p).length : Int)) else if n = 2 then decide (m ≤ ((S.list (3 - p.toNat)).length : Int)) else false
def d1S : St := { objs := [[10, 0, 0, 8, 0, 0, 0, 0, 0, 0, 0, 0, 0, 0, 0, 0, 0, 0], [14, 0, 0, 8, 0, 0, 0, 0, 0, 0, 0, 0, 0, 0, 0, 0, 0, 0]], list := upd (fun _ => []) 8 [0, 1], num := fun _ => 0 }
theorem z0s : checkN d1S = 0 := by decide +kernel
def d1E : Em := ⟨d1S, [], [], [], 0⟩
theorem z5b : Em.new d1S [] = d1E := by rw [z70, z0s]; rfl
end Go.Proofs.YthfalocligkamaaGreatDoor
namespace Go.Proofs.YthfalocligkamaaGreatDoor
open Go Go.RowKit Go.Shelf
inductive Eff where
 | mk (op n m who : Int) (a : Option Addr) (c : Nat) (subs : List Eff)
def Eff.op : Eff → Int | .mk o _ _ _ _ _ _ => o
def Eff.n : Eff → Int | .mk _ n _ _ _ _ _ => n
def Eff.m : Eff → Int | .mk _ _ m _ _ _ _ => m
def Eff.who : Eff → Int | .mk _ _ _ w _ _ _ => w
def Eff.a : Eff → Option Addr | .mk _ _ _ _ a _ _ => a
def Eff.c : Eff → Nat | .mk _ _ _ _ _ c _ => c
def Eff.subs : Eff → List Eff | .mk _ _ _ _ _ _ l => l
structure Ctx where
 src : Int
 ctl : Int
 kind : Int
 tgt : Int
def Em.add (E : Em) (id : Nat) (f : Nat) (more : Int) : Em := if E.err ≠ 0 then E else E.setObj id f (betw (gt (rowAt E.now.objs id) f + more) (-1073741824) 1073741824)
def Em.mill (E : Em) (p : Nat) : Em := if E.state.list p = [] then E else E.put (gt (E.state.list p) ((E.state.list p).length - 1)) 4
def Em.discard (E : Em) (p : Nat) : Em :=
 if E.state.list (2 + p) = [] then E
 else if (E.pick ((E.state.list (2 + p)).length : Int)).err ≠ 0 then E.pick ((E.state.list (2 + p)).length : Int)
 else (E.pick ((E.state.list (2 + p)).length : Int)).put (gt (E.state.list (2 + p)) (E.picked ((E.state.list (2 + p)).length : Int)).toNat) 4
def Em.token (E : Em) (p c : Int) : Em := if (E.make c p 1).err ≠ 0 then E.make c p 1 else (E.make c p 1).put (E.made c p 1) 8
def Em.shows (E : Em) (l : List Int) (pl : Int) : Nat → Em
 | 0 => E
 | k + 1 => (E.shows l pl k).show (gt l (l.length - 1 - k)) pl
def reps (f : Em → Em) (E : Em) : Nat → Em
 | 0 => E
 | k + 1 => if (reps f E k).err ≠ 0 then reps f E k else f (reps f E k)
def Em.toPl (E : Em) (op n m ctl : Int) (p : Nat) : Em :=
 if op = 2 then E.life p n
 else if op = 3 ∨ op = 1 then E.life p (-n)
 else if op = 4 then reps (fun E => E.draw p) E n.toNat
 else if op = 5 then reps (fun E => E.mill p) E n.toNat
 else if op = 14 then reps (fun E => E.token p m) E n.toNat
 else if op = 15 then E.mana p m n
 else if op = 16 then E.shows (E.state.list p) 3 (min n ((E.state.list p).length : Int)).toNat
 else if op = 17 then E.shows (E.state.list p) (ctl + 1) (min n ((E.state.list p).length : Int)).toNat
 else if op = 18 then E.shuffle p
 else if op = 19 then reps (fun E => E.discard p) E n.toNat
 else E
def Em.toOb (E : Em) (op n m : Int) (id : Nat) : Em :=
 if op = 1 then E.add id 6 n
 else if op = 6 ∨ op = 9 then E.put id 4
 else if op = 7 then E.put id 2
 else if op = 8 then E.put id 6
 else if op = 10 then (E.add id 8 n).add id 9 m
 else if op = 11 then E.add id 7 n
 else if op = 12 then E.setObj id 4 1
 else if op = 13 then E.setObj id 4 0
 else if op = 23 then E.setObj id 10 (bits .or .i64 (gt (rowAt E.now.objs id) 10) n)
 else if op = 25 then E.setObj id 10 (bits .andNot .i64 (gt (rowAt E.now.objs id) 10) n)
 else if op = 24 then (E.add id 8 (n - gt (shapeN E.now id) 0)).add id 9 (m - gt (shapeN E.now id) 1)
 else E
def whomL (who ctl tgt : Int) : List Int :=
 if who = 0 then [ctl] else if who = 1 then [1 - ctl] else if who = 4 then [ctl, 1 - ctl] else if who = 2 ∧ (tgt = -1 ∨ tgt = -2) then [-1 - tgt] else []
def z9e (who src tgt : Int) : Option Int := if who = 2 then (if tgt ≤ 0 then none else some (tgt - 1)) else if who = 3 then some src else none
def zc9 (S : St) (op id : Int) : Bool :=
 if ¬ (0 ≤ id ∧ id < S.objs.length) then false
 else if op = 9 then gt (rowAt S.objs id.toNat) 3 == 9 && gt (rowAt S.objs id.toNat) 13 != 2
 else if op = 1 ∨ op = 24 then zam S id
 else gt (rowAt S.objs id.toNat) 3 == 8
def zmp (S : St) (op who src tgt : Int) : Option Nat :=
 match z9e who src tgt with
 | none => none
 | some id => if zc9 S op id = true then some id.toNat else none
def Em.leafP (E : Em) (op n m ctl : Int) (l : List Int) : Em := l.foldl (fun E p => if E.err ≠ 0 then E else E.toPl op n m ctl p.toNat) E
def Em.leafO (E : Em) (op n m : Int) (x : Option Nat) : Em := match x with | none => E | some id => E.toOb op n m id
def Em.leaf (E : Em) (op n m who : Int) (x : Ctx) : Em :=
 (E.leafP op n m x.ctl (whomL who x.ctl x.tgt)).leafO op n m (zmp (E.leafP op n m x.ctl (whomL who x.ctl x.tgt)).state op who x.src x.tgt)
def eachOf (f : Ctx → Em → Em) (x : Ctx) (E : Em) (id : Int) : Em := if E.err ≠ 0 then E else if gt (rowAt E.now.objs id.toNat) 3 = 8 then f { x with tgt := id + 1 } E else E
def doF (op n m who : Int) (fs : List (Ctx → Em → Em)) (x : Ctx) (E : Em) : Em :=
 if E.err ≠ 0 then E
 else if op = 20 then (groupN E.now n x.ctl x.src).foldl (eachOf (fs.getD 0 fun _ E => E) x) E
 else if op = 21 then fs.foldl (fun E f => f x E) E
 else if op = 22 then (if holdsB E.now n m x.ctl = true then (fs.getD 0 fun _ E => E) x E else (fs.getD 1 fun _ E => E) x E)
 else E.leaf op n m who x
mutual
def Eff.run : Eff → Ctx → Em → Em
 | .mk op n m who _ _ subs => doF op n m who (z3c subs)
def z3c : List Eff → List (Ctx → Em → Em)
 | [] => []
 | e :: l => e.run :: z3c l
end
theorem zye (l : List Eff) : z3c l = l.map Eff.run := by
 induction l with
 | nil => rfl
 | cons e l ih => rw [z3c, ih]; rfl
theorem Eff.run_mk (op n m who : Int) (a : Option Addr) (c : Nat) (subs : List Eff) : (Eff.mk op n m who a c subs).run = doF op n m who (subs.map Eff.run) := by rw [Eff.run, zye]
structure Ask where
 sg : Bool
 n : Int
 m : Int
 wh : List Int
 tg : List Int
 lo : Nat
 hi : Nat
def zok (op : Int) : Ask where
 sg := decide (op = 10 ∨ op = 24)
 n := if op = 20 then 3 else if op = 22 then 2 else if op = 23 ∨ op = 25 then 255 else 99
 m := if op = 15 then 5 else if op = 14 then 119 else 99
 wh := if op = 0 ∨ op = 21 ∨ op = 22 ∨ op = 20 then [0] else if op = 1 then [0, 1, 4] else if op = 9 then [] else if op = 6 ∨ op = 7 ∨ op = 8 ∨ op = 10 ∨ op = 11 ∨ op = 12 ∨ op = 13 ∨ op = 23 ∨ op = 24 ∨ op = 25 then [3] else [0, 1, 4]
 tg := if op = 0 ∨ op = 21 ∨ op = 22 ∨ op = 20 then [] else if op = 1 then [1, 2, 3] else if op = 9 then [4] else if op = 6 ∨ op = 7 ∨ op = 8 ∨ op = 10 ∨ op = 11 ∨ op = 12 ∨ op = 13 ∨ op = 23 ∨ op = 24 ∨ op = 25 then [1, 5] else [2]
 lo := if op = 20 ∨ op = 21 ∨ op = 22 then 1 else 0
 hi := if op = 20 then 1 else if op = 22 then 2 else if op = 21 then 8 else 0
def inW (n most : Int) (sg : Bool) : Bool := decide ((if sg = true then -most else 0) ≤ n ∧ n ≤ most)
def yfj (op n m who : Int) : Bool :=
 inW n (zok op).n (zok op).sg && inW m (zok op).m (zok op).sg && inW who 4 false &&
  (if op = 23 ∨ op = 25 then decide (n ≤ 255) else if op = 14 then decide (112 ≤ m ∧ m ≤ 119) else true)
def z8m (op : Int) : Bool := decide (op = 1) || (zok op).wh.contains 3
def zsn (op n m who : Int) (len : Nat) (sub0 : Int) (tg depth : Int) : Int :=
 if op < 0 ∨ 26 ≤ op then 6
 else if 8 < depth then 3
 else if yfj op n m who = false then 1
 else if ¬ (who = 2 ∧ (zok op).tg.contains tg = true) ∧ (zok op).wh.contains who = false then 11
 else if len < (zok op).lo ∨ (zok op).hi < len then 2
 else if op = 20 ∧ z8m sub0 = false then 2
 else 0
mutual
def Eff.chk : Eff → Int → Int → Int
 | .mk op n m who _ _ subs => fun tg d =>
   if zsn op n m who subs.length (match subs with | [] => 0 | e :: _ => e.op) tg d ≠ 0 then zsn op n m who subs.length (match subs with | [] => 0 | e :: _ => e.op) tg d
   else zr5 subs (decide (op = 20)) (if op = 20 then 1 else tg) (d + 1)
def zr5 : List Eff → Bool → Int → Int → Int
 | [] => fun _ _ _ => 0
 | e :: l => fun all tg d => if e.chk tg d ≠ 0 then e.chk tg d else if (all && e.who != 2) = true then 11 else zr5 l all tg d
end
def op0 : List Eff → Int
 | [] => 0
 | e :: _ => e.op
theorem Eff.chk_mk (op n m who : Int) (a : Option Addr) (c : Nat) (l : List Eff) (tg d : Int) : (Eff.mk op n m who a c l).chk tg d = if zsn op n m who l.length (op0 l) tg d ≠ 0 then zsn op n m who l.length (op0 l) tg d else zr5 l (decide (op = 20)) (if op = 20 then 1 else tg) (d + 1) := by
 cases l <;> rfl
theorem zr6 (e : Eff) (l : List Eff) (all : Bool) (tg d : Int) : zr5 (e :: l) all tg d = if e.chk tg d ≠ 0 then e.chk tg d else if (all && e.who != 2) = true then 11 else zr5 l all tg d := rfl
def Eff.check (e : Eff) (tg : Int) : Int := if tg < 0 ∨ 6 ≤ tg then 6 else e.chk tg 1
mutual
def Eff.has (op : Int) : Eff → Bool
 | .mk o _ _ _ _ _ l => o == op || z1a op l
def z1a (op : Int) : List Eff → Bool
 | [] => false
 | e :: l => e.has op || z1a op l
end
inductive Eff.Ok : Eff → Prop
 | mk {op n m who : Int} {a : Option Addr} {c : Nat} {subs : List Eff} (h0 : 0 ≤ op ∧ op < 26) (hn : -255 ≤ n ∧ n ≤ 255) (hm : -255 ≤ m ∧ m ≤ 255) (hp : op ≠ 10 → op ≠ 24 → 0 ≤ n ∧ 0 ≤ m) (hw : 0 ≤ who ∧ who ≤ 4)
    (hl : op = 20 → subs.length = 1) (hi : op = 22 → 1 ≤ subs.length ∧ subs.length ≤ 2) (h8 : subs.length ≤ 8) (hs : ∀ e, e ∈ subs → Eff.Ok e) : Eff.Ok (.mk op n m who a c subs)
theorem z0q (l : List Eff) (all : Bool) (tg d : Int) (h : zr5 l all tg d = 0) : ∀ e, e ∈ l → e.chk tg d = 0 := by
 induction l with
 | nil => intro e he; cases he
 | cons a l ih =>
   rw [zr6] at h
   split at h
   · rename_i h1; exact absurd h h1
   · rename_i h1
     split at h
     · cases h
     · intro e he
       rcases List.mem_cons.1 he with rfl | he
       · exact Decidable.not_not.1 h1
       · exact ih h e he
theorem z66 {op n m who : Int} {len : Nat} {s0 tg d : Int} (h : zsn op n m who len s0 tg d = 0) :
 (0 ≤ op ∧ op < 26) ∧ d ≤ 8 ∧ yfj op n m who = true ∧ (zok op).lo ≤ len ∧ len ≤ (zok op).hi := by
 unfold zsn at h
 split at h
 · cases h
 rename_i h1
 split at h
 · cases h
 rename_i h2
 split at h
 · cases h
 rename_i h3
 split at h
 · cases h
 split at h
 · cases h
 rename_i h5
 exact ⟨by omega, by omega, by simpa using h3, by omega, by omega⟩
theorem z72 {op n m who : Int} (h : yfj op n m who = true) : (-255 ≤ n ∧ n ≤ 255) ∧ (-255 ≤ m ∧ m ≤ 255) ∧ (op ≠ 10 → op ≠ 24 → 0 ≤ n ∧ 0 ≤ m) ∧ (0 ≤ who ∧ who ≤ 4) := by
 unfold yfj inW zok at h
 simp only [Bool.and_eq_true, decide_eq_true_eq, Bool.false_eq_true, if_false] at h
 obtain ⟨⟨⟨h1, h2⟩, h3⟩, -⟩ := h
 have hN : (if op = 20 then (3 : Int) else if op = 22 then 2 else if op = 23 ∨ op = 25 then 255 else 99) ≤ 255 := by (repeat' split) <;> decide
 have hM : (if op = 15 then (5 : Int) else if op = 14 then 119 else 99) ≤ 255 := by (repeat' split) <;> decide
 generalize (if op = 20 then (3 : Int) else if op = 22 then 2 else if op = 23 ∨ op = 25 then 255 else 99) = N at *
 generalize (if op = 15 then (5 : Int) else if op = 14 then 119 else 99) = M at *
 by_cases hs : op = 10 ∨ op = 24
 · rw [if_pos hs] at h1 h2
   exact ⟨by omega, by omega, fun a b => by omega, by omega⟩
 · rw [if_neg hs] at h1 h2
   exact ⟨by omega, by omega, fun a b => by omega, by omega⟩
theorem Eff.ok_of : ∀ (e : Eff) (tg d : Int), e.chk tg d = 0 → e.Ok
 | .mk op n m who _ _ subs, tg, d, h => by
   rw [Eff.chk_mk] at h
   split at h
   · rename_i h1; exact absurd h h1
   rename_i h1
   obtain ⟨a, -, b, c1, c2⟩ := z66 (Decidable.not_not.1 h1)
   obtain ⟨b1, b2, b3, b4⟩ := z72 b
   have hall := z0q _ _ _ _ h
   refine .mk a b1 b2 b3 b4 (fun e => ?_) (fun e => ?_) ?_ (fun e he => Eff.ok_of e _ _ (hall e he))
   · subst e; simp [zok] at c1 c2; omega
   · subst e; simp [zok] at c1 c2; omega
   · refine Nat.le_trans c2 ?_
     unfold zok
     simp only
     (repeat' split) <;> decide
end Go.Proofs.YthfalocligkamaaGreatDoor
namespace Go.Proofs.YthfalocligkamaaGreatDoor
open Go Go.RowKit Go.Shelf
theorem zlh (q : Nat) (h : q < 256) : IntKind.i64.wrap (q : Int) = (q : Int) := (by decide +kernel : ∀ q : Fin 256, IntKind.i64.wrap ((q : Nat) : Int) = ((q : Nat) : Int)) ⟨q, h⟩
theorem yhi (a b : Int) (ha : 0 ≤ a ∧ a ≤ 255) (hb : 0 ≤ b ∧ b ≤ 255) : 0 ≤ bits .or .i64 a b ∧ bits .or .i64 a b ≤ 255 := by
 obtain ⟨x, rfl⟩ := Int.eq_ofNat_of_zero_le ha.1
 obtain ⟨y, rfl⟩ := Int.eq_ofNat_of_zero_le hb.1
 have hv : (BitVec.ofInt 64 (x : Int) ||| BitVec.ofInt 64 (y : Int)).toNat < 256 := by
  rw [BitVec.toNat_or]
  exact Nat.or_lt_two_pow (n := 8) (by simp; omega) (by simp; omega)
 have key : bits .or .i64 (x : Int) y = IntKind.i64.wrap ((BitVec.ofInt 64 (x : Int) ||| BitVec.ofInt 64 (y : Int)).toNat : Int) := rfl
 rw [key, zlh _ hv]
 omega
theorem ycm (a b : Int) (ha : 0 ≤ a ∧ a ≤ 255) : 0 ≤ bits .andNot .i64 a b ∧ bits .andNot .i64 a b ≤ 255 := by
 obtain ⟨x, rfl⟩ := Int.eq_ofNat_of_zero_le ha.1
 have hv : (BitVec.ofInt 64 (x : Int) &&& ~~~ BitVec.ofInt 64 b).toNat < 256 := by
  rw [BitVec.toNat_and]
  refine Nat.lt_of_le_of_lt Nat.and_le_left ?_
  simp; omega
 have key : bits .andNot .i64 (x : Int) b = IntKind.i64.wrap ((BitVec.ofInt 64 (x : Int) &&& ~~~ BitVec.ofInt 64 b).toNat : Int) := rfl
 rw [key, zlh _ hv]
 omega
def Jv (d : List Int) (P : St → Prop) (E : Em) : Prop := Oq d E ∧ Kv P E
section
variable {d : List Int} {M : Prop} {Q : Nat → Prop} {P : St → Prop} {E : Em}
theorem Jv.bad (he : E.err ≠ 0) : Jv d P E := ⟨.bad he, Or.inl he⟩
theorem Jv.put (C : Kc M Q P) (h : Jv d P E) (a b : Int) : Jv d P (E.put a b) := ⟨h.1.put a b, h.2.put C a b⟩
theorem Jv.setObj (C : Kc M Q P) (h : Jv d P E) (a f : Nat) (v : Int) (hs : E.err = 0 → a < E.now.objs.length ∧ gt (rowAt E.now.objs a) 3 = 8) (hf : 4 ≤ f ∧ f ≤ 12) (hv : E.err = 0 → gt (zal E.now.objs.length) (f * 2) ≤ v ∧ v ≤ gt (zal E.now.objs.length) (f * 2 + 1)) : Jv d P (E.setObj a f v) :=
 ⟨h.1.setObj a f v hs hf hv, h.2.setObj C a f v (by omega)⟩
theorem zn4 (h : Jv d P E) (a f : Nat) (v : Int) (hf : f ≠ 3) (ha : E.err = 0 → a < E.now.objs.length ∧ gt (rowAt E.now.objs a) 3 = 8) : (E.setObj a f v).err = 0 → a < (E.setObj a f v).now.objs.length ∧ gt (rowAt (E.setObj a f v).now.objs a) 3 = 8 := by
 intro he
 by_cases h0 : E.err = 0
 · obtain ⟨h1, h2⟩ := ha h0
   have hn := zty h0 he
   have hw := (h.1.err h0).wid
   rw [hn, zc6]
   refine ⟨h1, ?_⟩
   rw [zf5 _ _ _ _ _ h1, if_pos rfl]
   by_cases h18 : f < 18
   · rw [zeh _ _ _ _ (by rw [hw a h1]; omega), if_neg (by omega)]; exact h2
   · rw [List.set_eq_of_length_le (by rw [hw a h1]; omega)]; exact h2
 · rw [zf4 h0] at he; exact absurd he h0
theorem Jv.add (C : Kc M Q P) (h : Jv d P E) (a f : Nat) (n : Int) (hs : E.err = 0 → a < E.now.objs.length ∧ gt (rowAt E.now.objs a) 3 = 8) (hf : f = 8 ∨ f = 9 ∨ ((f = 6 ∨ f = 7) ∧ 0 ≤ n)) : Jv d P (E.add a f n) := by
 unfold Em.add
 split
 · exact h
 · refine h.setObj C a f _ hs (by omega) (fun he => ?_)
   have hr := (h.1.err he).right
   have hb := zol (gt (rowAt E.now.objs a) f + n) (-1073741824) 1073741824 (by omega)
   have h7 := hr.o7 (hs he).1
   have h6 : 0 ≤ gt (rowAt E.now.objs a) 6 ∧ gt (rowAt E.now.objs a) 6 ≤ 1073741824 := hr.num (hs he).1 (f := 6) (by decide)
   rcases hf with rfl | rfl | ⟨rfl | rfl, hn⟩
   · exact hb
   · exact hb
   · refine ⟨?_, hb.2⟩
     show 0 ≤ _
     unfold betw; omega
   · refine ⟨?_, hb.2⟩
     show 0 ≤ _
     unfold betw; omega
theorem zgt (h : Jv d P E) (a f : Nat) (n : Int) (hf : f ≠ 3) (ha : E.err = 0 → a < E.now.objs.length ∧ gt (rowAt E.now.objs a) 3 = 8) : (E.add a f n).err = 0 → a < (E.add a f n).now.objs.length ∧ gt (rowAt (E.add a f n).now.objs a) 3 = 8 := by
 intro he
 unfold Em.add at he ⊢
 split at he
 · rename_i h0; exact absurd he h0
 · rename_i h0
   rw [if_neg h0]
   exact zn4 h a f _ hf ha he
theorem Jv.mill (C : Kc M Q P) (h : Jv d P E) (p : Nat) : Jv d P (E.mill p) := by
 unfold Em.mill
 split
 · exact h
 · exact h.put C _ _
theorem Jv.discard (C : Kc M Q P) (h : Jv d P E) (p : Nat) (hq : Q 23) : Jv d P (E.discard p) := by
 have h1 : ∀ n, Jv d P (E.pick n) := fun n => ⟨h.1.pick n, h.2.pick C n hq⟩
 unfold Em.discard
 split
 · exact h
 split
 · exact h1 _
 · exact (h1 _).put C _ _
theorem Jv.token (C : Kc M Q P) (h : Jv d P E) (p c : Int) (hm : M) : Jv d P (E.token p c) := by
 have h1 : Jv d P (E.make c p 1) := ⟨h.1.make _ _ _, h.2.make C _ _ _ hm⟩
 unfold Em.token
 split
 · exact h1
 · exact h1.put C _ _
theorem Jv.shows (C : Kc M Q P) (l : List Int) (pl : Int) : ∀ (k : Nat) {E : Em}, Jv d P E → Jv d P (E.shows l pl k)
 | 0, _, h => h
 | k + 1, _, h => ⟨(Jv.shows C l pl k h).1.show _ _, (Jv.shows C l pl k h).2.show C _ _⟩
theorem Jv.reps {f : Em → Em} (hf : ∀ {E : Em}, Jv d P E → Jv d P (f E)) (h : Jv d P E) : ∀ k, Jv d P (reps f E k)
 | 0 => h
 | k + 1 => by
   have h1 := Jv.reps hf h k
   rw [Go.Proofs.YthfalocligkamaaGreatDoor.reps]
   split
   · exact h1
   · exact hf h1
theorem Jv.toPl (C : Kc M Q P) (h : Jv d P E) (op n m ctl : Int) (p : Nat) (hm : op = 14 → M) (hc : op = 18 ∨ op = 19 → Q 23) (hq : ∀ q, q < 18 → Q q) : Jv d P (E.toPl op n m ctl p) := by
 unfold Em.toPl
 split
 · exact ⟨h.1.life _ _, h.2.life C _ _ hq⟩
 split
 · exact ⟨h.1.life _ _, h.2.life C _ _ hq⟩
 split
 · exact Jv.reps (fun h => ⟨h.1.draw _, h.2.draw C _ hq⟩) h _
 split
 · exact Jv.reps (fun h => h.mill C _) h _
 split
 · rename_i e; exact Jv.reps (fun h => h.token C _ _ (hm e)) h _
 split
 · exact ⟨h.1.mana _ _ _, h.2.mana C _ _ _ hq⟩
 split
 · exact Jv.shows C _ _ _ h
 split
 · exact Jv.shows C _ _ _ h
 split
 · rename_i e; exact ⟨h.1.shuffle _, h.2.shuffle C _ (hc (Or.inl e))⟩
 split
 · rename_i e; exact Jv.reps (fun h => h.discard C _ (hc (Or.inr e))) h _
 · exact h
theorem zvs {S : St} {a : Nat} (h : zam S a = true) : a < S.objs.length ∧ gt (rowAt S.objs a) 3 = 8 := by
 obtain ⟨_, h1, h2, _⟩ := zib h
 rw [Int.toNat_natCast] at h2
 exact ⟨by omega, h2⟩
theorem zi4 {S : St} {op : Int} {a : Nat} (h : zc9 S op a = true) : a < S.objs.length ∧ (op ≠ 9 → gt (rowAt S.objs a) 3 = 8) := by
 unfold zc9 at h
 split at h
 · cases h
 rename_i h0
 refine ⟨by omega, fun h9 => ?_⟩
 rw [if_neg h9] at h
 split at h
 · exact (zvs h).2
 · rw [Int.toNat_natCast] at h; simpa using h
set_option maxHeartbeats 2000000 in
theorem Jv.toOb (C : Kc M Q P) (h : Jv d P E) (op n m : Int) (a : Nat) (hn : op ≠ 10 → op ≠ 24 → 0 ≤ n) (h255 : n ≤ 255) (ha : E.err = 0 → zc9 E.now op a = true) : Jv d P (E.toOb op n m a) := by
 have hs : op ≠ 9 → E.err = 0 → a < E.now.objs.length ∧ gt (rowAt E.now.objs a) 3 = 8 := fun h9 he => ⟨(zi4 (ha he)).1, (zi4 (ha he)).2 h9⟩
 have hw : op ≠ 9 → E.err = 0 → 0 ≤ gt (rowAt E.now.objs a) 10 ∧ gt (rowAt E.now.objs a) 10 ≤ 255 := fun h9 he => (h.1.err he).right.num (hs h9 he).1 (f := 10) (by decide)
 unfold Em.toOb
 split
 · rename_i e; subst e; exact h.add C a 6 n (hs (by decide)) (by have := hn (by decide) (by decide); omega)
 split
 · exact h.put C _ _
 split
 · exact h.put C _ _
 split
 · exact h.put C _ _
 split
 · rename_i e; subst e
   exact (h.add C a 8 n (hs (by decide)) (by omega)).add C a 9 m (zgt h a 8 n (by omega) (hs (by decide))) (by omega)
 split
 · rename_i e; subst e; exact h.add C a 7 n (hs (by decide)) (by have := hn (by decide) (by decide); omega)
 split
 · rename_i e; subst e; rw [show (4 : Int) = ((4 : Nat) : Int) from rfl]; exact h.setObj C a 4 1 (hs (by decide)) (by omega) (fun _ => ⟨by show (0 : Int) ≤ 1; decide, by show (1 : Int) ≤ 1; decide⟩)
 split
 · rename_i e; subst e; rw [show (4 : Int) = ((4 : Nat) : Int) from rfl]; exact h.setObj C a 4 0 (hs (by decide)) (by omega) (fun _ => ⟨by show (0 : Int) ≤ 0; decide, by show (0 : Int) ≤ 1; decide⟩)
 split
 · rename_i e; subst e
   rw [show E.setObj (a : Int) 10 = E.setObj (a : Int) ((10 : Nat) : Int) from rfl]
   refine h.setObj C a 10 _ (hs (by decide)) (by omega) (fun he => ?_)
   exact yhi _ _ (hw (by decide) he) ⟨hn (by decide) (by decide), h255⟩
 split
 · rename_i e; subst e
   rw [show E.setObj (a : Int) 10 = E.setObj (a : Int) ((10 : Nat) : Int) from rfl]
   refine h.setObj C a 10 _ (hs (by decide)) (by omega) (fun he => ?_)
   exact ycm _ _ (hw (by decide) he)
 split
 · rename_i e; subst e
   exact (h.add C a 8 _ (hs (by decide)) (by omega)).add C a 9 _ (zgt h a 8 _ (by omega) (hs (by decide))) (by omega)
 · exact h
theorem Jv.leafP (C : Kc M Q P) (op n m ctl : Int) (hm : op = 14 → M) (hc : op = 18 ∨ op = 19 → Q 23) (hq : ∀ q, q < 18 → Q q) : ∀ (l : List Int) {E : Em}, Jv d P E → Jv d P (E.leafP op n m ctl l)
 | [], _, h => h
 | p :: l, E, h => by
   show Jv d P ((if E.err ≠ 0 then E else E.toPl op n m ctl p.toNat).leafP op n m ctl l)
   refine Jv.leafP C op n m ctl hm hc hq l ?_
   split
   · exact h
   · exact h.toPl C op n m ctl _ hm hc hq
theorem zw5 {S : St} {op who src tgt : Int} {a : Nat} (h : zmp S op who src tgt = some a) : zc9 S op a = true := by
 unfold zmp at h
 split at h
 · cases h
 · rename_i id _
   split at h
   · rename_i hb
     injection h with h
     have h0 : 0 ≤ id := by
      unfold zc9 at hb
      split at hb
      · cases hb
      · omega
     rw [← h, Int.toNat_of_nonneg h0]; exact hb
   · cases h
theorem ycn (op who src tgt : Int) : zmp St0 op who src tgt = none := by
 unfold zmp
 split
 · rfl
 · rename_i id _
   have : zc9 St0 op id = false := by
    unfold zc9
    rw [if_pos (by rintro ⟨h1, h2⟩; have h2 : id < ((0 : Nat) : Int) := h2; omega)]
   rw [this]; rfl
theorem Jv.leaf (C : Kc M Q P) (h : Jv d P E) (op n m who : Int) (x : Ctx) (hn : op ≠ 10 → op ≠ 24 → 0 ≤ n) (h255 : n ≤ 255) (hm : op = 14 → M) (hc : op = 18 ∨ op = 19 → Q 23) (hq : ∀ q, q < 18 → Q q) : Jv d P (E.leaf op n m who x) := by
 have h1 := Jv.leafP C op n m x.ctl hm hc hq (whomL who x.ctl x.tgt) h
 unfold Em.leaf
 generalize E.leafP op n m x.ctl (whomL who x.ctl x.tgt) = F at *
 unfold Em.leafO
 split
 · exact h1
 · rename_i a ha
   refine h1.toOb C op n m a hn h255 (fun he => ?_)
   have := zw5 ha
   unfold Em.state at this
   rwa [if_neg (by rw [he]; simp)] at this
theorem Jv.eachOf (h : Jv d P E) {f : Ctx → Em → Em} (hf : ∀ (x : Ctx) {E : Em}, Jv d P E → Jv d P (f x E)) (x : Ctx) (id : Int) : Jv d P (eachOf f x E id) := by
 unfold Go.Proofs.YthfalocligkamaaGreatDoor.eachOf
 split
 · exact h
 split
 · exact hf _ h
 · exact h
theorem Jv.fold {α : Type} {g : Em → α → Em} : ∀ (l : List α) {E : Em}, (∀ a, a ∈ l → ∀ {E : Em}, Jv d P E → Jv d P (g E a)) → Jv d P E → Jv d P (l.foldl g E)
 | [], _, _, h => h
 | a :: l, _, hg, h => Jv.fold l (fun b hb => hg b (by simp [hb])) (hg a (by simp) h)
theorem zwl {op : Int} {l : List Eff} {e : Eff} (he : e ∈ l) (h : e.has op = true) : z1a op l = true := by
 induction l with
 | nil => cases he
 | cons a l ih =>
   rw [z1a, Bool.or_eq_true]
   rcases List.mem_cons.1 he with rfl | he
   · exact Or.inl h
   · exact Or.inr (ih he)
theorem zo4 {o op n m who : Int} {a : Option Addr} {c : Nat} {l : List Eff} {e : Eff} (he : e ∈ l) (h : e.has o = true) : (Eff.mk op n m who a c l).has o = true := by
 rw [Eff.has, Bool.or_eq_true]; exact Or.inr (zwl he h)
theorem zo3 {op n m who : Int} {a : Option Addr} {c : Nat} {l : List Eff} : (Eff.mk op n m who a c l).has op = true := by rw [Eff.has]; simp
theorem zlo {l : List Eff} (hl : ∀ e, e ∈ l → ∀ (x : Ctx) {E : Em}, Jv d P E → Jv d P (e.run x E)) (i : Nat) (x : Ctx) {E : Em} (h : Jv d P E) : Jv d P (((l.map Eff.run).getD i fun _ E => E) x E) := by
 by_cases hi : i < l.length
 · have : (l.map Eff.run).getD i (fun _ E => E) = l[i].run := by simp [List.getD, hi]
   rw [this]
   exact hl _ (List.getElem_mem hi) x h
 · have : (l.map Eff.run).getD i (fun _ E => E) = fun _ E => E := by simp [List.getD, hi]
   rw [this]; exact h
theorem Jv.run (C : Kc M Q P) (hq : ∀ q, q < 18 → Q q) : ∀ (e : Eff), e.Ok → (e.has 14 = true → M) → (e.has 18 = true ∨ e.has 19 = true → Q 23) → ∀ (x : Ctx) {E : Em}, Jv d P E → Jv d P (e.run x E)
 | .mk op n m who a c l, ok, hm, hc, x, E, h => by
   rcases ok with ⟨h0, hn, hm', hp, hw, hl, hi, h8, hs⟩
   have hsub : ∀ e, e ∈ l → ∀ (x : Ctx) {E : Em}, Jv d P E → Jv d P (e.run x E) := fun e he x E h =>
    Jv.run C hq e (hs e he) (fun h => hm (zo4 he h)) (fun h => hc (h.imp (zo4 he) (zo4 he))) x h
   rw [Eff.run_mk]
   unfold doF
   split
   · exact h
   split
   · exact Jv.fold _ (fun id _ E h => h.eachOf (fun x E h => zlo hsub 0 x h) x id) h
   split
   · rw [List.foldl_map]
     exact Jv.fold _ (fun e he E h => hsub e he x h) h
   split
   · split
     · exact zlo hsub 0 x h
     · exact zlo hsub 1 x h
   · refine h.leaf C op n m who x (fun a b => (hp a b).1) hn.2 (fun e => hm (by rw [← e]; exact zo3)) (fun e => hc ?_) hq
     rcases e with e | e
     · exact Or.inl (by rw [← e]; exact zo3)
     · exact Or.inr (by rw [← e]; exact zo3)
theorem Jv.fail (h : Jv d P E) (n : Int) : Jv d P (E.fail n) := ⟨h.1.fail n, h.2.fail n⟩
theorem Eff.run_err (e : Eff) (x : Ctx) {E : Em} (h : E.err ≠ 0) : e.run x E = E := by
 cases e
 rw [Eff.run_mk]; unfold doF; rw [if_pos h]
end
theorem zuh : Right St0 := (zbi St0).1 (by decide +kernel)
theorem Oq.right {d : List Int} {E : Em} (h : Oq d E) : Right E.state := by
 unfold Em.state
 rcases h.1 with h | h
 · rw [if_pos h]; exact zuh
 · rw [if_neg (by rw [h.err]; simp)]; exact h.right
theorem Oq.rs {d : List Int} {E : Em} (h : Oq d E) {w : World} {V : SV} (G : Glob w) (R : RepSt w V E.state) : RS E.state V w := ⟨R, h.right, h.right.smallN.small (by omega), G⟩
structure Stay (S : St) (mk cur : Prop) (T : St) : Prop where
 len : S.objs.length ≤ T.objs.length
 wid : zgh T
 same : ∀ i, i < S.objs.length → ∀ f, f = 0 ∨ f = 1 ∨ f = 13 → gt (rowAt T.objs i) f = gt (rowAt S.objs i) f
 more : ¬ mk → T.objs.length = S.objs.length
 cur : ¬ cur → T.num 23 = S.num 23
end Go.Proofs.YthfalocligkamaaGreatDoor
namespace Go.Proofs.YthfalocligkamaaGreatDoor
open Go Go.RowKit Go.Shelf
def Eff.two (e : Eff) (a : Option Addr) (c : Nat) : Eff := .mk 21 0 0 0 a c [e, e]
theorem z5m (n : Nat) : Kc True (fun _ => True) (fun T => n ≤ T.objs.length) := by
 refine ⟨?_, ?_, ?_, ?_⟩
 · exact fun a f v h _ => by rw [zc6]; exact h
 · exact fun _ _ h _ => h
 · exact fun a b c d e h => by unfold zbt; simpa using h
 · exact fun _ {T} c o k h => by show n ≤ (T.objs ++ _).length; rw [List.length_append]; omega
theorem z04 {E : Em} (h : E.err = 0) : E.fail 0 = E := by unfold Em.fail; rw [if_pos h]; cases E; simp only at h; rw [h]
end Go.Proofs.YthfalocligkamaaGreatDoor
namespace Go.Proofs.YthfalocligkamaaGreatDoor
open Go Go.RowKit Go.Shelf
theorem z71 {S : St} (h : checkN S = 0) (hw : zgh S) (d : List Int) : Out S.objs.length 0 0 d (Em.new S d) := by
 unfold Em.new Em.fail
 rw [h, if_pos rfl]
 by_cases hd : 4096 < d.length
 · rw [if_pos hd]; exact Or.inl (by show (19 : Int) ≠ 0; decide)
 · rw [if_neg hd]; exact Or.inr ⟨rfl, (zbi S).1 h, hw, Nat.le_refl _, Nat.le_refl _, rfl, Nat.le_refl _⟩
end Go.Proofs.YthfalocligkamaaGreatDoor
namespace Go.Proofs.YthfalocligkamaaGreatDoor
open Go Go.RowKit Go.Shelf
theorem z7z {S : St} (h : checkN S ≠ 0) (d : List Int) : (Em.new S d).err ≠ 0 := by
 unfold Em.new Em.fail
 show (if checkN S = 0 then (⟨S, d, [], [], if 4096 < d.length then 19 else 0⟩ : Em) else ⟨S, d, [], [], checkN S⟩).err ≠ 0
 rw [if_neg h]
 exact h
theorem ycl {S : St} (hw : zgh S) (d : List Int) : Oq d (Em.new S d) := by
 by_cases h : checkN S = 0
 · rcases z71 h hw d with hb | g
   · exact .bad hb
   · have h1 := g.evs
     have h2 := g.pend
     exact ⟨Or.inr ⟨g.err, g.right, g.wid, by omega, by omega, g.draws⟩, Or.inr (by omega)⟩
 · exact .bad (z7z h d)
theorem Oq.check {d : List Int} {E : Em} (h : Oq d E) (he : E.err = 0) : checkN E.now = 0 := (zbi _).2 (h.err he).right
def d1X (a : Option Addr) (c : Nat) : Eff := .mk 20 0 0 0 a c [.mk 1 2 0 2 none 0 []]
end Go.Proofs.YthfalocligkamaaGreatDoor
