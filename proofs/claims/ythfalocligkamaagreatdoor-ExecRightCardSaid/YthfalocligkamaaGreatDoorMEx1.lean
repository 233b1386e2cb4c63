/- What lasts whatever an emitter's calls do: in plain Lean. -/
import Derived.Test.YthfalocligkamaaGreatDoorMOc
import Derived.Test.YthfalocligkamaaGreatDoorMShN
import Derived.Test.YthfalocligkamaaGreatDoorMEval
import Derived.Test.YthfalocligkamaaGreatDoorMPutN
import Derived.Test.YthfalocligkamaaGreatDoorMEmNew
import Derived.Test.YthfalocligkamaaGreatDoorMIs19
namespace Go.Proofs.YthfalocligkamaaGreatDoor
open Go Go.RowKit Go.Shelf
structure Kc (M : Prop) (Q : Nat → Prop) (P : St → Prop) : Prop where
 obj : ∀ {S : St} (a f : Nat) (v : Int), P S → f ≠ 13 ∧ f ≠ 0 ∧ f ≠ 1 → P (S.setObj a f v)
 num : ∀ {S : St} (q : Nat) (v : Int), P S → Q q → P (S.setNum q v)
 move : ∀ {S : St} (a b c d e : Nat), P S → P (zbj S a b c d e)
 make : M → ∀ {S : St} (c o k : Int), P S → P { S with objs := S.objs ++ [[c, o, o, 10, 0, 0, 0, 0, 0, 0, 0, 0, 0, k, 0, 0, 0, 3]], list := upd S.list 10 (S.list 10 ++ [(S.objs.length : Int)]) }
def Kv (P : St → Prop) (E : Em) : Prop := E.err ≠ 0 ∨ P E.now
section
variable {M : Prop} {Q : Nat → Prop} {P : St → Prop} {E : Em}
theorem Kv.do1 (h : Kv P E) (e : List Int) (hs : ∀ S, zeg E.now e = .ok S → P E.now → P S) : Kv P (E.do1 e) := by
 unfold Em.do1
 split
 · exact h
 · rename_i he
   have hp := h.resolve_left he
   cases hd : zeg E.now e with
   | error n => exact Or.inl (zft hd)
   | ok S =>
     show Kv P (if E.evs.length < 65536 then _ else _)
     split
     · exact Or.inr (hs S hd hp)
     · exact Or.inl (by show (5 : Int) ≠ 0; decide)
theorem Kv.fail (h : Kv P E) (n : Int) : Kv P (E.fail n) := by
 unfold Em.fail
 split
 · exact Or.inr (h.resolve_left (fun h => h (by assumption)))
 · exact h
theorem Kv.set (h : Kv P E) (e : List Int) (u v : Int) (hs : ∀ S, zeg E.now ((e.set 3 u).set 4 v) = .ok S → P E.now → P S) : Kv P (E.set e u v) := by
 unfold Em.set
 split
 · exact h.fail _
 · exact h.do1 _ hs
theorem Kv.setObj (C : Kc M Q P) (h : Kv P E) (id f v : Int) (hf : f.toNat ≠ 13 ∧ f.toNat ≠ 0 ∧ f.toNat ≠ 1) : Kv P (E.setObj id f v) := by
 unfold Em.setObj
 split
 · exact h
 · split
   · exact h.do1 _ (fun S hS hp => by rw [(zd9 hS).2]; exact C.obj _ _ _ hp hf)
   · exact h.set _ _ _ (fun S hS hp => by rw [(zd9 (u := gt (rowAt E.now.objs id.toNat) f.toNat) (v := v) hS).2]; exact C.obj _ _ _ hp hf)
theorem Kv.setPl (C : Kc M Q P) (h : Kv P E) (p f v : Int) (hq : Q (p.toNat * 9 + f.toNat)) : Kv P (E.setPl p f v) := by
 unfold Em.setPl
 split
 · exact h
 · split
   · exact h.do1 _ (fun S hS hp => by rw [zot hS]; exact C.num _ _ hp hq)
   · exact h.set _ _ _ (fun S hS hp => by rw [zot (u := E.now.num (p.toNat * 9 + f.toNat)) (v := v) hS]; exact C.num _ _ hp hq)
theorem Kv.setGame (C : Kc M Q P) (h : Kv P E) (f v : Int) (hq : Q (18 + f.toNat)) : Kv P (E.setGame f v) := by
 unfold Em.setGame
 split
 · exact h
 · split
   · exact h.do1 _ (fun S hS hp => by rw [zi3 hS]; exact C.num _ _ hp hq)
   · exact h.set _ _ _ (fun S hS hp => by rw [zi3 (u := E.now.num (18 + f.toNat)) (v := v) hS]; exact C.num _ _ hp hq)
theorem Kv.make (C : Kc M Q P) (h : Kv P E) (c o k : Int) (hm : M) : Kv P (E.make c o k) := by
 unfold Em.make
 split
 · exact h
 · exact h.do1 _ (fun S hS hp => by rw [(zm0 hS).2]; exact C.make hm _ _ _ hp)
theorem zkv {S T : St} {e : List Int} (h0 : gt e 0 = 1) (h : zeg S e = .ok T) : ∃ a b c d e', T = zbj S a b c d e' := by
 have hc := zbx h
 unfold zeg at h
 rw [if_neg (by rw [hc]; simp), h0, if_neg (by decide), if_neg (by decide), if_pos rfl] at h
 unfold zho at h
 split at h
 · cases h
 split at h
 · cases h
 split at h
 · cases h
 · injection h with h; exact ⟨_, _, _, _, _, h.symm⟩
theorem Kv.zeros (C : Kc M Q P) (id : Int) : ∀ (l : List Int) {E : Em}, Kv P E → (∀ f ∈ l, f.toNat ≠ 13 ∧ f.toNat ≠ 0 ∧ f.toNat ≠ 1) → Kv P (l.foldl (fun E f => E.setObj id f 0) E)
 | [], _, h, _ => h
 | f :: l, _, h, hl => Kv.zeros C id l (h.setObj C id f 0 (hl f (by simp))) (fun g hg => hl g (by simp [hg]))
theorem Kv.dos (C : Kc M Q P) : ∀ (l : List (List Int)) {E : Em}, Kv P E → (∀ e ∈ l, ∃ a u v, e = [2, a, 17, u, v, 0]) → Kv P (E.dos l)
 | [], _, h, _ => h
 | e :: l, _, h, hl => by
   obtain ⟨a, u, v, rfl⟩ := hl e (by simp)
   exact Kv.dos C l (h.do1 _ (fun S hS hp => by rw [(zd9 hS).2]; exact C.obj _ _ _ hp (by decide))) (fun g hg => hl g (by simp [hg]))
theorem Kv.show (C : Kc M Q P) (h : Kv P E) (id p : Int) : Kv P (E.show id p) := by
 unfold Em.show
 split
 · exact h
 · refine h.dos C _ (fun e he => ?_)
   unfold showEv at he
   split at he
   · cases he
   split at he
   · cases he
   · exact ⟨_, _, _, List.mem_singleton.1 he⟩
theorem Kv.iff' (h : Kv P E) {p : Prop} [Decidable p] {F : Em} (hf : Kv P F) : Kv P (if p then F else E) := by split <;> assumption
theorem Kv.put2 (C : Kc M Q P) (h : Kv P E) (id fr dz own : Int) : Kv P (E.put2 id fr dz own) := by
 unfold Em.put2
 have h2 : Kv P (if dz ≠ 8 then E.rest id else E) := h.iff' (h.zeros C id restL (by decide))
 have h3 := h2.iff' (p := dz < 8) (h2.setObj C id 2 own (by decide))
 have h4 := h3.iff' (p := dz ≠ 9) (h3.setObj C id 16 0 (by decide))
 have h5 := h4.iff' (p := dz = 8 ∧ fr ≠ dz) (h4.setObj C id 5 1 (by decide))
 exact h5.show C id (zbt dz)
theorem Kv.await (h : Kv P E) (id wh ctl : Int) : Kv P (E.await id wh ctl) := by
 unfold Em.await
 split
 · exact h
 · exact h.fail _
theorem Kv.put3 (h : Kv P E) (id fr dz base ctl : Int) : Kv P (E.put3 id fr dz base ctl) := by
 unfold Em.put3
 split
 · exact h
 split
 · exact h.await _ _ _
 split
 · exact h.await _ _ _
 · exact h
theorem Kv.put (C : Kc M Q P) (h : Kv P E) (id base : Int) : Kv P (E.put id base) := by
 unfold Em.put
 split
 · exact h
 split
 · exact Or.inl (show (4 : Int) ≠ 0 by decide)
 split
 · exact Or.inl (show (12 : Int) ≠ 0 by decide)
 · have h1 : Kv P (E.do1 (E.now.putEv id (zfe (rowAt E.now.objs id.toNat) base))) := h.do1 _ (fun S hS hp => by
    obtain ⟨a, b, c, d, e, rfl⟩ := zkv rfl hS
    exact C.move _ _ _ _ _ hp)
   exact (h1.put2 C _ _ _ _).put3 _ _ _ _ _
theorem Kv.draw (C : Kc M Q P) (h : Kv P E) (p : Int) (hq : ∀ q, q < 18 → Q q) : Kv P (E.draw p) := by
 unfold Em.draw
 split
 · exact h
 split
 · exact Or.inl (show (1 : Int) ≠ 0 by decide)
 rename_i hp
 split
 · exact h.setPl C p 8 1 (hq _ (by omega))
 · exact h.put C _ _
theorem Kv.life (C : Kc M Q P) (h : Kv P E) (p m : Int) (hq : ∀ q, q < 18 → Q q) : Kv P (E.life p m) := by
 unfold Em.life
 split
 · exact h
 split
 · exact Or.inl (show (1 : Int) ≠ 0 by decide)
 · rename_i hp
   exact h.setPl C p 0 _ (hq _ (by omega))
theorem Kv.mana (C : Kc M Q P) (h : Kv P E) (p l m : Int) (hq : ∀ q, q < 18 → Q q) : Kv P (E.mana p l m) := by
 unfold Em.mana
 split
 · exact h
 split
 · exact Or.inl (show (1 : Int) ≠ 0 by decide)
 split
 · exact Or.inl (show (6 : Int) ≠ 0 by decide)
 · rename_i hp hl
   exact h.setPl C p _ _ (hq _ (by omega))
theorem Kv.pick (C : Kc M Q P) (h : Kv P E) (n : Int) (hq : Q 23) : Kv P (E.pick n) := by
 unfold Em.pick
 split
 · exact h
 · exact (h.fail _).setGame C 5 _ hq
theorem Kv.shufTo (C : Kc M Q P) (z : Nat) (l : List Int) : ∀ (k : Nat) {E : Em}, Kv P E → Kv P (E.shufTo z l k)
 | 0, _, h => h
 | k + 1, E, h => by
   have h1 := Kv.shufTo C z l k h
   show Kv P ((E.shufTo z l k).shufAt z (gt l k) k)
   generalize E.shufTo z l k = F at *
   unfold Em.shufAt
   split
   · exact h1
   · exact h1.do1 _ (fun S hS hp => by
      obtain ⟨a, b, c, d, e, rfl⟩ := zkv rfl hS
      exact C.move _ _ _ _ _ hp)
theorem Kv.hideTo (C : Kc M Q P) (l : List Int) : ∀ (k : Nat) {E : Em}, Kv P E → Kv P (E.hideTo l k)
 | 0, _, h => h
 | k + 1, E, h => by
   have h1 := Kv.hideTo C l k h
   show Kv P ((E.hideTo l k).dos (hideEv (E.hideTo l k).now (gt l k) 3))
   generalize E.hideTo l k = F at *
   refine h1.dos C _ (fun e he => ?_)
   unfold hideEv at he
   split at he
   · cases he
   split at he
   · cases he
   · exact ⟨_, _, _, List.mem_singleton.1 he⟩
theorem Kv.shuffle (C : Kc M Q P) (h : Kv P E) (p : Int) (hq : Q 23) : Kv P (E.shuffle p) := by
 have h0 : ∀ p : Nat, Kv P (E.shuf0 p) := fun p => (h.fail _).setGame C 5 _ hq
 unfold Em.shuffle
 split
 · exact h
 split
 · exact Or.inl (show (1 : Int) ≠ 0 by decide)
 split
 · exact h0 _
 · exact Kv.hideTo C _ _ (Kv.shufTo C _ _ _ (h0 _))
end
def Lk (k : Nat) (E : Em) : Prop := E.err ≠ 0 ∨ E.pend.length + k ≤ 2 * E.evs.length
section
variable {k : Nat} {E : Em}
theorem Lk.mono {j : Nat} (h : Lk k E) (hj : j ≤ k) : Lk j E := h.imp id (fun h => by omega)
theorem Lk.do1 (h : Lk k E) (e : List Int) : Lk (k + 2) (E.do1 e) := by
 unfold Em.do1
 split
 · rename_i he; exact Or.inl he
 · rename_i he
   have hp := h.resolve_left he
   cases hd : zeg E.now e with
   | error n => exact Or.inl (zft hd)
   | ok S =>
     show Lk (k + 2) (if E.evs.length < 65536 then _ else _)
     split
     · refine Or.inr ?_
       show E.pend.length + (k + 2) ≤ 2 * (E.evs ++ [e]).length
       rw [List.length_append, List.length_singleton]; omega
     · exact Or.inl (by show (5 : Int) ≠ 0; decide)
theorem Lk.do0 (h : Lk k E) (e : List Int) : Lk k (E.do1 e) := (h.do1 e).mono (by omega)
theorem Lk.fail (h : Lk k E) (n : Int) : Lk k (E.fail n) := by
 unfold Em.fail
 split
 · exact Or.inr (h.resolve_left (fun h => h (by assumption)))
 · exact h
theorem Lk.set (h : Lk k E) (e : List Int) (u v : Int) : Lk k (E.set e u v) := by
 unfold Em.set
 split
 · exact h.fail _
 · exact h.do0 _
theorem Lk.setObj (h : Lk k E) (id f v : Int) : Lk k (E.setObj id f v) := by
 unfold Em.setObj
 split
 · exact h
 split
 · exact h.do0 _
 · exact h.set _ _ _
theorem Lk.setPl (h : Lk k E) (p f v : Int) : Lk k (E.setPl p f v) := by
 unfold Em.setPl
 split
 · exact h
 split
 · exact h.do0 _
 · exact h.set _ _ _
theorem Lk.setGame (h : Lk k E) (f v : Int) : Lk k (E.setGame f v) := by
 unfold Em.setGame
 split
 · exact h
 split
 · exact h.do0 _
 · exact h.set _ _ _
theorem Lk.make (h : Lk k E) (c o kk : Int) : Lk k (E.make c o kk) := by
 unfold Em.make
 split
 · exact h
 · exact h.do0 _
theorem Lk.zeros (id : Int) : ∀ (l : List Int) {E : Em}, Lk k E → Lk k (l.foldl (fun E f => E.setObj id f 0) E)
 | [], _, h => h
 | f :: l, _, h => Lk.zeros id l (h.setObj id f 0)
theorem Lk.dos : ∀ (l : List (List Int)) {E : Em}, Lk k E → Lk k (E.dos l)
 | [], _, h => h
 | e :: l, _, h => Lk.dos l (h.do0 e)
theorem Lk.show (h : Lk k E) (id p : Int) : Lk k (E.show id p) := by
 unfold Em.show
 split
 · exact h
 · exact h.dos _
theorem Lk.iff' (h : Lk k E) {p : Prop} [Decidable p] {F : Em} (hf : Lk k F) : Lk k (if p then F else E) := by split <;> assumption
theorem Lk.put2 (h : Lk k E) (id fr dz own : Int) : Lk k (E.put2 id fr dz own) := by
 unfold Em.put2
 have h2 : Lk k (if dz ≠ 8 then E.rest id else E) := h.iff' (h.zeros id restL)
 have h3 := h2.iff' (p := dz < 8) (h2.setObj id 2 own)
 have h4 := h3.iff' (p := dz ≠ 9) (h3.setObj id 16 0)
 have h5 := h4.iff' (p := dz = 8 ∧ fr ≠ dz) (h4.setObj id 5 1)
 exact h5.show id (zbt dz)
theorem Lk.await (h : Lk 2 E) (id wh ctl : Int) : Lk 0 (E.await id wh ctl) := by
 unfold Em.await
 split
 · rename_i hc
   rcases h with h | h
   · exact Or.inl h
   · refine Or.inr ?_
     have hu : (usesN (zcz (gt (rowAt E.now.objs id.toNat) 0).toNat).abs wh).length ≤ 2 := Nat.le_trans (zhe _ _) (zgp _)
     show (E.pend ++ _).length + 0 ≤ 2 * E.evs.length
     rw [List.length_append, List.length_map]; omega
 · exact (h.mono (by omega)).fail _
theorem Lk.put3 (h : Lk 2 E) (id fr dz base ctl : Int) : Lk 0 (E.put3 id fr dz base ctl) := by
 have h0 := h.mono (show 0 ≤ 2 by omega)
 unfold Em.put3
 split
 · exact h0
 split
 · exact h.await _ _ _
 split
 · exact h.await _ _ _
 · exact h0
theorem Lk.put (h : Lk 0 E) (id base : Int) : Lk 0 (E.put id base) := by
 unfold Em.put
 split
 · exact h
 split
 · exact Or.inl (show (4 : Int) ≠ 0 by decide)
 split
 · exact Or.inl (show (12 : Int) ≠ 0 by decide)
 · exact ((h.do1 (E.now.putEv id (zfe (rowAt E.now.objs id.toNat) base))).put2 _ _ _ _).put3 _ _ _ _ _
theorem Lk.draw (h : Lk 0 E) (p : Int) : Lk 0 (E.draw p) := by
 unfold Em.draw
 split
 · exact h
 split
 · exact Or.inl (show (1 : Int) ≠ 0 by decide)
 split
 · exact h.setPl _ _ _
 · exact h.put _ _
theorem Lk.life (h : Lk k E) (p m : Int) : Lk k (E.life p m) := by
 unfold Em.life
 split
 · exact h
 split
 · exact Or.inl (show (1 : Int) ≠ 0 by decide)
 · exact h.setPl _ _ _
theorem Lk.mana (h : Lk k E) (p l m : Int) : Lk k (E.mana p l m) := by
 unfold Em.mana
 split
 · exact h
 split
 · exact Or.inl (show (1 : Int) ≠ 0 by decide)
 split
 · exact Or.inl (show (6 : Int) ≠ 0 by decide)
 · exact h.setPl _ _ _
theorem Lk.pick (h : Lk k E) (n : Int) : Lk k (E.pick n) := by
 unfold Em.pick
 split
 · exact h
 · exact (h.fail _).setGame _ _
theorem Lk.shufTo (z : Nat) (l : List Int) : ∀ (j : Nat) {E : Em}, Lk k E → Lk k (E.shufTo z l j)
 | 0, _, h => h
 | j + 1, E, h => by
   have h1 := Lk.shufTo z l j h
   show Lk k ((E.shufTo z l j).shufAt z (gt l j) j)
   generalize E.shufTo z l j = F at *
   unfold Em.shufAt
   split
   · exact h1
   · exact h1.do0 _
theorem Lk.hideTo (l : List Int) : ∀ (j : Nat) {E : Em}, Lk k E → Lk k (E.hideTo l j)
 | 0, _, h => h
 | j + 1, _, h => (Lk.hideTo l j h).dos _
theorem Lk.shuffle (h : Lk k E) (p : Int) : Lk k (E.shuffle p) := by
 have h0 : ∀ p : Nat, Lk k (E.shuf0 p) := fun p => (h.fail _).setGame _ _
 unfold Em.shuffle
 split
 · exact h
 split
 · exact Or.inl (show (1 : Int) ≠ 0 by decide)
 split
 · exact h0 _
 · exact Lk.hideTo _ _ (Lk.shufTo _ _ _ (h0 _))
end
theorem zb5 (E : Em) (k : Int) (hk : k ≠ 0) : (E.fail k).err ≠ 0 := by
 unfold Em.fail
 split
 · exact hk
 · assumption
theorem zs9 {E : Em} (he : E.err = 0) {a f : Nat} {v : Int} (h : (E.setObj a f v).err = 0) : (E.setObj a f v).now = E.now.setObj a f v := by
 have key : ∀ e u, (∀ S, zeg E.now e = .ok S → S = u) → (E.do1 e).err = 0 → (E.do1 e).now = u := by
  intro e u hu h
  unfold Em.do1 at h ⊢
  rw [if_neg (by rw [he]; simp)] at h ⊢
  cases hd : zeg E.now e with
  | error n => rw [hd] at h; exact absurd h (zft hd)
  | ok S =>
    rw [hd] at h
    have h : (if E.evs.length < 65536 then _ else _ : Em).err = 0 := h
    show (if E.evs.length < 65536 then _ else _ : Em).now = _
    split
    · exact hu S hd
    · exact hu S hd
 unfold Em.setObj at h ⊢
 rw [if_neg (by rw [he]; simp)] at h ⊢
 split at h
 · rename_i hc
   rw [if_pos hc]
   refine key _ _ (fun S hS => ?_) h
   rcases hc with hc | hc
   · exact absurd (zbx hS) hc
   · exact absurd (zd9 hS).1 (by omega)
 · rename_i hc
   rw [if_neg hc]
   unfold Em.set at h ⊢
   split at h
   · rename_i hv
     rw [if_pos hv, zgt]
     unfold St.setObj
     rw [← hv, Int.toNat_natCast, Int.toNat_natCast, zxl, zxn]
   · rename_i hv
     rw [if_neg hv]
     refine key _ _ (fun S hS => ?_) h
     have := (zd9 hS).2
     rw [Int.toNat_natCast, Int.toNat_natCast] at this
     exact this
theorem zk4 {E : Em} (h : E.err ≠ 0) (p m : Int) : E.life p m = E := by unfold Em.life; rw [if_pos h]
theorem zk6 {E : Em} (h : E.err ≠ 0) (p l m : Int) : E.mana p l m = E := by unfold Em.mana; rw [if_pos h]
theorem zhq {E : Em} (h : E.err ≠ 0) (n : Int) : E.pick n = E := by unfold Em.pick; rw [if_pos h]
theorem zml {E : Em} (h : E.err ≠ 0) (p : Int) : E.shuffle p = E := by unfold Em.shuffle; rw [if_pos h]
theorem Sim.life {n : Nat} {E F : Em} (h : Sim n E F) (hn : n < 65536) (p m : Int) : Sim (n + 1) (E.life p m) (F.life p m) := by
 refine h.step (f := fun E => E.life p m) (fun h => zk4 h _ _) (fun e1 e2 e3 => ?_)
 unfold Em.life
 rw [if_neg (show ¬ E.err ≠ 0 by rw [e1]; simp), if_neg (show ¬ F.err ≠ 0 by rw [e2]; simp), e3]
 split
 · exact ⟨h.evs, Or.inl (show (1 : Int) ≠ 0 by decide)⟩
 · exact h.setPl hn _ _ _
theorem Sim.mana {n : Nat} {E F : Em} (h : Sim n E F) (hn : n < 65536) (p l m : Int) : Sim (n + 1) (E.mana p l m) (F.mana p l m) := by
 refine h.step (f := fun E => E.mana p l m) (fun h => zk6 h _ _ _) (fun e1 e2 e3 => ?_)
 unfold Em.mana
 rw [if_neg (show ¬ E.err ≠ 0 by rw [e1]; simp), if_neg (show ¬ F.err ≠ 0 by rw [e2]; simp), e3]
 split
 · exact ⟨h.evs, Or.inl (show (1 : Int) ≠ 0 by decide)⟩
 split
 · exact ⟨h.evs, Or.inl (show (6 : Int) ≠ 0 by decide)⟩
 · exact h.setPl hn _ _ _
theorem Sim.same {n : Nat} {E F : Em} (h : Sim n E F) (he : E.err = 0) : F.err = 0 ∧ E.now = F.now ∧ E.draws = F.draws := by
 rcases h.or with h1 | ⟨h1, h2, _, h3, _⟩
 · exact absurd he h1
 · exact ⟨by rw [← h1]; exact he, h2, h3⟩
theorem Sim.pick {n : Nat} {E F : Em} (h : Sim n E F) (hn : n < 65536) (m : Int) : Sim (n + 1) (E.pick m) (F.pick m) := by
 by_cases he : E.err = 0
 · obtain ⟨e2, e3, e4⟩ := h.same he
   unfold Em.pick
   rw [if_neg (show ¬ E.err ≠ 0 by rw [he]; simp), if_neg (show ¬ F.err ≠ 0 by rw [e2]; simp), e3, e4]
   exact (h.fail _).setGame hn _ _
 · rw [zhq he]; exact h.bad he _ _
theorem Sim.shufTo {n : Nat} {E F : Em} (h : Sim n E F) (z : Nat) (l : List Int) : ∀ k, n + k ≤ 65536 → Sim (n + k) (E.shufTo z l k) (F.shufTo z l k)
 | 0, _ => h
 | k + 1, hk => by
   have h1 := Sim.shufTo h z l k (by omega)
   show Sim (n + k + 1) ((E.shufTo z l k).shufAt z (gt l k) k) ((F.shufTo z l k).shufAt z (gt l k) k)
   generalize E.shufTo z l k = E1 at *
   generalize F.shufTo z l k = F1 at *
   by_cases he : E1.err = 0
   · obtain ⟨e2, e3, e4⟩ := h1.same he
     unfold Em.shufAt
     rw [e3]
     split
     · exact h1.mono (by omega)
     · exact h1.do1 (by omega) _
   · refine ⟨?_, Or.inl (zlg he _ _ _)⟩
     · unfold Em.shufAt
       split
       · exact h1.evs
       · unfold Em.do1
         rw [if_pos he]; exact h1.evs
theorem Sim.hideTo {n : Nat} {E F : Em} (h : Sim n E F) (l : List Int) : ∀ k, n + k ≤ 65536 → Sim (n + k) (E.hideTo l k) (F.hideTo l k)
 | 0, _ => h
 | k + 1, hk => by
   have h1 := Sim.hideTo h l k (by omega)
   show Sim (n + k + 1) ((E.hideTo l k).dos (hideEv (E.hideTo l k).now (gt l k) 3)) ((F.hideTo l k).dos (hideEv (F.hideTo l k).now (gt l k) 3))
   generalize E.hideTo l k = E1 at *
   generalize F.hideTo l k = F1 at *
   by_cases he : E1.err = 0
   · obtain ⟨e2, e3, e4⟩ := h1.same he
     rw [e3]
     have hl : (hideEv F1.now (gt l k) 3).length ≤ 1 := by
      unfold Go.Proofs.YthfalocligkamaaGreatDoor.hideEv
      split
      · simp
      split <;> simp
     exact (Sim.dos _ h1 (by omega)).mono (by omega)
   · rw [zi5 he]; exact h1.bad he _ _
theorem Rg.life {m : Nat} {d : List Int} {E : Em} (h : Rg m d E) (p v : Int) : Og m d (E.life p v) := Og.of (h.sim.life (by omega) p v) (h.gd.life p v)
theorem Rg.mana {m : Nat} {d : List Int} {E : Em} (h : Rg m d E) (p l v : Int) : Og m d (E.mana p l v) := Og.of (h.sim.mana (by omega) p l v) (h.gd.mana p l v)
theorem Rg.pick {m : Nat} {d : List Int} {E : Em} (h : Rg m d E) (n : Int) : Og m d (E.pick n) := Og.of (h.sim.pick (by omega) n) (h.gd.pick n)
theorem Rg.show {m : Nat} {d : List Int} {E : Em} (h : Rg m d E) (a p : Int) : Og m d (E.show a p) := Og.of (h.sim.show (by omega) a p) (h.gd.show a p)
theorem zlh {E : Em} (h : E.err = 0) {p : Int} (hp : p = 0 ∨ p = 1) : E.shuffle p = if (E.shuf0 p.toNat).err ≠ 0 then E.shuf0 p.toNat else ((E.shuf0 p.toNat).shufTo p.toNat (E.shufD p.toNat) (E.shufD p.toNat).length).hideTo (E.shufD p.toNat) (E.shufD p.toNat).length := by
 unfold Em.shuffle
 rw [if_neg (show ¬ E.err ≠ 0 by rw [h]; simp), if_neg (show ¬ ¬ (p = 0 ∨ p = 1) from fun h => h hp)]
theorem Rg.shuffle {m : Nat} {d : List Int} {E : Em} (h : Rg m d E) (p : Int) : Og m d (E.shuffle p) := by
 by_cases hp : p = 0 ∨ p = 1
 · refine Og.of (n := 801) ?_ (h.gd.shuffle p)
   have hb : E.bare.err = 0 := h.err
   have hl : (E.shufD p.toNat).length ≤ 400 := zn8 h.right p.toNat (by omega)
   have hd : E.bare.shufD p.toNat = E.shufD p.toNat := rfl
   have h0 : Sim 1 (E.shuf0 p.toNat) (E.bare.shuf0 p.toNat) := (h.sim.fail _).setGame (by omega) _ _
   rw [zlh h.err hp, zlh hb hp, hd]
   by_cases he : (E.shuf0 p.toNat).err = 0
   · obtain ⟨e2, _, _⟩ := h0.same he
     rw [if_neg (show ¬ (E.shuf0 p.toNat).err ≠ 0 by rw [he]; simp), if_neg (show ¬ (E.bare.shuf0 p.toNat).err ≠ 0 by rw [e2]; simp)]
     exact (Sim.hideTo (Sim.shufTo h0 _ _ _ (by omega)) _ _ (by omega)).mono (by omega)
   · rw [if_pos he]
     exact h0.bad he _ _
 · refine Or.inl ?_
   unfold Em.shuffle
   rw [if_neg (by rw [h.err]; simp), if_pos hp]
   show (1 : Int) ≠ 0
   decide
theorem z6h (r : List Int) (h : r.length = 18) (h8 : gt r 3 = 8) (f : Nat) (v : Int) (hf : 4 ≤ f ∧ f ≤ 12) : zba (r.set f v) = zba r := by
 have key : ∀ g, g ≠ f → gt (r.set f v) g = gt r g := fun g hg => by rw [zdr _ _ _ _ (by omega), if_neg (Ne.symm hg)]
 unfold zba
 rw [key 3 (by omega), key 2 (by omega), key 1 (by omega), key 16 (by omega), h8]
 simp
theorem Right.fld8 {S : St} (h : Right S) (hw : ze3 S) (a f : Nat) (v : Int) (ha : a < S.objs.length) (h8 : gt (rowAt S.objs a) 3 = 8) (hf : 4 ≤ f ∧ f ≤ 12) (hv : gt (zak S.objs.length) (f * 2) ≤ v ∧ v ≤ gt (zak S.objs.length) (f * 2 + 1)) : Right (S.setObj a f v) :=
 h.setObj hw a f v ha (by omega) (by omega) (by omega) (by simp [inB]; exact hv) (by omega) (by rw [z6h _ (hw a ha) h8 f v hf]; exact h.formed a ha)
def Oq (d : List Int) (E : Em) : Prop := Og 131072 d E ∧ Lk 0 E
section
variable {d : List Int} {E : Em}
theorem Oq.of {m : Nat} (h : Og m d E) (k : Lk 0 E) : Oq d E := by
 refine ⟨?_, k⟩
 rcases h with h | h
 · exact Or.inl h
 · have := k.resolve_left (fun e => e h.err)
   exact Or.inr ⟨h.err, h.right, h.wid, h.evs, by have := h.evs; omega, h.draws⟩
theorem Oq.mo (h : Oq d E) (hd : d.length ≤ 1048576) : Mo E := h.1.mo (by omega) hd
theorem Oq.err (h : Oq d E) (he : E.err = 0) : Rg 131072 d E := h.1.err he
theorem Oq.bad (he : E.err ≠ 0) : Oq d E := ⟨Or.inl he, Or.inl he⟩
theorem Oq.put (h : Oq d E) (id base : Int) : Oq d (E.put id base) := .of (h.1.put id base) (h.2.put id base)
theorem Oq.make (h : Oq d E) (c o k : Int) : Oq d (E.make c o k) := .of (h.1.make c o k) (h.2.make c o k)
theorem Oq.draw (h : Oq d E) (p : Int) : Oq d (E.draw p) := .of (h.1.draw p) (h.2.draw p)
theorem Oq.by (h : Oq d E) {f : Em → Em} (hb : ∀ {E : Em}, E.err ≠ 0 → f E = E) (hr : Rg 131072 d E → Og 131072 d (f E)) (hk : Lk 0 (f E)) : Oq d (f E) := by
 by_cases he : E.err = 0
 · exact .of (hr (h.err he)) hk
 · rw [hb he]; exact h
theorem Oq.life (h : Oq d E) (p v : Int) : Oq d (E.life p v) := h.by (f := fun E => E.life p v) (fun h => zk4 h _ _) (fun h => h.life p v) (h.2.life p v)
theorem Oq.mana (h : Oq d E) (p l v : Int) : Oq d (E.mana p l v) := h.by (f := fun E => E.mana p l v) (fun h => zk6 h _ _ _) (fun h => h.mana p l v) (h.2.mana p l v)
theorem Oq.pick (h : Oq d E) (n : Int) : Oq d (E.pick n) := h.by (f := fun E => E.pick n) (fun h => zhq h _) (fun h => h.pick n) (h.2.pick n)
theorem Oq.show (h : Oq d E) (a p : Int) : Oq d (E.show a p) := h.by (f := fun E => E.show a p) (fun h => zmk h _ _) (fun h => h.show a p) (h.2.show a p)
theorem Oq.shuffle (h : Oq d E) (p : Int) : Oq d (E.shuffle p) := h.by (f := fun E => E.shuffle p) (fun h => zml h _) (fun h => h.shuffle p) (h.2.shuffle p)
theorem Oq.setObj (h : Oq d E) (a f : Nat) (v : Int) (hs : E.err = 0 → a < E.now.objs.length ∧ gt (rowAt E.now.objs a) 3 = 8) (hf : 4 ≤ f ∧ f ≤ 12) (hv : E.err = 0 → gt (zak E.now.objs.length) (f * 2) ≤ v ∧ v ≤ gt (zak E.now.objs.length) (f * 2 + 1)) : Oq d (E.setObj a f v) :=
 h.by (f := fun E => E.setObj a f v) (fun h => zf0 h _ _ _) (fun hR => hR.setObj a f v (fun a' g ha' hg hal => by
  obtain rfl : a = a' := by omega
  obtain rfl : f = g := by omega
  exact hR.right.fld8 hR.wid a f v hal (hs hR.err).2 hf (hv hR.err))) (h.2.setObj a f v)
theorem Oq.fail (h : Oq d E) (n : Int) : Oq d (E.fail n) := by
 by_cases he : E.err = 0
 · by_cases hn : n = 0
   · subst hn
     have e : E.fail 0 = E := by unfold Em.fail; rw [if_pos he]; cases E; simp only at he; rw [he]
     rw [e]; exact h
   · exact Oq.bad (by unfold Em.fail; rw [if_pos he]; exact hn)
 · have e : E.fail n = E := by unfold Em.fail; rw [if_neg he]
   rw [e]; exact h
end
end Go.Proofs.YthfalocligkamaaGreatDoor
namespace Go.Proofs.YthfalocligkamaaGreatDoor
open Go Go.RowKit Go.Shelf
def zvo (S : St) (n ctl src id : Int) : Bool :=
 if n = 0 then true else if n = 1 then gt (rowAt S.objs id.toNat) 2 == ctl else if n = 2 then !(gt (rowAt S.objs id.toNat) 2 == ctl) else (gt (rowAt S.objs id.toNat) 2 == ctl && id != src)
def groupN (S : St) (n ctl src : Int) : List Int := if zbn S ≠ 0 ∨ n < 0 ∨ 3 < n then [] else (S.list 8).filter fun id => zvo S n ctl src id && zar S id
def zf9 (S : St) (p : Int) : List Int := if zbn S ≠ 0 then [] else (S.list 8).filter fun id => zar S id && gt (rowAt S.objs id.toNat) 2 == p
def zgu (S : St) (n m p : Int) : Bool :=
 if ¬ (p = 0 ∨ p = 1) ∨ zbn S ≠ 0 then false
 else if n = 0 then decide (S.num (p.toNat * 9) ≤ m) else if n = 1 then decide (m ≤ ((zf9 S p).length : Int)) else if n = 2 then decide (m ≤ ((S.list (3 - p.toNat)).length : Int)) else false
def d1S : St := { objs := [[10, 0, 0, 8, 0, 0, 0, 0, 0, 0, 0, 0, 0, 0, 0, 0, 0, 0], [14, 0, 0, 8, 0, 0, 0, 0, 0, 0, 0, 0, 0, 0, 0, 0, 0, 0]], list := upd (fun _ => []) 8 [0, 1], num := fun _ => 0 }
theorem zzz : zbn d1S = 0 := by decide +kernel
def d1E : Em := ⟨d1S, [], [], [], 0⟩
theorem z4o : Em.new d1S [] = d1E := by rw [z7d, zzz]; rfl
end Go.Proofs.YthfalocligkamaaGreatDoor
namespace Go.Proofs.YthfalocligkamaaGreatDoor
open Go Go.RowKit Go.Shelf
inductive Eff where
 | mk (op n m who : Int) (a : Option Addr) (c : Nat) (subs : List Eff)
def Eff.op : Eff → Int | .mk o _ _ _ _ _ _ => o
def Eff.n : Eff → Int | .mk _ n _ _ _ _ _ => n
def Eff.m : Eff → Int | .mk _ _ m _ _ _ _ => m
def Eff.who : Eff → Int | .mk _ _ _ w _ _ _ => w
def Eff.a : Eff → Option Addr | .mk _ _ _ _ a _ _ => a
def Eff.c : Eff → Nat | .mk _ _ _ _ _ c _ => c
def Eff.subs : Eff → List Eff | .mk _ _ _ _ _ _ l => l
structure Ctx where
 src : Int
 ctl : Int
 kind : Int
 tgt : Int
def Em.add (E : Em) (id : Nat) (f : Nat) (more : Int) : Em := if E.err ≠ 0 then E else E.setObj id f (betw (gt (rowAt E.now.objs id) f + more) (-1073741824) 1073741824)
def Em.mill (E : Em) (p : Nat) : Em := if E.state.list p = [] then E else E.put (gt (E.state.list p) ((E.state.list p).length - 1)) 4
def Em.discard (E : Em) (p : Nat) : Em :=
 if E.state.list (2 + p) = [] then E
 else if (E.pick ((E.state.list (2 + p)).length : Int)).err ≠ 0 then E.pick ((E.state.list (2 + p)).length : Int)
 else (E.pick ((E.state.list (2 + p)).length : Int)).put (gt (E.state.list (2 + p)) (E.picked ((E.state.list (2 + p)).length : Int)).toNat) 4
def Em.token (E : Em) (p c : Int) : Em := if (E.make c p 1).err ≠ 0 then E.make c p 1 else (E.make c p 1).put (E.made c p 1) 8
def Em.shows (E : Em) (l : List Int) (pl : Int) : Nat → Em
 | 0 => E
 | k + 1 => (E.shows l pl k).show (gt l (l.length - 1 - k)) pl
def reps (f : Em → Em) (E : Em) : Nat → Em
 | 0 => E
 | k + 1 => if (reps f E k).err ≠ 0 then reps f E k else f (reps f E k)
def Em.toPl (E : Em) (op n m ctl : Int) (p : Nat) : Em :=
 if op = 2 then E.life p n
 else if op = 3 ∨ op = 1 then E.life p (-n)
 else if op = 4 then reps (fun E => E.draw p) E n.toNat
 else if op = 5 then reps (fun E => E.mill p) E n.toNat
 else if op = 14 then reps (fun E => E.token p m) E n.toNat
 else if op = 15 then E.mana p m n
 else if op = 16 then E.shows (E.state.list p) 3 (min n ((E.state.list p).length : Int)).toNat
 else if op = 17 then E.shows (E.state.list p) (ctl + 1) (min n ((E.state.list p).length : Int)).toNat
 else if op = 18 then E.shuffle p
 else if op = 19 then reps (fun E => E.discard p) E n.toNat
 else E
def Em.toOb (E : Em) (op n m : Int) (id : Nat) : Em :=
 if op = 1 then E.add id 6 n
 else if op = 6 ∨ op = 9 then E.put id 4
 else if op = 7 then E.put id 2
 else if op = 8 then E.put id 6
 else if op = 10 then (E.add id 8 n).add id 9 m
 else if op = 11 then E.add id 7 n
 else if op = 12 then E.setObj id 4 1
 else if op = 13 then E.setObj id 4 0
 else if op = 23 then E.setObj id 10 (bits .or .i64 (gt (rowAt E.now.objs id) 10) n)
 else if op = 25 then E.setObj id 10 (bits .andNot .i64 (gt (rowAt E.now.objs id) 10) n)
 else if op = 24 then (E.add id 8 (n - gt (shapeN E.now id) 0)).add id 9 (m - gt (shapeN E.now id) 1)
 else E
def whomL (who ctl tgt : Int) : List Int :=
 if who = 0 then [ctl] else if who = 1 then [1 - ctl] else if who = 4 then [ctl, 1 - ctl] else if who = 2 ∧ (tgt = -1 ∨ tgt = -2) then [-1 - tgt] else []
def z8t (who src tgt : Int) : Option Int := if who = 2 then (if tgt ≤ 0 then none else some (tgt - 1)) else if who = 3 then some src else none
def zc3 (S : St) (op id : Int) : Bool :=
 if ¬ (0 ≤ id ∧ id < S.objs.length) then false
 else if op = 9 then gt (rowAt S.objs id.toNat) 3 == 9 && gt (rowAt S.objs id.toNat) 13 != 2
 else if op = 1 ∨ op = 24 then zar S id
 else gt (rowAt S.objs id.toNat) 3 == 8
def zmr (S : St) (op who src tgt : Int) : Option Nat :=
 match z8t who src tgt with
 | none => none
 | some id => if zc3 S op id = true then some id.toNat else none
def Em.leafP (E : Em) (op n m ctl : Int) (l : List Int) : Em := l.foldl (fun E p => if E.err ≠ 0 then E else E.toPl op n m ctl p.toNat) E
def Em.leafO (E : Em) (op n m : Int) (x : Option Nat) : Em := match x with | none => E | some id => E.toOb op n m id
def Em.leaf (E : Em) (op n m who : Int) (x : Ctx) : Em :=
 (E.leafP op n m x.ctl (whomL who x.ctl x.tgt)).leafO op n m (zmr (E.leafP op n m x.ctl (whomL who x.ctl x.tgt)).state op who x.src x.tgt)
def eachOf (f : Ctx → Em → Em) (x : Ctx) (E : Em) (id : Int) : Em := if E.err ≠ 0 then E else if gt (rowAt E.now.objs id.toNat) 3 = 8 then f { x with tgt := id + 1 } E else E
def doF (op n m who : Int) (fs : List (Ctx → Em → Em)) (x : Ctx) (E : Em) : Em :=
 if E.err ≠ 0 then E
 else if op = 20 then (groupN E.now n x.ctl x.src).foldl (eachOf (fs.getD 0 fun _ E => E) x) E
 else if op = 21 then fs.foldl (fun E f => f x E) E
 else if op = 22 then (if zgu E.now n m x.ctl = true then (fs.getD 0 fun _ E => E) x E else (fs.getD 1 fun _ E => E) x E)
 else E.leaf op n m who x
mutual
def Eff.run : Eff → Ctx → Em → Em
 | .mk op n m who _ _ subs => doF op n m who (z2k subs)
def z2k : List Eff → List (Ctx → Em → Em)
 | [] => []
 | e :: l => e.run :: z2k l
end
theorem zxi (l : List Eff) : z2k l = l.map Eff.run := by
 induction l with
 | nil => rfl
 | cons e l ih => rw [z2k, ih]; rfl
theorem Eff.run_mk (op n m who : Int) (a : Option Addr) (c : Nat) (subs : List Eff) : (Eff.mk op n m who a c subs).run = doF op n m who (subs.map Eff.run) := by rw [Eff.run, zxi]
structure Ask where
 sg : Bool
 n : Int
 m : Int
 wh : List Int
 tg : List Int
 lo : Nat
 hi : Nat
def asks (op : Int) : Ask where
 sg := decide (op = 10 ∨ op = 24)
 n := if op = 20 then 3 else if op = 22 then 2 else if op = 23 ∨ op = 25 then 255 else 99
 m := if op = 15 then 5 else if op = 14 then 119 else 99
 wh := if op = 0 ∨ op = 21 ∨ op = 22 ∨ op = 20 then [0] else if op = 1 then [0, 1, 4] else if op = 9 then [] else if op = 6 ∨ op = 7 ∨ op = 8 ∨ op = 10 ∨ op = 11 ∨ op = 12 ∨ op = 13 ∨ op = 23 ∨ op = 24 ∨ op = 25 then [3] else [0, 1, 4]
 tg := if op = 0 ∨ op = 21 ∨ op = 22 ∨ op = 20 then [] else if op = 1 then [1, 2, 3] else if op = 9 then [4] else if op = 6 ∨ op = 7 ∨ op = 8 ∨ op = 10 ∨ op = 11 ∨ op = 12 ∨ op = 13 ∨ op = 23 ∨ op = 24 ∨ op = 25 then [1, 5] else [2]
 lo := if op = 20 ∨ op = 21 ∨ op = 22 then 1 else 0
 hi := if op = 20 then 1 else if op = 22 then 2 else if op = 21 then 8 else 0
def inW (n most : Int) (sg : Bool) : Bool := decide ((if sg = true then -most else 0) ≤ n ∧ n ≤ most)
def zk8 (op n m who : Int) : Bool :=
 inW n (asks op).n (asks op).sg && inW m (asks op).m (asks op).sg && inW who 4 false &&
  (if op = 23 ∨ op = 25 then decide (n ≤ 255) else if op = 14 then decide (112 ≤ m ∧ m ≤ 119) else true)
def zej (op : Int) : Bool := decide (op = 1) || (asks op).wh.contains 3
def zgd (op n m who : Int) (len : Nat) (sub0 : Int) (tg depth : Int) : Int :=
 if op < 0 ∨ 26 ≤ op then 6
 else if 8 < depth then 3
 else if zk8 op n m who = false then 1
 else if ¬ (who = 2 ∧ (asks op).tg.contains tg = true) ∧ (asks op).wh.contains who = false then 11
 else if len < (asks op).lo ∨ (asks op).hi < len then 2
 else if op = 20 ∧ zej sub0 = false then 2
 else 0
mutual
def Eff.chk : Eff → Int → Int → Int
 | .mk op n m who _ _ subs => fun tg d =>
   if zgd op n m who subs.length (match subs with | [] => 0 | e :: _ => e.op) tg d ≠ 0 then zgd op n m who subs.length (match subs with | [] => 0 | e :: _ => e.op) tg d
   else zds subs (decide (op = 20)) (if op = 20 then 1 else tg) (d + 1)
def zds : List Eff → Bool → Int → Int → Int
 | [] => fun _ _ _ => 0
 | e :: l => fun all tg d => if e.chk tg d ≠ 0 then e.chk tg d else if (all && e.who != 2) = true then 11 else zds l all tg d
end
def op0 : List Eff → Int
 | [] => 0
 | e :: _ => e.op
theorem Eff.chk_mk (op n m who : Int) (a : Option Addr) (c : Nat) (l : List Eff) (tg d : Int) : (Eff.mk op n m who a c l).chk tg d = if zgd op n m who l.length (op0 l) tg d ≠ 0 then zgd op n m who l.length (op0 l) tg d else zds l (decide (op = 20)) (if op = 20 then 1 else tg) (d + 1) := by
 cases l <;> rfl
theorem zfr (e : Eff) (l : List Eff) (all : Bool) (tg d : Int) : zds (e :: l) all tg d = if e.chk tg d ≠ 0 then e.chk tg d else if (all && e.who != 2) = true then 11 else zds l all tg d := rfl
def Eff.check (e : Eff) (tg : Int) : Int := if tg < 0 ∨ 6 ≤ tg then 6 else e.chk tg 1
mutual
def Eff.has (op : Int) : Eff → Bool
 | .mk o _ _ _ _ _ l => o == op || hassE op l
def hassE (op : Int) : List Eff → Bool
 | [] => false
 | e :: l => e.has op || hassE op l
end
def Em.exec (E : Em) (e : Eff) (x : Ctx) : Em :=
 if E.err ≠ 0 then E
 else
  let E1 := E.fail (e.check x.kind)
  let E2 := if x.ctl = 0 ∨ x.ctl = 1 then E1 else E1.fail 1
  let E3 := if x.kind ≠ 0 ∧ ¬ (x.tgt = -1 ∨ x.tgt = -2) ∧ (x.tgt ≤ 0 ∨ (E2.state.objs.length : Int) < x.tgt) then E2.fail 11 else E2
  e.run x E3
inductive Eff.Ok : Eff → Prop
 | mk {op n m who : Int} {a : Option Addr} {c : Nat} {subs : List Eff} (h0 : 0 ≤ op ∧ op < 26) (hn : -255 ≤ n ∧ n ≤ 255) (hm : -255 ≤ m ∧ m ≤ 255) (hp : op ≠ 10 → op ≠ 24 → 0 ≤ n ∧ 0 ≤ m) (hw : 0 ≤ who ∧ who ≤ 4)
    (hl : op = 20 → subs.length = 1) (hi : op = 22 → 1 ≤ subs.length ∧ subs.length ≤ 2) (h8 : subs.length ≤ 8) (hs : ∀ e, e ∈ subs → Eff.Ok e) : Eff.Ok (.mk op n m who a c subs)
theorem zqe (l : List Eff) (all : Bool) (tg d : Int) (h : zds l all tg d = 0) : ∀ e, e ∈ l → e.chk tg d = 0 := by
 induction l with
 | nil => intro e he; cases he
 | cons a l ih =>
   rw [zfr] at h
   split at h
   · rename_i h1; exact absurd h h1
   · rename_i h1
     split at h
     · cases h
     · intro e he
       rcases List.mem_cons.1 he with rfl | he
       · exact Decidable.not_not.1 h1
       · exact ih h e he
theorem zvu {op n m who : Int} {len : Nat} {s0 tg d : Int} (h : zgd op n m who len s0 tg d = 0) :
 (0 ≤ op ∧ op < 26) ∧ d ≤ 8 ∧ zk8 op n m who = true ∧ (asks op).lo ≤ len ∧ len ≤ (asks op).hi := by
 unfold zgd at h
 split at h
 · cases h
 rename_i h1
 split at h
 · cases h
 rename_i h2
 split at h
 · cases h
 rename_i h3
 split at h
 · cases h
 split at h
 · cases h
 rename_i h5
 exact ⟨by omega, by omega, by simpa using h3, by omega, by omega⟩
theorem zwb {op n m who : Int} (h : zk8 op n m who = true) : (-255 ≤ n ∧ n ≤ 255) ∧ (-255 ≤ m ∧ m ≤ 255) ∧ (op ≠ 10 → op ≠ 24 → 0 ≤ n ∧ 0 ≤ m) ∧ (0 ≤ who ∧ who ≤ 4) := by
 unfold zk8 inW asks at h
 simp only [Bool.and_eq_true, decide_eq_true_eq, Bool.false_eq_true, if_false] at h
 obtain ⟨⟨⟨h1, h2⟩, h3⟩, -⟩ := h
 have hN : (if op = 20 then (3 : Int) else if op = 22 then 2 else if op = 23 ∨ op = 25 then 255 else 99) ≤ 255 := by (repeat' split) <;> decide
 have hM : (if op = 15 then (5 : Int) else if op = 14 then 119 else 99) ≤ 255 := by (repeat' split) <;> decide
 generalize (if op = 20 then (3 : Int) else if op = 22 then 2 else if op = 23 ∨ op = 25 then 255 else 99) = N at *
 generalize (if op = 15 then (5 : Int) else if op = 14 then 119 else 99) = M at *
 by_cases hs : op = 10 ∨ op = 24
 · rw [if_pos hs] at h1 h2
   exact ⟨by omega, by omega, fun a b => by omega, by omega⟩
 · rw [if_neg hs] at h1 h2
   exact ⟨by omega, by omega, fun a b => by omega, by omega⟩
theorem Eff.ok_of : ∀ (e : Eff) (tg d : Int), e.chk tg d = 0 → e.Ok
 | .mk op n m who _ _ subs, tg, d, h => by
   rw [Eff.chk_mk] at h
   split at h
   · rename_i h1; exact absurd h h1
   rename_i h1
   obtain ⟨a, -, b, c1, c2⟩ := zvu (Decidable.not_not.1 h1)
   obtain ⟨b1, b2, b3, b4⟩ := zwb b
   have hall := zqe _ _ _ _ h
   refine .mk a b1 b2 b3 b4 (fun e => ?_) (fun e => ?_) ?_ (fun e he => Eff.ok_of e _ _ (hall e he))
   · subst e; simp [asks] at c1 c2; omega
   · subst e; simp [asks] at c1 c2; omega
   · refine Nat.le_trans c2 ?_
     unfold asks
     simp only
     (repeat' split) <;> decide
end Go.Proofs.YthfalocligkamaaGreatDoor
namespace Go.Proofs.YthfalocligkamaaGreatDoor
open Go Go.RowKit Go.Shelf
theorem zlk (q : Nat) (h : q < 256) : IntKind.i64.wrap (q : Int) = (q : Int) := (by decide +kernel : ∀ q : Fin 256, IntKind.i64.wrap ((q : Nat) : Int) = ((q : Nat) : Int)) ⟨q, h⟩
theorem ygu (a b : Int) (ha : 0 ≤ a ∧ a ≤ 255) (hb : 0 ≤ b ∧ b ≤ 255) : 0 ≤ bits .or .i64 a b ∧ bits .or .i64 a b ≤ 255 := by
 obtain ⟨x, rfl⟩ := Int.eq_ofNat_of_zero_le ha.1
 obtain ⟨y, rfl⟩ := Int.eq_ofNat_of_zero_le hb.1
 have hv : (BitVec.ofInt 64 (x : Int) ||| BitVec.ofInt 64 (y : Int)).toNat < 256 := by
  rw [BitVec.toNat_or]
  exact Nat.or_lt_two_pow (n := 8) (by simp; omega) (by simp; omega)
 have key : bits .or .i64 (x : Int) y = IntKind.i64.wrap ((BitVec.ofInt 64 (x : Int) ||| BitVec.ofInt 64 (y : Int)).toNat : Int) := rfl
 rw [key, zlk _ hv]
 omega
theorem ybo (a b : Int) (ha : 0 ≤ a ∧ a ≤ 255) : 0 ≤ bits .andNot .i64 a b ∧ bits .andNot .i64 a b ≤ 255 := by
 obtain ⟨x, rfl⟩ := Int.eq_ofNat_of_zero_le ha.1
 have hv : (BitVec.ofInt 64 (x : Int) &&& ~~~ BitVec.ofInt 64 b).toNat < 256 := by
  rw [BitVec.toNat_and]
  refine Nat.lt_of_le_of_lt Nat.and_le_left ?_
  simp; omega
 have key : bits .andNot .i64 (x : Int) b = IntKind.i64.wrap ((BitVec.ofInt 64 (x : Int) &&& ~~~ BitVec.ofInt 64 b).toNat : Int) := rfl
 rw [key, zlk _ hv]
 omega
def Jv (d : List Int) (P : St → Prop) (E : Em) : Prop := Oq d E ∧ Kv P E
section
variable {d : List Int} {M : Prop} {Q : Nat → Prop} {P : St → Prop} {E : Em}
theorem Jv.bad (he : E.err ≠ 0) : Jv d P E := ⟨.bad he, Or.inl he⟩
theorem Jv.put (C : Kc M Q P) (h : Jv d P E) (a b : Int) : Jv d P (E.put a b) := ⟨h.1.put a b, h.2.put C a b⟩
theorem Jv.setObj (C : Kc M Q P) (h : Jv d P E) (a f : Nat) (v : Int) (hs : E.err = 0 → a < E.now.objs.length ∧ gt (rowAt E.now.objs a) 3 = 8) (hf : 4 ≤ f ∧ f ≤ 12) (hv : E.err = 0 → gt (zak E.now.objs.length) (f * 2) ≤ v ∧ v ≤ gt (zak E.now.objs.length) (f * 2 + 1)) : Jv d P (E.setObj a f v) :=
 ⟨h.1.setObj a f v hs hf hv, h.2.setObj C a f v (by omega)⟩
theorem zn6 (h : Jv d P E) (a f : Nat) (v : Int) (hf : f ≠ 3) (ha : E.err = 0 → a < E.now.objs.length ∧ gt (rowAt E.now.objs a) 3 = 8) : (E.setObj a f v).err = 0 → a < (E.setObj a f v).now.objs.length ∧ gt (rowAt (E.setObj a f v).now.objs a) 3 = 8 := by
 intro he
 by_cases h0 : E.err = 0
 · obtain ⟨h1, h2⟩ := ha h0
   have hn := zs9 h0 he
   have hw := (h.1.err h0).wid
   rw [hn, zcb]
   refine ⟨h1, ?_⟩
   rw [zeq _ _ _ _ _ h1, if_pos rfl]
   by_cases h18 : f < 18
   · rw [zdr _ _ _ _ (by rw [hw a h1]; omega), if_neg (by omega)]; exact h2
   · rw [List.set_eq_of_length_le (by rw [hw a h1]; omega)]; exact h2
 · rw [zf0 h0] at he; exact absurd he h0
theorem Jv.add (C : Kc M Q P) (h : Jv d P E) (a f : Nat) (n : Int) (hs : E.err = 0 → a < E.now.objs.length ∧ gt (rowAt E.now.objs a) 3 = 8) (hf : f = 8 ∨ f = 9 ∨ ((f = 6 ∨ f = 7) ∧ 0 ≤ n)) : Jv d P (E.add a f n) := by
 unfold Em.add
 split
 · exact h
 · refine h.setObj C a f _ hs (by omega) (fun he => ?_)
   have hr := (h.1.err he).right
   have hb := zol (gt (rowAt E.now.objs a) f + n) (-1073741824) 1073741824 (by omega)
   have h7 := hr.o7 (hs he).1
   have h6 : 0 ≤ gt (rowAt E.now.objs a) 6 ∧ gt (rowAt E.now.objs a) 6 ≤ 1073741824 := hr.num (hs he).1 (f := 6) (by decide)
   rcases hf with rfl | rfl | ⟨rfl | rfl, hn⟩
   · exact hb
   · exact hb
   · refine ⟨?_, hb.2⟩
     show 0 ≤ _
     unfold betw; omega
   · refine ⟨?_, hb.2⟩
     show 0 ≤ _
     unfold betw; omega
theorem zgm (h : Jv d P E) (a f : Nat) (n : Int) (hf : f ≠ 3) (ha : E.err = 0 → a < E.now.objs.length ∧ gt (rowAt E.now.objs a) 3 = 8) : (E.add a f n).err = 0 → a < (E.add a f n).now.objs.length ∧ gt (rowAt (E.add a f n).now.objs a) 3 = 8 := by
 intro he
 unfold Em.add at he ⊢
 split at he
 · rename_i h0; exact absurd he h0
 · rename_i h0
   rw [if_neg h0]
   exact zn6 h a f _ hf ha he
theorem Jv.mill (C : Kc M Q P) (h : Jv d P E) (p : Nat) : Jv d P (E.mill p) := by
 unfold Em.mill
 split
 · exact h
 · exact h.put C _ _
theorem Jv.discard (C : Kc M Q P) (h : Jv d P E) (p : Nat) (hq : Q 23) : Jv d P (E.discard p) := by
 have h1 : ∀ n, Jv d P (E.pick n) := fun n => ⟨h.1.pick n, h.2.pick C n hq⟩
 unfold Em.discard
 split
 · exact h
 split
 · exact h1 _
 · exact (h1 _).put C _ _
theorem Jv.token (C : Kc M Q P) (h : Jv d P E) (p c : Int) (hm : M) : Jv d P (E.token p c) := by
 have h1 : Jv d P (E.make c p 1) := ⟨h.1.make _ _ _, h.2.make C _ _ _ hm⟩
 unfold Em.token
 split
 · exact h1
 · exact h1.put C _ _
theorem Jv.shows (C : Kc M Q P) (l : List Int) (pl : Int) : ∀ (k : Nat) {E : Em}, Jv d P E → Jv d P (E.shows l pl k)
 | 0, _, h => h
 | k + 1, _, h => ⟨(Jv.shows C l pl k h).1.show _ _, (Jv.shows C l pl k h).2.show C _ _⟩
theorem Jv.reps {f : Em → Em} (hf : ∀ {E : Em}, Jv d P E → Jv d P (f E)) (h : Jv d P E) : ∀ k, Jv d P (reps f E k)
 | 0 => h
 | k + 1 => by
   have h1 := Jv.reps hf h k
   rw [Go.Proofs.YthfalocligkamaaGreatDoor.reps]
   split
   · exact h1
   · exact hf h1
theorem Jv.toPl (C : Kc M Q P) (h : Jv d P E) (op n m ctl : Int) (p : Nat) (hm : op = 14 → M) (hc : op = 18 ∨ op = 19 → Q 23) (hq : ∀ q, q < 18 → Q q) : Jv d P (E.toPl op n m ctl p) := by
 unfold Em.toPl
 split
 · exact ⟨h.1.life _ _, h.2.life C _ _ hq⟩
 split
 · exact ⟨h.1.life _ _, h.2.life C _ _ hq⟩
 split
 · exact Jv.reps (fun h => ⟨h.1.draw _, h.2.draw C _ hq⟩) h _
 split
 · exact Jv.reps (fun h => h.mill C _) h _
 split
 · rename_i e; exact Jv.reps (fun h => h.token C _ _ (hm e)) h _
 split
 · exact ⟨h.1.mana _ _ _, h.2.mana C _ _ _ hq⟩
 split
 · exact Jv.shows C _ _ _ h
 split
 · exact Jv.shows C _ _ _ h
 split
 · rename_i e; exact ⟨h.1.shuffle _, h.2.shuffle C _ (hc (Or.inl e))⟩
 split
 · rename_i e; exact Jv.reps (fun h => h.discard C _ (hc (Or.inr e))) h _
 · exact h
theorem zu1 {S : St} {a : Nat} (h : zar S a = true) : a < S.objs.length ∧ gt (rowAt S.objs a) 3 = 8 := by
 obtain ⟨_, h1, h2, _⟩ := zh2 h
 rw [Int.toNat_natCast] at h2
 exact ⟨by omega, h2⟩
theorem zi0 {S : St} {op : Int} {a : Nat} (h : zc3 S op a = true) : a < S.objs.length ∧ (op ≠ 9 → gt (rowAt S.objs a) 3 = 8) := by
 unfold zc3 at h
 split at h
 · cases h
 rename_i h0
 refine ⟨by omega, fun h9 => ?_⟩
 rw [if_neg h9] at h
 split at h
 · exact (zu1 h).2
 · rw [Int.toNat_natCast] at h; simpa using h
set_option maxHeartbeats 2000000 in
theorem Jv.toOb (C : Kc M Q P) (h : Jv d P E) (op n m : Int) (a : Nat) (hn : op ≠ 10 → op ≠ 24 → 0 ≤ n) (h255 : n ≤ 255) (ha : E.err = 0 → zc3 E.now op a = true) : Jv d P (E.toOb op n m a) := by
 have hs : op ≠ 9 → E.err = 0 → a < E.now.objs.length ∧ gt (rowAt E.now.objs a) 3 = 8 := fun h9 he => ⟨(zi0 (ha he)).1, (zi0 (ha he)).2 h9⟩
 have hw : op ≠ 9 → E.err = 0 → 0 ≤ gt (rowAt E.now.objs a) 10 ∧ gt (rowAt E.now.objs a) 10 ≤ 255 := fun h9 he => (h.1.err he).right.num (hs h9 he).1 (f := 10) (by decide)
 unfold Em.toOb
 split
 · rename_i e; subst e; exact h.add C a 6 n (hs (by decide)) (by have := hn (by decide) (by decide); omega)
 split
 · exact h.put C _ _
 split
 · exact h.put C _ _
 split
 · exact h.put C _ _
 split
 · rename_i e; subst e
   exact (h.add C a 8 n (hs (by decide)) (by omega)).add C a 9 m (zgm h a 8 n (by omega) (hs (by decide))) (by omega)
 split
 · rename_i e; subst e; exact h.add C a 7 n (hs (by decide)) (by have := hn (by decide) (by decide); omega)
 split
 · rename_i e; subst e; rw [show (4 : Int) = ((4 : Nat) : Int) from rfl]; exact h.setObj C a 4 1 (hs (by decide)) (by omega) (fun _ => ⟨by show (0 : Int) ≤ 1; decide, by show (1 : Int) ≤ 1; decide⟩)
 split
 · rename_i e; subst e; rw [show (4 : Int) = ((4 : Nat) : Int) from rfl]; exact h.setObj C a 4 0 (hs (by decide)) (by omega) (fun _ => ⟨by show (0 : Int) ≤ 0; decide, by show (0 : Int) ≤ 1; decide⟩)
 split
 · rename_i e; subst e
   rw [show E.setObj (a : Int) 10 = E.setObj (a : Int) ((10 : Nat) : Int) from rfl]
   refine h.setObj C a 10 _ (hs (by decide)) (by omega) (fun he => ?_)
   exact ygu _ _ (hw (by decide) he) ⟨hn (by decide) (by decide), h255⟩
 split
 · rename_i e; subst e
   rw [show E.setObj (a : Int) 10 = E.setObj (a : Int) ((10 : Nat) : Int) from rfl]
   refine h.setObj C a 10 _ (hs (by decide)) (by omega) (fun he => ?_)
   exact ybo _ _ (hw (by decide) he)
 split
 · rename_i e; subst e
   exact (h.add C a 8 _ (hs (by decide)) (by omega)).add C a 9 _ (zgm h a 8 _ (by omega) (hs (by decide))) (by omega)
 · exact h
theorem Jv.leafP (C : Kc M Q P) (op n m ctl : Int) (hm : op = 14 → M) (hc : op = 18 ∨ op = 19 → Q 23) (hq : ∀ q, q < 18 → Q q) : ∀ (l : List Int) {E : Em}, Jv d P E → Jv d P (E.leafP op n m ctl l)
 | [], _, h => h
 | p :: l, E, h => by
   show Jv d P ((if E.err ≠ 0 then E else E.toPl op n m ctl p.toNat).leafP op n m ctl l)
   refine Jv.leafP C op n m ctl hm hc hq l ?_
   split
   · exact h
   · exact h.toPl C op n m ctl _ hm hc hq
theorem zwc {S : St} {op who src tgt : Int} {a : Nat} (h : zmr S op who src tgt = some a) : zc3 S op a = true := by
 unfold zmr at h
 split at h
 · cases h
 · rename_i id _
   split at h
   · rename_i hb
     injection h with h
     have h0 : 0 ≤ id := by
      unfold zc3 at hb
      split at hb
      · cases hb
      · omega
     rw [← h, Int.toNat_of_nonneg h0]; exact hb
   · cases h
theorem ybp (op who src tgt : Int) : zmr St0 op who src tgt = none := by
 unfold zmr
 split
 · rfl
 · rename_i id _
   have : zc3 St0 op id = false := by
    unfold zc3
    rw [if_pos (by rintro ⟨h1, h2⟩; have h2 : id < ((0 : Nat) : Int) := h2; omega)]
   rw [this]; rfl
theorem Jv.leaf (C : Kc M Q P) (h : Jv d P E) (op n m who : Int) (x : Ctx) (hn : op ≠ 10 → op ≠ 24 → 0 ≤ n) (h255 : n ≤ 255) (hm : op = 14 → M) (hc : op = 18 ∨ op = 19 → Q 23) (hq : ∀ q, q < 18 → Q q) : Jv d P (E.leaf op n m who x) := by
 have h1 := Jv.leafP C op n m x.ctl hm hc hq (whomL who x.ctl x.tgt) h
 unfold Em.leaf
 generalize E.leafP op n m x.ctl (whomL who x.ctl x.tgt) = F at *
 unfold Em.leafO
 split
 · exact h1
 · rename_i a ha
   refine h1.toOb C op n m a hn h255 (fun he => ?_)
   have := zwc ha
   unfold Em.state at this
   rwa [if_neg (by rw [he]; simp)] at this
theorem Jv.eachOf (h : Jv d P E) {f : Ctx → Em → Em} (hf : ∀ (x : Ctx) {E : Em}, Jv d P E → Jv d P (f x E)) (x : Ctx) (id : Int) : Jv d P (eachOf f x E id) := by
 unfold Go.Proofs.YthfalocligkamaaGreatDoor.eachOf
 split
 · exact h
 split
 · exact hf _ h
 · exact h
theorem Jv.fold {α : Type} {g : Em → α → Em} : ∀ (l : List α) {E : Em}, (∀ a, a ∈ l → ∀ {E : Em}, Jv d P E → Jv d P (g E a)) → Jv d P E → Jv d P (l.foldl g E)
 | [], _, _, h => h
 | a :: l, _, hg, h => Jv.fold l (fun b hb => hg b (by simp [hb])) (hg a (by simp) h)
theorem zvp {op : Int} {l : List Eff} {e : Eff} (he : e ∈ l) (h : e.has op = true) : hassE op l = true := by
 induction l with
 | nil => cases he
 | cons a l ih =>
   rw [hassE, Bool.or_eq_true]
   rcases List.mem_cons.1 he with rfl | he
   · exact Or.inl h
   · exact Or.inr (ih he)
theorem zo4 {o op n m who : Int} {a : Option Addr} {c : Nat} {l : List Eff} {e : Eff} (he : e ∈ l) (h : e.has o = true) : (Eff.mk op n m who a c l).has o = true := by
 rw [Eff.has, Bool.or_eq_true]; exact Or.inr (zvp he h)
theorem zo3 {op n m who : Int} {a : Option Addr} {c : Nat} {l : List Eff} : (Eff.mk op n m who a c l).has op = true := by rw [Eff.has]; simp
theorem zlr {l : List Eff} (hl : ∀ e, e ∈ l → ∀ (x : Ctx) {E : Em}, Jv d P E → Jv d P (e.run x E)) (i : Nat) (x : Ctx) {E : Em} (h : Jv d P E) : Jv d P (((l.map Eff.run).getD i fun _ E => E) x E) := by
 by_cases hi : i < l.length
 · have : (l.map Eff.run).getD i (fun _ E => E) = l[i].run := by simp [List.getD, hi]
   rw [this]
   exact hl _ (List.getElem_mem hi) x h
 · have : (l.map Eff.run).getD i (fun _ E => E) = fun _ E => E := by simp [List.getD, hi]
   rw [this]; exact h
theorem Jv.run (C : Kc M Q P) (hq : ∀ q, q < 18 → Q q) : ∀ (e : Eff), e.Ok → (e.has 14 = true → M) → (e.has 18 = true ∨ e.has 19 = true → Q 23) → ∀ (x : Ctx) {E : Em}, Jv d P E → Jv d P (e.run x E)
 | .mk op n m who a c l, ok, hm, hc, x, E, h => by
   rcases ok with ⟨h0, hn, hm', hp, hw, hl, hi, h8, hs⟩
   have hsub : ∀ e, e ∈ l → ∀ (x : Ctx) {E : Em}, Jv d P E → Jv d P (e.run x E) := fun e he x E h =>
    Jv.run C hq e (hs e he) (fun h => hm (zo4 he h)) (fun h => hc (h.imp (zo4 he) (zo4 he))) x h
   rw [Eff.run_mk]
   unfold doF
   split
   · exact h
   split
   · exact Jv.fold _ (fun id _ E h => h.eachOf (fun x E h => zlr hsub 0 x h) x id) h
   split
   · rw [List.foldl_map]
     exact Jv.fold _ (fun e he E h => hsub e he x h) h
   split
   · split
     · exact zlr hsub 0 x h
     · exact zlr hsub 1 x h
   · refine h.leaf C op n m who x (fun a b => (hp a b).1) hn.2 (fun e => hm (by rw [← e]; exact zo3)) (fun e => hc ?_) hq
     rcases e with e | e
     · exact Or.inl (by rw [← e]; exact zo3)
     · exact Or.inr (by rw [← e]; exact zo3)
theorem Jv.fail (h : Jv d P E) (n : Int) : Jv d P (E.fail n) := ⟨h.1.fail n, h.2.fail n⟩
theorem Eff.run_err (e : Eff) (x : Ctx) {E : Em} (h : E.err ≠ 0) : e.run x E = E := by
 cases e
 rw [Eff.run_mk]; unfold doF; rw [if_pos h]
theorem Jv.exec (C : Kc M Q P) (hq : ∀ q, q < 18 → Q q) (e : Eff) (x : Ctx) (hm : e.has 14 = true → M) (hc : e.has 18 = true ∨ e.has 19 = true → Q 23) (h : Jv d P E) : Jv d P (E.exec e x) := by
 by_cases he : E.err = 0
 · unfold Em.exec
   rw [if_neg (by rw [he]; simp)]
   simp only
   have h1 := h.fail (e.check x.kind)
   have h2 : Jv d P (if x.ctl = 0 ∨ x.ctl = 1 then E.fail (e.check x.kind) else (E.fail (e.check x.kind)).fail 1) := by split; exact h1; exact h1.fail 1
   by_cases hk : e.check x.kind = 0
   · have hok : e.Ok := by
      unfold Eff.check at hk
      split at hk
      · cases hk
      · exact Eff.ok_of e _ _ hk
     generalize (if x.ctl = 0 ∨ x.ctl = 1 then E.fail (e.check x.kind) else (E.fail (e.check x.kind)).fail 1) = F at *
     refine Jv.run C hq e hok hm hc x ?_
     split
     · exact h2.fail 11
     · exact h2
   · have h3 : (E.fail (e.check x.kind)).err ≠ 0 := by unfold Em.fail; rw [if_pos he]; exact hk
     generalize E.fail (e.check x.kind) = F at *
     have h4 : ∀ n, F.fail n = F := fun n => by unfold Em.fail; rw [if_neg h3]
     rw [h4, ite_self, h4, ite_self, Eff.run_err e x h3]
     exact .bad h3
 · unfold Em.exec
   rw [if_pos he]; exact h
end
theorem ztt : Right St0 := (zb1 St0).1 (by decide +kernel)
theorem Oq.right {d : List Int} {E : Em} (h : Oq d E) : Right E.state := by
 unfold Em.state
 rcases h.1 with h | h
 · rw [if_pos h]; exact ztt
 · rw [if_neg (by rw [h.err]; simp)]; exact h.right
theorem Oq.rs {d : List Int} {E : Em} (h : Oq d E) {w : World} {V : SV} (G : Glob w) (R : RepSt w V E.state) : RS E.state V w := ⟨R, h.right, h.right.smallN.small (by omega), G⟩
structure Stay (S : St) (mk cur : Prop) (T : St) : Prop where
 len : S.objs.length ≤ T.objs.length
 wid : ze3 T
 same : ∀ i, i < S.objs.length → ∀ f, f = 0 ∨ f = 1 ∨ f = 13 → gt (rowAt T.objs i) f = gt (rowAt S.objs i) f
 more : ¬ mk → T.objs.length = S.objs.length
 cur : ¬ cur → T.num 23 = S.num 23
theorem z8f (S : St) (mk cur : Prop) : Kc mk (fun q => q ≠ 23 ∨ cur) (Stay S mk cur) := by
 refine ⟨?_, ?_, ?_, ?_⟩
 · exact fun {T} a f v h hf => by
    by_cases ha : a < T.objs.length
    · refine ⟨by rw [zcb]; exact h.len, zhv h.wid a f v ha, fun i hi g hg => ?_, fun hm => by rw [zcb]; exact h.more hm, h.cur⟩
      rw [zeq _ _ _ _ _ ha]
      split
      · rename_i e
        subst e
        by_cases h18 : f < 18
        · rw [zdr _ _ _ _ (by rw [h.wid _ ha]; omega), if_neg (by omega)]; exact h.same _ hi g hg
        · rw [List.set_eq_of_length_le (by rw [h.wid _ ha]; omega)]; exact h.same _ hi g hg
      · exact h.same i hi g hg
    · have : T.setObj a f v = T := by
       unfold St.setObj
       rw [List.set_eq_of_length_le (by omega)]
      rw [this]; exact h
 · exact fun {T} q v h hq => ⟨h.len, h.wid, h.same, h.more, fun hc => by
    show upd T.num q v 23 = _
    unfold upd
    rw [if_neg (by rcases hq with hq | hq; exact fun e => hq e.symm; exact absurd hq hc)]
    exact h.cur hc⟩
 · exact fun {T} a b c d e h => by
    have hl : (zbj T a b c d e).objs.length = T.objs.length := by unfold zbj; simp
    have hr : ∀ i, rowAt (zbj T a b c d e).objs i = if a = i ∧ a < T.objs.length then (rowAt T.objs a).set 3 (d : Int) else rowAt T.objs i := fun i => by
     unfold zbj
     simp only
     by_cases ha : a < T.objs.length
     · rw [zbu _ _ _ _ ha]
       by_cases hi : a = i
       · rw [if_pos hi, if_pos ⟨hi, ha⟩]
       · rw [if_neg hi, if_neg (fun h => hi h.1)]
     · rw [List.set_eq_of_length_le (by omega), if_neg (fun h => ha h.2)]
    refine ⟨by rw [hl]; exact h.len, fun i hi => ?_, fun i hi g hg => ?_, fun hm => by rw [hl]; exact h.more hm, h.cur⟩
    · rw [hl] at hi
      rw [hr]; split
      · rename_i e; rw [List.length_set]; exact h.wid _ e.2
      · exact h.wid i hi
    · rw [hr]; split
      · rename_i e
        rw [zdr _ _ _ _ (by rw [h.wid _ e.2]; omega), if_neg (by omega), e.1]
        exact h.same i hi g hg
      · exact h.same i hi g hg
 · exact fun hm {T} c o k h => by
    refine ⟨by show _ ≤ (T.objs ++ _).length; rw [List.length_append]; have := h.len; omega, fun i hi => ?_, fun i hi g hg => ?_, fun hn => absurd hm hn, h.cur⟩
    · show (rowAt (T.objs ++ _) i).length = 18
      have hi : i < (T.objs ++ [_]).length := hi
      rw [List.length_append, List.length_singleton] at hi
      by_cases hl : i < T.objs.length
      · rw [show rowAt (T.objs ++ _) i = rowAt T.objs i by simp [rowAt, List.getD, List.getElem?_append_left hl]]
        exact h.wid i hl
      · have : i = T.objs.length := by omega
        subst this
        simp [rowAt, List.getD]
    · show gt (rowAt (T.objs ++ _) i) g = _
      have hl := h.len
      rw [show rowAt (T.objs ++ _) i = rowAt T.objs i by simp [rowAt, List.getD, List.getElem?_append_left (show i < T.objs.length by omega)]]
      exact h.same i hi g hg
end Go.Proofs.YthfalocligkamaaGreatDoor
namespace Go.Proofs.YthfalocligkamaaGreatDoor
open Go Go.RowKit Go.Shelf
theorem zvt {op n m who : Int} {len : Nat} {s0 tg d : Int} (h : zgd op n m who len s0 tg (d + 1) = 0) : zgd op n m who len s0 tg d = 0 := by
 have h8 := (zvu h).2.1
 unfold zgd at h ⊢
 rw [if_neg (show ¬ 8 < d + 1 by omega)] at h
 rw [if_neg (show ¬ 8 < d by omega)]
 exact h
theorem zuy (l : List Eff) (hl : ∀ e, e ∈ l → ∀ tg d, e.chk tg (d + 1) = 0 → e.chk tg d = 0) (all : Bool) (tg d : Int) (h : zds l all tg (d + 1) = 0) : zds l all tg d = 0 := by
 induction l with
 | nil => rw [zds]
 | cons a l ih =>
   rw [zfr] at h ⊢
   split at h
   · rename_i h1; exact absurd h h1
   · rename_i h1
     rw [if_neg (fun h => h (hl a (by simp) tg d (Decidable.not_not.1 h1)))]
     split at h
     · cases h
     · rename_i h2
       rw [if_neg h2]
       exact ih (fun e he => hl e (by simp [he])) h
theorem Eff.chk_mono : ∀ (e : Eff) (tg d : Int), e.chk tg (d + 1) = 0 → e.chk tg d = 0
 | .mk op n m who a c l, tg, d, h => by
   rw [Eff.chk_mk] at h ⊢
   split at h
   · rename_i h1; exact absurd h h1
   · rename_i h1
     rw [if_neg (fun h => h (zvt (Decidable.not_not.1 h1)))]
     exact zuy l (fun e he tg d h => Eff.chk_mono e tg d h) _ _ _ h
def Eff.two (e : Eff) (a : Option Addr) (c : Nat) : Eff := .mk 21 0 0 0 a c [e, e]
theorem zx5 {e : Eff} {a : Option Addr} {c : Nat} {k : Int} (h : (e.two a c).check k = 0) : e.check k = 0 := by
 unfold Eff.check at h ⊢
 split at h
 · cases h
 · rename_i hk
   rw [if_neg hk]
   unfold Eff.two at h
   rw [Eff.chk_mk] at h
   split at h
   · rename_i h1; exact absurd h h1
   · have := zqe _ _ _ _ h e (by simp)
     rw [if_neg (by decide)] at this
     exact Eff.chk_mono e k 1 this
theorem zv6 (n : Nat) : Kc True (fun _ => True) (fun T => n ≤ T.objs.length) := by
 refine ⟨?_, ?_, ?_, ?_⟩
 · exact fun a f v h _ => by rw [zcb]; exact h
 · exact fun _ _ h _ => h
 · exact fun a b c d e h => by unfold zbj; simpa using h
 · exact fun _ {T} c o k h => by show n ≤ (T.objs ++ _).length; rw [List.length_append]; omega
theorem z0c {E : Em} (h : E.err = 0) : E.fail 0 = E := by unfold Em.fail; rw [if_pos h]; cases E; simp only at h; rw [h]
theorem z0b {d : List Int} {E : Em} (hE : Oq d E) (e : Eff) (a : Option Addr) (c : Nat) (x : Ctx) (h : (e.two a c).check x.kind = 0) : E.exec (e.two a c) x = (E.exec e x).exec e x := by
 have h2 := zx5 h
 by_cases he : E.err = 0
 · have hx : ∀ (F : Em) (g : Eff), F.err = 0 → g.check x.kind = 0 → F.exec g x = g.run x (if x.kind ≠ 0 ∧ ¬ (x.tgt = -1 ∨ x.tgt = -2) ∧ (x.tgt ≤ 0 ∨ ((if x.ctl = 0 ∨ x.ctl = 1 then F else F.fail 1).state.objs.length : Int) < x.tgt) then (if x.ctl = 0 ∨ x.ctl = 1 then F else F.fail 1).fail 11 else (if x.ctl = 0 ∨ x.ctl = 1 then F else F.fail 1)) := fun F g hF hg => by
    unfold Em.exec
    rw [if_neg (by rw [hF]; simp), hg, z0c hF]
   rw [hx E _ he h, hx E e he h2]
   by_cases hc : x.ctl = 0 ∨ x.ctl = 1
   · simp only [if_pos hc]
     by_cases ht : x.kind ≠ 0 ∧ ¬ (x.tgt = -1 ∨ x.tgt = -2) ∧ (x.tgt ≤ 0 ∨ (E.state.objs.length : Int) < x.tgt)
     · rw [if_pos ht]
       have hb := zb5 E 11 (by decide)
       rw [Eff.run_err _ x hb, Eff.run_err _ x hb]
       unfold Em.exec
       rw [if_pos hb]
     · rw [if_neg ht]
       have hr : (e.two a c).run x E = e.run x (e.run x E) := by
        unfold Eff.two
        rw [Eff.run_mk]
        unfold doF
        rw [if_neg (by rw [he]; simp), if_neg (by decide), if_pos rfl]
        rfl
       rw [hr]
       have hok : e.Ok := by
        unfold Eff.check at h2
        split at h2
        · cases h2
        · exact Eff.ok_of e _ _ h2
       have hJ : Jv d (fun T => E.now.objs.length ≤ T.objs.length) (e.run x E) := Jv.run (zv6 _) (fun _ _ => trivial) e hok (fun _ => trivial) (fun _ => trivial) x ⟨hE, Or.inr (Nat.le_refl _)⟩
       by_cases hr0 : (e.run x E).err = 0
       · have hlen := hJ.2.resolve_left (fun h => h hr0)
         rw [hx _ e hr0 h2]
         simp only [if_pos hc]
         rw [if_neg]
         have s1 : E.state = E.now := by unfold Em.state; rw [if_neg (by rw [he]; simp)]
         have s2 : (e.run x E).state = (e.run x E).now := by unfold Em.state; rw [if_neg (by rw [hr0]; simp)]
         rw [s1] at ht
         rw [s2]
         rintro ⟨t1, t2, t3⟩
         refine ht ⟨t1, t2, ?_⟩
         omega
       · rw [Eff.run_err _ x hr0]
         unfold Em.exec
         rw [if_pos hr0]
   · simp only [if_neg hc]
     have hb := zb5 E 1 (by decide)
     have h4 : ∀ n, (E.fail 1).fail n = E.fail 1 := fun n => by unfold Em.fail; rw [if_neg (show ¬ (if E.err = 0 then _ else E : Em).err = 0 from hb)]
     rw [h4, ite_self, Eff.run_err _ x hb, Eff.run_err _ x hb]
     unfold Em.exec
     rw [if_pos hb]
 · have : ∀ g : Eff, E.exec g x = E := fun g => by unfold Em.exec; rw [if_pos he]
   rw [this, this, this]
end Go.Proofs.YthfalocligkamaaGreatDoor
namespace Go.Proofs.YthfalocligkamaaGreatDoor
open Go Go.RowKit Go.Shelf
theorem z7f {S : St} (h : zbn S = 0) (hw : ze3 S) (d : List Int) : Out S.objs.length 0 0 d (Em.new S d) := by
 unfold Em.new Em.fail
 rw [h, if_pos rfl]
 by_cases hd : 4096 < d.length
 · rw [if_pos hd]; exact Or.inl (by show (19 : Int) ≠ 0; decide)
 · rw [if_neg hd]; exact Or.inr ⟨rfl, (zb1 S).1 h, hw, Nat.le_refl _, Nat.le_refl _, rfl, Nat.le_refl _⟩
end Go.Proofs.YthfalocligkamaaGreatDoor
namespace Go.Proofs.YthfalocligkamaaGreatDoor
open Go Go.RowKit Go.Shelf
theorem z7e (S : St) (d : List Int) : (Em.new S d).now = S := by unfold Em.new Em.fail; split <;> rfl
theorem z7c {S : St} (h : zbn S ≠ 0) (d : List Int) : (Em.new S d).err ≠ 0 := by
 unfold Em.new Em.fail
 show (if zbn S = 0 then (⟨S, d, [], [], if 4096 < d.length then 19 else 0⟩ : Em) else ⟨S, d, [], [], zbn S⟩).err ≠ 0
 rw [if_neg h]
 exact h
theorem zqt {S : St} (hw : ze3 S) (d : List Int) : Oq d (Em.new S d) := by
 by_cases h : zbn S = 0
 · rcases z7f h hw d with hb | g
   · exact .bad hb
   · have h1 := g.evs
     have h2 := g.pend
     exact ⟨Or.inr ⟨g.err, g.right, g.wid, by omega, by omega, g.draws⟩, Or.inr (by omega)⟩
 · exact .bad (z7c h d)
theorem Oq.exec {d : List Int} {E : Em} (h : Oq d E) (e : Eff) (x : Ctx) : Oq d (E.exec e x) :=
 (Jv.exec (zv6 0) (fun _ _ => trivial) e x (fun _ => trivial) (fun _ => trivial) ⟨h, Or.inr (Nat.zero_le _)⟩).1
theorem Oq.check {d : List Int} {E : Em} (h : Oq d E) (he : E.err = 0) : zbn E.now = 0 := (zb1 _).2 (h.err he).right
theorem zpq {S : St} (hw : ze3 S) (d : List Int) (e : Eff) (x : Ctx) (h : ((Em.new S d).exec e x).err = 0) :
 zbn ((Em.new S d).exec e x).now = 0 ∧ Stay S (e.has 14 = true) (e.has 18 = true ∨ e.has 19 = true) ((Em.new S d).exec e x).now := by
 have J := Jv.exec (z8f S (e.has 14 = true) (e.has 18 = true ∨ e.has 19 = true)) (fun q hq => Or.inl (by omega)) e x (fun h => h) (fun h => Or.inr h)
  (show Jv d _ (Em.new S d) from ⟨zqt hw d, Or.inr (by rw [z7e]; exact ⟨Nat.le_refl _, hw, fun _ _ _ _ => rfl, fun _ => rfl, fun _ => rfl⟩)⟩)
 exact ⟨J.1.check h, J.2.resolve_left (fun hn => hn h)⟩
def d1X (a : Option Addr) (c : Nat) : Eff := .mk 20 0 0 0 a c [.mk 1 2 0 2 none 0 []]
def d1F2 : Em := d1E.exec (d1X none 0) ⟨0, 0, 0, 0⟩
theorem z56 : d1F2.err = 0 ∧ d1F2.now.objs.length = 2 ∧ gt (rowAt d1F2.now.objs 0) 6 = 2 ∧ gt (rowAt d1F2.now.objs 1) 6 = 2 := by decide +kernel
end Go.Proofs.YthfalocligkamaaGreatDoor
