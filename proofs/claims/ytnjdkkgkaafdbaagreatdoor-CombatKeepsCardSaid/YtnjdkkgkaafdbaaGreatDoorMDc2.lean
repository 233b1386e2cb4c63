/-
  Declaring blockers: the plain law, and the program's Defend.
-/
import Derived.Test.YtnjdkkgkaafdbaaGreatDoorMChk24
import Derived.Test.YtnjdkkgkaafdbaaGreatDoorMComb
namespace Go.Proofs.YtnjdkkgkaafdbaaGreatDoor
open Go Go.RowKit Go.Shelf
attribute [local go_sem] Oper.semAt_some

/-! ### The plain law -/
/-- What is refused of a blocker. -/
def codeD (S : St) (l seen : List Int) (m : Nat) : Int := firstOf (firstOf (firstOf (codeW S (gt l (2 * m)) (1 - S.num 19)) (if (!decide (gt l (2 * m) ∈ seen)) = true then 0 else 8)) (if attacksB S (gt l (2 * m + 1)) = true then 0 else 11)) (if stopsB S (gt l (2 * m)) (gt l (2 * m + 1)) = true then 0 else 6)
def defF (S : St) (l : List Int) (st : Int × List Int) (m : Nat) : Int × List Int := (firstOf st.1 (codeD S l st.2 m), st.2 ++ [gt l (2 * m)])
/-- What is refused of blockers, and who they are. -/
def defS (S : St) (l : List Int) (pre : List Nat) : Int × List Int := pre.foldl (defF S l) (0, [])
theorem defS_snoc (S : St) (l : List Int) (pre : List Nat) (m : Nat) : defS S l (pre ++ [m]) = defF S l (defS S l pre) m := by
  unfold defS; rw [List.foldl_append]; rfl
theorem defS_seen (S : St) (l : List Int) (pre : List Nat) : (defS S l pre).2 = pre.map fun m => gt l (2 * m) := by
  have key : ∀ (pre : List Nat) (st : Int × List Int), (pre.foldl (defF S l) st).2 = st.2 ++ pre.map fun m => gt l (2 * m) := by
    intro pre
    induction pre with
    | nil => intro st; simp
    | cons m pre ih => intro st; rw [List.foldl_cons, ih]; simp [defF]
  exact (key pre (0, [])).trans (by simp)
theorem defS_zero (S : St) (l : List Int) : ∀ (n : Nat), (defS S l (List.range n)).1 = 0 → ∀ k, k < n → codeD S l ((List.range k).map fun m => gt l (2 * m)) k = 0
  | 0, _, k, hk => absurd hk (by omega)
  | n + 1, h, k, hk => by
    rw [List.range_succ, defS_snoc] at h
    obtain ⟨h1, h2⟩ := firstOf_z h
    by_cases e : k = n
    · rw [e, ← defS_seen S l]; exact h2
    · exact defS_zero S l n h1 k (by omega)
theorem defS_stays (S : St) (l : List Int) (k : Nat) (h : (defS S l (List.range k)).1 ≠ 0) : ∀ n, k ≤ n → (defS S l (List.range n)).1 = (defS S l (List.range k)).1
  | 0, hn => by rw [show k = 0 by omega]
  | n + 1, hn => by
    by_cases e : k = n + 1
    · rw [e]
    · have := defS_stays S l k h n (by omega)
      rw [List.range_succ, defS_snoc]
      show firstOf (defS S l (List.range n)).1 _ = _
      rw [this]; exact if_neg h
/-- Blockers, declared. -/
def Em.blocks (E : Em) (l : List Int) : Nat → Em
  | 0 => E
  | k + 1 => (E.blocks l k).setObj (gt l (2 * k)) 12 (gt l (2 * k + 1) + 1)
def Em.odd (E : Em) (l : List Int) : Em := if l.length % 2 = 0 then E else E.fail 2
/-- What declaring blockers does. -/
def Em.defend (E : Em) (S : St) (l : List Int) : Em :=
  if ((E.odd l).fail (defS S l (List.range ((l.length + 1) / 2))).1).err = 0 then E.blocks l ((l.length + 1) / 2) else (E.odd l).fail (defS S l (List.range ((l.length + 1) / 2))).1
theorem defend_facts {S : St} {l seen : List Int} {k : Nat} (h : codeD S l seen k = 0) : creatureB S (gt l (2 * k)) = true ∧ attacksB S (gt l (2 * k + 1)) = true := by
  obtain ⟨h1, _⟩ := firstOf_z h
  obtain ⟨h2, h3⟩ := firstOf_z h1
  obtain ⟨h4, _⟩ := firstOf_z h2
  refine ⟨codeW_z h4, ?_⟩
  cases ha : attacksB S (gt l (2 * k + 1)) with
  | true => rfl
  | false => rw [ha] at h3; simp at h3
theorem attacksB_creature {S : St} {a : Int} (h : attacksB S a = true) : creatureB S a = true := by
  unfold attacksB at h
  exact (Bool.and_eq_true_iff.1 h).1
theorem Fi.block {S : St} {m : Nat} {E : Em} (hS : Right S) (h : Fi S m E) (hm : m + 1 ≤ 65536) {id a : Int} (hc : creatureB S id = true) (ha : attacksB S a = true) : Fi S (m + 1) (E.setObj id 12 (a + 1)) := by
  obtain ⟨c1, c2, c3, _⟩ := creatureB_in hc
  obtain ⟨a1, a2, _, _⟩ := creatureB_in (attacksB_creature ha)
  obtain ⟨d, rfl⟩ := Int.eq_ofNat_of_zero_le c1
  rw [Int.toNat_natCast] at c3
  have h4 := hS.many
  have e2 : gt (objBounds S.objs.length) (12 * 2) = 0 ∧ gt (objBounds S.objs.length) (12 * 2 + 1) = S.objs.length := ⟨rfl, rfl⟩
  exact (h.set (by omega) d 12 (a + 1) (by omega) c3 (by omega) (by omega) (by omega)).1
/-! ### Failing, told finely: nothing but the emitter's own block is written -/
def FailPost (w : World) (b : Nat) (own : Nat → Prop) (E : Em) (w' : World) : Prop := Emt w' b own E ∧ Kept (fun k => k = b) w w'
theorem FailPost.of_grow {w w' : World} {b : Nat} {own : Nat → Prop} {E : Em} (h : Emt w b own E) (g : Grow w w') : FailPost w b own E w' := ⟨h.grow g, g.kept _⟩
theorem FailPost.low {w w1 w2 : World} {b : Nat} {own : Nat → Prop} {E : Em} (g : Grow w w1) (h : FailPost w1 b own E w2) : FailPost w b own E w2 := ⟨h.1, (g.kept _).trans h.2 (fun _ _ h => h)⟩
theorem FailPost.more {w w1 w2 : World} {b : Nat} {own : Nat → Prop} {E : Em} (h : FailPost w b own E w1) (g : Grow w1 w2) : FailPost w b own E w2 := ⟨h.1.grow g, h.2.trans (g.kept _) (fun _ _ h => h)⟩
theorem FailPost.trans {w w1 w2 : World} {b : Nat} {own : Nat → Prop} {E1 E2 : Em} (h : FailPost w b own E1 w1) (g : FailPost w1 b own E2 w2) : FailPost w b own E2 w2 := ⟨g.1, h.2.trans g.2 (fun _ _ h => h)⟩
theorem Emt.setErrF {w w' : World} {b : Nat} {own : Nat → Prop} {V : SV} {sd se sp : Sl} {E : Em} (h : RepE w b V sd se sp E) (ho : ∀ k, own k ↔ emOwn b V sd se sp k) (m : Int) (g : Grow (w.setRow b (hoA V E.now.num (emR sd se sp m))) w') : FailPost w b own { E with err := m } w' :=
  ⟨⟨V, sd, se, sp, (h.setErr m).kept (g.kept (fun _ => False)) (fun _ _ h => h), ho⟩, ((Kept.refl (fun k => k = b) w).setRow b _ (fun _ => rfl)).trans (o2 := fun _ => False) (g.kept _) (fun _ _ h => h.elim)⟩
set_option maxRecDepth 100000 in
set_option maxHeartbeats 2000000 in
theorem fail_fine (w : World) (b : Nat) (own : Nat → Prop) (E : Em) (R : Emt w b own E) (n : Int) (hn : n ≠ 0) :
    Calls Tryz.prog 45 #[.pointer (some ⟨b, 0, none⟩), .iface 93 (.int .i64 n)] w fun e w' => e = .returned (.tuple #[]) ∧ FailPost w b own (E.fail n) w' := by
  have HR0 := Lib.hid R
  obtain ⟨V, sd, se, sp, hr, ho⟩ := R
  have hH := hr.host
  have hcell := cell_of_blk (hH).free (hH).blk; have hfz := frozen_of_free (hH).free; have hset := setCell_of_blk (hH).free (hH).blk; have hblk := (hH).blk; have hfree := (hH).free; have hlt := (hH).lt; have hne1 : ¬ b = (w).heap.size := (by omega); have hne2 : ¬ (w).heap.size = b := (by omega)
  have hc40 := hr.errCell
  have HR := Lib.hid hr
  have HO := Lib.hid ho
  clear hr ho hH hblk
  unfold Em.fail
  by_cases he : E.err = 0
  · rw [he, errV_0] at hc40
    have hs := hset 40 (errV n)
    rw [hoA_s40] at hs
    rw [if_pos he]
    clear hset hcell he
    rw [errV_is hn] at hs
    go_enter Tryz.func45, Tryz.ntmps45
    go_wp2_with fail
    go_end0
    exact ⟨rfl, Emt.setErrF HR.out HO.out _ grI⟩
  · rw [errV_is he] at hc40
    rw [if_neg he]
    clear hset hcell he
    go_enter Tryz.func45, Tryz.ntmps45
    go_wp2_with fail
    go_end0
    exact ⟨rfl, .of_grow HR0.out grI⟩
theorem cmust_fine (w : World) (b : Nat) (own : Nat → Prop) (E : Em) (R : Emt w b own E) (ok : Bool) (k : Int) (hk : k ≠ 0) :
    Calls Tryz.prog 58 #[.pointer (some ⟨b, 0, none⟩), .bool ok, .int .i64 k] w fun r w' => r = .returned (.tuple #[]) ∧ FailPost w b own (E.fail (if ok = true then 0 else k)) w' := by
  cases ok with
  | true =>
    rw [if_pos rfl, fail_z]
    refine (cmust_yes w _ k).mono ?_
    rintro r w' ⟨rfl, g⟩
    exact ⟨rfl, .of_grow R g⟩
  | false =>
    rw [if_neg (by simp)]
    have HF := Lib.hid (fun W (g : Grow w W) => fail_fine W b own E (R.grow g) k hk)
    clear R
    go_enter Tryz.func58, Tryz.ntmps58
    go_wp2_with fail
    refine (HF.out _ grI).mono ?_
    rintro e' w2 ⟨rfl, hE⟩
    have HE := Lib.hid (FailPost.low grI hE : FailPost w b own (E.fail k) w2)
    clear hE
    go_wp2_with fail
    go_end0
    exact ⟨rfl, HE.out.more grI⟩
/-- A right state in memory, off which an emitter's block stands. -/
structure Off24 (w : World) (b : Nat) (S : St) (V : SV) : Prop where
  rs : RS S V w
  ap : ∀ k, V.uses k → k ≠ b ∧ k < w.heap.size
  vars : ∀ k, (k = 0 ∨ k = 1 ∨ k = 2) → k ≠ b
theorem Off24.turn {w w' : World} {b : Nat} {S : St} {V : SV} (h : Off24 w b S V) (k : Kept (fun k => k = b) w w') : Off24 w' b S V := by
  obtain ⟨s1, s2, s3⟩ := h.rs.glob.size
  have hs := k.size
  exact ⟨⟨h.rs.rep.kept k (fun j hj => (h.ap j hj).1), h.rs.right, h.rs.small, ⟨⟨by omega, by omega, by omega⟩, by rw [k.blk _ s1 (h.vars _ (.inl rfl)), h.rs.glob.resting], by rw [k.blk _ s2 (h.vars _ (.inr (.inl rfl))), h.rs.glob.flag], by rw [k.blk _ s3 (h.vars _ (.inr (.inr rfl))), h.rs.glob.any]⟩⟩, fun j hj => ⟨(h.ap j hj).1, Nat.lt_of_lt_of_le (h.ap j hj).2 hs⟩, h.vars⟩
set_option maxRecDepth 100000 in
set_option maxHeartbeats 2000000 in
theorem whose_fine (w : World) (b : Nat) (own : Nat → Prop) (E : Em) (R : Emt w b own E) (S : St) (V : SV) (D : Off24 w b S V) (id pl : Int) :
    Calls Tryz.prog 57 #[.pointer (some ⟨b, 0, none⟩), .agg (stA V S.num), .int .i64 id, .int .i64 pl] w fun r w' => r = .returned (.tuple #[]) ∧ FailPost w b own (E.fail (codeW S id pl)) w' := by
  have HI := Lib.hid (fun W (g : Grow w W) => is_any S V W (D.rs.grow g) id)
  have HW : Hid (E.fail (codeW S id pl) = (E.fail (if creatureB S id = true then 0 else 12)).fail (if (!creatureB S id || fldN S id 2 == pl) = true then 0 else 9)) := (fail_fail _ _ _).symm
  have HM := Lib.hid (fun W (g : Grow w W) => cmust_fine W b own E (R.grow g) (creatureB S id) 12 (by decide))
  have HR := Lib.hid R
  have hbl : b < w.heap.size := by obtain ⟨V, sd, se, sp, hr, ho⟩ := R; exact hr.host.lt
  have HD := Lib.hid D
  rw [HW.out]
  clear R HW D
  cases hc : creatureB S id with
  | false =>
    rw [hc] at HI HM
    rw [if_neg (by simp)] at HM ⊢
    rw [if_pos (by simp), fail_z]
    clear hc
    go_enter Tryz.func57, Tryz.ntmps57
    go_wp2_with (go_at_call 40; refine (HI.out _ grI).mono ?_; rintro e' w' ⟨rfl, nx, rfl⟩)
    refine (HM.out _ grI).mono ?_
    rintro e' w2 ⟨rfl, hE⟩
    have HE := Lib.hid (FailPost.low grI hE : FailPost w b own (E.fail 12) w2)
    have HY := Lib.hid (fun W => cmust_yes W (.pointer (some ⟨b, 0, none⟩)) 9)
    clear hE HI HM
    go_wp2_with (go_at_call 58; refine (HY.out _).mono ?_; rintro e' w' ⟨rfl, nx, rfl⟩)
    go_end0
    exact ⟨rfl, HE.out.more grI⟩
  | true =>
    obtain ⟨c1, c2, _, _⟩ := creatureB_in hc
    obtain ⟨d, rfl⟩ := Int.eq_ofNat_of_zero_le c1
    have hd : d < S.objs.length := by omega
    rw [hc] at HI HM
    rw [if_pos rfl, fail_z] at HM ⊢
    simp only [Bool.not_true, Bool.false_or]
    unfold fldN
    rw [Int.toNat_natCast]
    obtain ⟨z, hz⟩ : ∃ z : Int, (if (gt (rowAt S.objs d) 2 == pl) = true then (0 : Int) else 9) = z := ⟨_, rfl⟩
    rw [hz]
    have HZ := Lib.hid hz
    have HY := Lib.hid (fun W => cmust_yes W (.pointer (some ⟨b, 0, none⟩)) 12)
    have HFd := Lib.hid (fun W (g : Grow w W) => field_any S V W (HD.out.rs.grow g).rep d 2 hd (by decide))
    have HM2 := Lib.hid (fun W (g : Grow w W) ok => cmust_fine W b own E (HR.out.grow g) ok 9 (by decide))
    clear hc c1 c2 hz
    go_enter Tryz.func57, Tryz.ntmps57
    go_wp2_with (go_at_call 40; refine (HI.out _ grI).mono ?_; rintro e' w' ⟨rfl, nx, rfl⟩)
    refine (HY.out _).mono ?_
    rintro e' w2 ⟨rfl, n2, rfl⟩
    go_wp2_with (go_at_call 41; refine (HFd.out _ grI).mono ?_; rintro e' w' ⟨rfl, nx, rfl⟩)
    refine (HM2.out _ grI _).mono ?_
    rintro e' w3 ⟨rfl, hE⟩
    rw [HZ.out] at hE
    have HE := Lib.hid (FailPost.low grI hE : FailPost w b own (E.fail z) w3)
    clear hE
    go_wp2_with fail
    go_end0
    exact ⟨rfl, HE.out.more grI⟩
end Go.Proofs.YtnjdkkgkaafdbaaGreatDoor
