/-
  The walk of net's Run.
-/
import Derived.Test.YtmmkmhpchoelkaaDoorDo2
namespace Go.Proofs.YtmmkmhpchoelkaaDoor
open Go Go.RowKit

/-- The state behind events, or which one could not be done, and why. -/
def runEv (S : St) (i : Nat) : List (List Int) → Except (Nat × Int) St
  | [] => .ok S
  | e :: l => match doEv S e with
    | .error n => .error (i, n)
    | .ok S' => runEv S' (i + 1) l
/-- A state of which nothing is longer. -/
structure SmallN (S : St) (n : Nat) : Prop where
  objs : S.objs.length ≤ n
  list : ∀ z, z < 11 → (S.list z).length ≤ n
theorem SmallN.small {S : St} {n : Nat} (h : SmallN S n) (hn : n ≤ 1048576) : Small S := ⟨by have := h.objs; omega, fun z hz => by have := h.list z hz; omega⟩
theorem SmallN.mono {S : St} {n m : Nat} (h : SmallN S n) (hn : n ≤ m) : SmallN S m := ⟨by have := h.objs; omega, fun z hz => by have := h.list z hz; omega⟩
theorem upd_small {f : Nat → List Int} {y n : Nat} {l : List Int} (h : ∀ z, z < 11 → (f z).length ≤ n) (hl : l.length ≤ n) : ∀ z, z < 11 → (upd f y l z).length ≤ n := fun z hz => by
  unfold upd; split
  · exact hl
  · exact h z hz
theorem doEv_small {S S' : St} {e : List Int} {n : Nat} (h : SmallN S n) (hd : doEv S e = .ok S') : SmallN S' (n + 1) := by
  have h1 : SmallN S (n + 1) := h.mono (Nat.le_succ n)
  unfold doEv at hd
  by_cases c : evCheck e ≠ 0
  · rw [if_pos c] at hd; cases hd
  rw [if_neg c] at hd
  have hck : evCheck e = 0 := by simpa using c
  by_cases k0 : gt e 0 = 0
  · rw [if_pos k0] at hd
    unfold createS at hd
    by_cases c2 : 400 ≤ S.objs.length
    · rw [if_pos c2] at hd; cases hd
    rw [if_neg c2] at hd
    cases hd
    exact ⟨by simp; exact h.objs, upd_small h1.list (by rw [List.length_append]; have := h.list 10 (by omega); simp; omega)⟩
  rw [if_neg k0] at hd
  by_cases k5 : gt e 0 = 5
  · rw [if_pos k5] at hd
    unfold removeS at hd
    split at hd
    · cases hd
      exact ⟨by simp; have := h.objs; omega, upd_small h1.list (by rw [List.length_take]; have := h.list 10 (by omega); omega)⟩
    · cases hd
  rw [if_neg k5] at hd
  by_cases k1 : gt e 0 = 1
  · rw [if_pos k1] at hd
    have hrange : (gt e 2).toNat < 11 ∧ (gt e 4).toNat < 11 := by
      unfold evCheck at hck
      by_cases c1 : inR (gt e 0) 6 = false
      · rw [if_pos c1] at hck; cases hck
      rw [if_neg c1] at hck
      by_cases c2 : evSpare e = false
      · rw [if_pos c2] at hck; cases hck
      rw [if_neg c2] at hck
      by_cases c3 : evRanges e = false
      · rw [if_pos c3] at hck; cases hck
      have c3 : evRanges e = true := by simpa using c3
      unfold evRanges at c3
      rw [if_neg (by omega), if_pos k1] at c3
      simp only [inR, Bool.and_eq_true, decide_eq_true_eq] at c3
      omega
    unfold moveS at hd
    split at hd
    · cases hd
    split at hd
    · cases hd
    split at hd
    · cases hd
    rename_i hA hC hE
    cases hd
    have hb := h.list _ hrange.1
    have hd := h.list _ hrange.2
    refine ⟨by simp [movedS]; exact h1.objs, upd_small (upd_small h1.list (by have := List.length_eraseIdx_le (S.list (gt e 2).toNat) (gt e 3).toNat; omega)) ?_⟩
    have : (moveTo S (gt e 2).toNat (gt e 3).toNat (gt e 4).toNat).length ≤ n := by
      unfold moveTo; split
      · have := List.length_eraseIdx_le (S.list (gt e 2).toNat) (gt e 3).toNat; omega
      · exact hd
    rw [List.length_insertIdx]; split <;> omega
  rw [if_neg k1] at hd
  by_cases k2 : gt e 0 = 2
  · rw [if_pos k2] at hd
    split at hd
    · cases hd
    split at hd
    · cases hd
    cases hd
    exact ⟨by simp [St.setObj]; exact h1.objs, h1.list⟩
  · rw [if_neg k2] at hd
    simp only at hd
    generalize (if gt e 0 = 3 then (gt e 1).toNat * 9 + (gt e 2).toNat else 18 + (gt e 2).toNat) = q at hd
    split at hd
    · cases hd
    cases hd
    exact ⟨h1.objs, h1.list⟩
theorem doEv_err {S : St} {e : List Int} {n : Int} (hd : doEv S e = .error n) : n ≠ 0 := by
  unfold doEv at hd
  by_cases c : evCheck e ≠ 0
  · rw [if_pos c] at hd; cases hd; exact c
  rw [if_neg c] at hd
  unfold createS removeS moveS at hd
  simp only at hd
  generalize (if gt e 0 = 3 then (gt e 1).toNat * 9 + (gt e 2).toNat else 18 + (gt e 2).toNat) = q at hd
  (repeat' split at hd) <;> cases hd <;> decide
theorem runEv_drop {S : St} {i k : Nat} {l : List (List Int)} (hk : k < l.length) : runEv S i (l.drop k) = match doEv S (rowAt l k) with
    | .error n => .error (i, n)
    | .ok S' => runEv S' (i + 1) (l.drop (k + 1)) := by
  rw [List.drop_eq_getElem_cons hk, runEv]
  have : rowAt l k = l[k] := by simp [rowAt, hk]
  rw [this]
theorem hoA_nil (V : SV) (num : Nat → Int) : hoA V num #[] = stA V num := by simp [hoA]
/-- What Run hands back. -/
def RunPost (w : World) (l : List (List Int)) : Except (Nat × Int) St → Ending → World → Prop
  | .error (i, n), e, w' => e = .returned (.tuple #[.agg (stA SV.zero fun _ => 0), .int .i64 i, errV n]) ∧ Grow w w'
  | .ok S', e, w' => ∃ V', e = .returned (.tuple #[.agg (stA V' S'.num), .int .i64 l.length, .nilIface]) ∧ RepSt w' V' S' ∧ (∀ b, V'.uses b → w.heap.size ≤ b ∧ b < w'.heap.size) ∧ Grow w w'

@[go_sem] theorem indexAt_events (w : World) (s : Sl) (q : IntKind) (i : Int) (h0 : 0 ≤ i) (h1 : i < s.n) : (Instr.indexAt 43 s.val (.int q i)).run Tryd.prog w = .ok (.pointer (some ⟨s.b, s.o + i.toNat * 6, none⟩)) w :=
  run_indexAt_sl w Tryd.underlying43 (fun w => (by kernel_rfl : (sizeOf 42).run Tryd.prog w = .ok 6 w)) s q i h0 h1
@[go_sem ↓] theorem build_State (ρ : Operand → Value) (dst : Option Tmp) (parts : Array (Nat × Operand)) (ty : TypeId) (pos : String) (after : Array Edge) (guard : Option (Nat × Bool)) :
    execOp ρ { dst, op := .build 29 parts, type := ty, pos, after, guard } = bdRow 29 (parts.map fun (i, x) => (i, ρ x)) := rfl
@[go_sem] theorem run_build_State0 (w : World) : (bdRow 29 #[]).run Tryd.prog w = .ok (.value (.agg (stA SV.zero fun _ => 0))) w := by kernel_rfl
theorem results_S3 {fn : Func} {p q r : Tmp} (h : fn.results = #[.cell p 29, .tmp q, .tmp r]) (tmps : Array Value) (w : World) (b : Nat) (hp : tmps.getD p undef = .pointer (some ⟨b, 0, none⟩)) (h1 : (w.blk b).size = 37) :
    (results fn tmps).run Tryd.prog w = .ok (.tuple #[.agg (sub (w.blk b) 0 37), tmps.getD q undef, tmps.getD r undef]) w := by
  unfold results
  rw [h]
  have e1 := loadVar_State w b h1
  have hp' : tmps[p]?.getD undef = .pointer (some ⟨b, 0, none⟩) := by simpa using hp
  simp [asAddr, hp', e1]
set_option maxRecDepth 100000 in
set_option maxHeartbeats 2000000 in
theorem run_any (S : St) (V : SV) (w : World) (R : RepSt w V S) (n : Nat) (hS : SmallN S n) (sl : Sl) (l : List (List Int)) (RL : Rows' w sl 6 l) (hn : n + l.length ≤ 1048576) :
    Calls Tryd.prog 26 #[.agg (stA V S.num), sl.val] w (RunPost w l (runEv S 0 l)) := by
  have hlen := RL.len
  have HR := Lib.hid R
  have HRL := Lib.hid RL
  have HS := Lib.hid (hS.small (by omega))
  have HSN := Lib.hid hS
  clear R RL hS
  generalize hT : runEv S 0 l = T
  have HT := Lib.hid hT
  clear hT
  go_enter Tryd.func26, Tryd.ntmps26
  go_wp2_with (go_at_call 23; refine (copied_any S V _ (HR.out.grow (by repeat (first | exact Grow.refl _ | refine Grow.andr ?_ | refine Grow.plus ?_ _ | refine Grow.alloc ?_ _ | refine Grow.drew ?_ | refine Grow.drewN ?_ _))) HS.out).mono ?_; rintro e' w' ⟨V0, rfl, hR0, hu0, nx, rfl⟩; have HR0 := Lib.hid hR0; have HU0 := Lib.hid hu0; clear hR0 hu0)
  have hH0 : Host ((((w.alloc (.cells (stA V S.num) 29)).alloc (.cells (stA SV.zero fun _ => 0) 29)).plus nx).alloc (.cells (stA V0 S.num) 29)) (w.heap.size + 1 + 1 + nx.objs.size) V0 S #[] := by
    refine ⟨by rw [hoA_nil]; go_simp, by go_simp, HR0.out.grow (by repeat (first | exact Grow.refl _ | refine Grow.andr ?_ | refine Grow.plus ?_ _ | refine Grow.alloc ?_ _ | refine Grow.drew ?_ | refine Grow.drewN ?_ _)), fun h => ?_, fun k h => ?_⟩
    · have := (HU0.out _ h).2; simp only [plus_size, alloc_size'] at this; omega
    · have := (HU0.out _ h).2; simp only [plus_size, alloc_size'] at this ⊢; omega
  have hG0 : Grow w ((((w.alloc (.cells (stA V S.num) 29)).alloc (.cells (stA SV.zero fun _ => 0) 29)).plus nx).alloc (.cells (stA V0 S.num) 29)) := (by repeat (first | exact Grow.refl _ | refine Grow.andr ?_ | refine Grow.plus ?_ _ | refine Grow.alloc ?_ _ | refine Grow.drew ?_ | refine Grow.drewN ?_ _))
  have hu0 : ∀ k, V0.uses k → w.heap.size + 2 ≤ k := fun k h => by have := (HU0.out _ h).1; simp only [alloc_size'] at this; omega
  have hz0 : ((((w.alloc (.cells (stA V S.num) 29)).alloc (.cells (stA SV.zero fun _ => 0) 29)).plus nx).alloc (.cells (stA V0 S.num) 29)).blk (w.heap.size + 1) = stA SV.zero fun _ => 0 := by go_simp
  have hy0 : ((((w.alloc (.cells (stA V S.num) 29)).alloc (.cells (stA SV.zero fun _ => 0) 29)).plus nx).alloc (.cells (stA V0 S.num) 29)).free (w.heap.size + 1) = true := by go_simp
  have hs0 : w.heap.size + 1 + 1 ≤ ((((w.alloc (.cells (stA V S.num) 29)).alloc (.cells (stA SV.zero fun _ => 0) 29)).plus nx).alloc (.cells (stA V0 S.num) 29)).heap.size := by simp only [plus_size, alloc_size']; omega
  have hb0 : w.heap.size + 1 < w.heap.size + 1 + 1 + nx.objs.size := by omega
  generalize w.heap.size + 1 + 1 + nx.objs.size = b at *
  generalize (((w.alloc (.cells (stA V S.num) 29)).alloc (.cells (stA SV.zero fun _ => 0) 29)).plus nx).alloc (.cells (stA V0 S.num) 29) = W0 at *
  have HG0 := Lib.hid hG0
  have HZ0 := Lib.hid hz0
  have HY0 := Lib.hid hy0
  have HS0 := Lib.hid hs0
  clear HR0 HU0 hG0 hz0 hy0 hs0
  go_loopw [15] (fun i wr => ∃ (k : Nat) (Sk : St) (Vk : SV), k ≤ l.length ∧ i = .int .i64 k ∧ Host wr b Vk Sk #[] ∧ Kept (fun j => j = b) W0 wr ∧ SmallN Sk (n + k) ∧ Hid (runEv Sk k (l.drop k) = T) ∧ ∀ j, Vk.uses j → w.heap.size + 2 ≤ j) (fun i _ => l.length - (intOf i).toNat)
  case atStart => exact ⟨0, S, V0, by omega, rfl, hH0, Kept.refl _ _, HSN.out, HT, hu0⟩
  case round =>
    obtain ⟨k, Sk, Vk, hk, rfl, hHk, hKk, hSk, hTk, huk⟩ := hrel
    have hzk : wr.blk (w.heap.size + 1) = stA SV.zero fun _ => 0 := (hKk.blk _ (by have := HS0.out; omega) (by omega)).trans HZ0.out
    have hyk : wr.free (w.heap.size + 1) = true := (hKk.free _ (by have := HS0.out; omega) (by omega)).trans HY0.out
    have hlk : w.heap.size + 1 < wr.heap.size := by have := HS0.out; have := hKk.size; omega
    have hRk : Rows' wr sl 6 l := (HRL.out.grow HG0.out).kept hKk (fun hl h => by have := (cell_blk (HRL.out.cell 0 0 hl (by omega))).1; omega)
    have hGk : Grow w wr := (HG0.out.kept (fun j => j = b)).trans hKk (fun _ _ h => h) |>.grow (fun j hj h => by have h : j = b := h; omega)
    have hGz : ∀ cs, Grow w (wr.setRow (w.heap.size + 1) cs) := fun cs => (Kept.setRow (own := fun j => j = w.heap.size + 1) (hGk.kept _) _ cs (fun _ => rfl)).grow (fun j hj h => by have h : j = w.heap.size + 1 := h; omega)
    have HGk := Lib.hid hGk
    have HGz := Lib.hid hGz
    have HHk := Lib.hid hHk
    have HKk := Lib.hid hKk
    have HSk := Lib.hid hSk
    have HUk := Lib.hid huk
    have hzf := fun i => frozen_of_free hyk i
    have hbk : wr.blk b = stA Vk Sk.num := by rw [← hoA_nil]; exact hHk.blk
    have hfk := hHk.free
    have hlb := hHk.lt
    clear hGk hGz hHk hKk hSk huk
    have nb : ¬ w.heap.size + 1 = wr.heap.size := by omega
    have hlk2 : w.heap.size < wr.heap.size := by omega
    have nb2 : ¬ b = wr.heap.size := by omega
    by_cases hlt : k < l.length
    · obtain ⟨qb, qw, qsz, qsub, _⟩ := hRk.at (by omega) k hlt
      have hdr := hTk.out
      rw [runEv_drop hlt] at hdr
      generalize rowAt l k = row at *
      have nq : ¬ sl.b = wr.heap.size := by omega
      have hDo := fun (W : World) (H : Host W b Vk Sk #[]) => do_any Sk Vk b #[] row qw W H (HSk.out.small (by omega))
      cases hd : doEv Sk row with
      | error m =>
        rw [hd] at hdr hDo
        have hm := doEv_err hd
        have hT : T = .error (k, m) := hdr.symm
        subst hT
        have hv : errV m = .iface 72 (.int .i64 m) := by unfold errV; rw [if_neg hm]
        have HDo := Lib.hid hDo
        have HV := Lib.hid hv
        clear hDo hdr hd hm hTk hRk
        go_wp2_with (go_at_call 52; refine (HDo.out _ (HHk.out.grow (by repeat (first | exact Grow.refl _ | refine Grow.andr ?_ | refine Grow.plus ?_ _ | refine Grow.alloc ?_ _ | refine Grow.drew ?_ | refine Grow.drewN ?_ _)))).mono ?_; rintro r w' ⟨hr, ny, rfl⟩; rw [HV.out] at hr; subst hr)
        refine bodyPost_ret (results_S3 rfl _ _ (w.heap.size + 1) rfl ?_) rfl ?_
        · go_simp
        · refine ⟨by rw [HV.out]; go_simp, Grow.trans (HGz.out (stA SV.zero fun _ => 0)) (by repeat (first | exact Grow.refl _ | refine Grow.andr ?_ | refine Grow.plus ?_ _ | refine Grow.alloc ?_ _ | refine Grow.drew ?_ | refine Grow.drewN ?_ _))⟩
      | ok S' =>
        rw [hd] at hdr hDo
        have hSs := doEv_small HSk.out hd
        have HDo := Lib.hid hDo
        have HSs := Lib.hid hSs
        have HTs : Hid (runEv S' (k + 1) (l.drop (k + 1)) = T) := hdr
        clear hDo hdr hd hSs hTk hRk
        go_wp2_with (go_at_call 52; refine (HDo.out _ (HHk.out.grow (by repeat (first | exact Grow.refl _ | refine Grow.andr ?_ | refine Grow.plus ?_ _ | refine Grow.alloc ?_ _ | refine Grow.drew ?_ | refine Grow.drewN ?_ _)))).mono ?_; rintro r w' ⟨rfl, hD⟩; have HD := Lib.hid hD; clear hD)
        obtain ⟨V', hH', hp', hu'⟩ := HD.out.host (HHk.out.grow (by repeat (first | exact Grow.refl _ | refine Grow.andr ?_ | refine Grow.plus ?_ _ | refine Grow.alloc ?_ _ | refine Grow.drew ?_ | refine Grow.drewN ?_ _)))
        go_roundw
        case rel =>
          refine ⟨k + 1, S', V', by omega, by go_num, hH', ?_, by rw [← Nat.add_assoc]; exact HSs.out, HTs, fun j hj => ?_⟩
          · exact HKk.out.trans ((Grow.kept (fun j => j = b) (by repeat (first | exact Grow.refl _ | refine Grow.andr ?_ | refine Grow.plus ?_ _ | refine Grow.alloc ?_ _ | refine Grow.drew ?_ | refine Grow.drewN ?_ _))).trans hp'.kept (fun _ _ h => h)) (fun _ _ h => h)
          · rcases hu' j hj with h | h
            · exact HUk.out j h
            · have h1 := h.1
              simp only [alloc_size'] at h1
              omega
        case measure => simp [intOf]; omega
    · have hT : T = .ok Sk := by
        have := hTk.out
        rw [List.drop_eq_nil_of_le (by omega)] at this
        exact this.symm
      subst hT
      clear hTk hRk
      go_wp2_with fail
      refine bodyPost_ret (results_S3 rfl _ _ (w.heap.size + 1) rfl ?_) rfl ?_
      · go_simp
      · refine ⟨Vk, by go_simp, ?_, fun j hj => ?_, Grow.trans (HGz.out (stA Vk Sk.num)) (by repeat (first | exact Grow.refl _ | refine Grow.andr ?_ | refine Grow.plus ?_ _ | refine Grow.alloc ?_ _ | refine Grow.drew ?_ | refine Grow.drewN ?_ _))⟩
        · refine (HHk.out.rep.kept (own := fun j => j = w.heap.size + 1) (Kept.setRow (own := fun j => j = w.heap.size + 1) (Kept.refl _ wr) _ (stA Vk Sk.num) (fun _ => rfl)) (fun j hj h => by have h : j = w.heap.size + 1 := h; have := HUk.out j hj; omega)).grow (by repeat (first | exact Grow.refl _ | refine Grow.andr ?_ | refine Grow.plus ?_ _ | refine Grow.alloc ?_ _ | refine Grow.drew ?_ | refine Grow.drewN ?_ _))
        · have h1 := HUk.out j hj
          have h2 := HHk.out.in' j hj
          have h3 := Grow.size (w := wr.setRow (w.heap.size + 1) (stA Vk Sk.num)) (by repeat (first | exact Grow.refl _ | refine Grow.andr ?_ | refine Grow.plus ?_ _ | refine Grow.alloc ?_ _ | refine Grow.drew ?_ | refine Grow.drewN ?_ _))
          exact ⟨by omega, Nat.lt_of_lt_of_le h2 (Nat.le_trans (by rw [size_setRow]; exact Nat.le_refl _) h3)⟩
end Go.Proofs.YtmmkmhpchoelkaaDoor
