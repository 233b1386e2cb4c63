/-
  The walk of event's Do.
-/
import Derived.Test.YtmmkmhpchoelkaaDoorEv6
import Derived.Test.YtmmkmhpchoelkaaDoorEv7
namespace Go.Proofs.YtmmkmhpchoelkaaDoor
open Go Go.RowKit

/-- What a callee that may refuse has done to a state in a block. -/
def DoPost (w : World) (b : Nat) (V : SV) (rest : Array Value) : Except Int St → Ending → World → Prop
  | .error n, e, w' => e = .returned (errV n) ∧ Grow w w'
  | .ok S', e, w' => e = .returned .nilIface ∧ Done w b V rest S' w'
theorem Done.mono {w w1 w' : World} {b : Nat} {V : SV} {S' : St} {rest : Array Value} (h : Done w1 b V rest S' w') (g : Grow w w1) (hf : w.free b = true) : Done w b V rest S' w' := by
  obtain ⟨V', hp, hr, hu⟩ := h
  have hlt := free_lt hf
  refine ⟨V', ?_, hr, fun k hk => ?_⟩
  · obtain ⟨x, rfl⟩ := g
    refine Put.of_grow (Grow.trans ?_ hp)
    rw [setRow_plus, if_pos hlt]
    exact (by repeat (first | exact Grow.refl _ | refine Grow.andr ?_ | refine Grow.plus ?_ _ | refine Grow.alloc ?_ _ | refine Grow.drew ?_ | refine Grow.drewN ?_ _))
  · rcases hu k hk with h | h
    · exact Or.inl h
    · exact Or.inr ⟨Nat.le_trans g.size h.1, h.2⟩
theorem DoPost.mono {w w1 w' : World} {b : Nat} {V : SV} {rest : Array Value} {r : Except Int St} {e : Ending} (h : DoPost w1 b V rest r e w') (g : Grow w w1) (hf : w.free b = true) : DoPost w b V rest r e w' := by
  cases r with
  | error n => exact ⟨h.1, g.trans h.2⟩
  | ok S' => exact ⟨h.1, h.2.mono g hf⟩
theorem DoPost.returned {w w' : World} {b : Nat} {V : SV} {rest : Array Value} {r : Except Int St} {e : Ending} (h : DoPost w b V rest r e w') : ∃ v, e = .returned v := by
  cases r with
  | error n => exact ⟨_, h.1⟩
  | ok S' => exact ⟨_, h.1⟩
theorem create_any (S : St) (V : SV) (b : Nat) (rest : Array Value) (e : List Int) (he : e.length = 6) (w : World) (H : Host w b V S rest) (hS : Small S) :
    Calls Tryd.prog 83 #[.pointer (some ⟨b, 0, none⟩), .agg (cellsOf e)] w (DoPost w b V rest (createS S e)) := by
  unfold createS
  by_cases h : 400 ≤ S.objs.length
  · rw [if_pos h]; exact create_full S V b rest e w H h
  · rw [if_neg h]; exact create_ok S V b rest e he w H hS (by omega)
theorem remove_any (S : St) (V : SV) (b : Nat) (rest : Array Value) (e : List Int) (he : e.length = 6) (w : World) (H : Host w b V S rest) (hS : Small S) :
    Calls Tryd.prog 84 #[.pointer (some ⟨b, 0, none⟩), .agg (cellsOf e)] w (DoPost w b V rest (removeS S e)) := by
  unfold removeS
  by_cases h0 : 0 < S.objs.length
  · obtain ⟨m, hm⟩ : ∃ m, S.objs.length = m + 1 := ⟨S.objs.length - 1, by omega⟩
    by_cases h1 : 0 < (S.list 10).length
    · obtain ⟨k, hk⟩ : ∃ k, (S.list 10).length = k + 1 := ⟨(S.list 10).length - 1, by omega⟩
      have em : S.objs.length - 1 = m := by omega
      have ek : (S.list 10).length - 1 = k := by omega
      rw [em, ek]
      by_cases h2 : gt (S.list 10) k = (m : Int)
      · by_cases h3 : rowAt S.objs m = evMade e
        · rw [if_pos ⟨h0, h1, by omega, h3⟩]
          exact remove_same S V b rest e he w H hS m k hm hk h2 h3
        · rw [if_neg (fun h => h3 h.2.2.2)]
          exact remove_unlike S V b rest e he w H hS m k hm hk h2 h3
      · rw [if_neg (fun h => h2 (by have := h.2.2.1; omega))]
        exact remove_other S V b rest e he w H hS m k hm hk h2
    · rw [if_neg (fun h => h1 h.2.1)]
      exact remove_empty S V b rest e he w H hS m hm (by omega)
  · rw [if_neg (fun h => h0 h.1)]
    exact remove_none S V b rest e he w H hS (by omega)
theorem move_any (S : St) (V : SV) (b : Nat) (rest : Array Value) (e : List Int) (a bz c dz ei : Nat) (E : MoveEv e a bz c dz ei) (w : World) (H : Host w b V S rest) (hS : Small S) :
    Calls Tryd.prog 85 #[.pointer (some ⟨b, 0, none⟩), .agg (cellsOf e)] w (DoPost w b V rest (moveS S a bz c dz ei)) := by
  unfold moveS
  by_cases hA : S.objs.length ≤ a
  · rw [if_pos hA]; exact move_far S V b rest e a bz c dz ei E w H hS hA
  · rw [if_neg hA]
    by_cases hC : c < (S.list bz).length
    · by_cases hx : gt (S.list bz) c = a
      · rw [if_neg (fun h => h ⟨hC, hx⟩)]
        by_cases hE : (moveTo S bz c dz).length < ei
        · rw [if_pos hE]; exact move_range S V b rest e a bz c dz ei E w H hS (by omega) hC hx hE
        · rw [if_neg hE]; exact move_ok S V b rest e a bz c dz ei E w H hS (by omega) hC hx (by omega)
      · rw [if_pos (fun h => hx h.2)]; exact move_other S V b rest e a bz c dz ei E w H hS (by omega) hC hx
    · rw [if_pos (fun h => hC h.1)]; exact move_out S V b rest e a bz c dz ei E w H hS (by omega) (by omega)

theorem do_bad (V : SV) (b : Nat) (rest : Array Value) (e : List Int) (he : e.length = 6) (w : World) (hc : evCheck e ≠ 0) :
    Calls Tryd.prog 52 #[.pointer (some ⟨b, 0, none⟩), .agg (cellsOf e)] w (DoPost w b V rest (.error (evCheck e))) := by
  have hv : errV (evCheck e) = .iface 72 (.int .i64 (evCheck e)) := by unfold errV; rw [if_neg hc]
  have hck := fun W => evCheck_any e he W
  rw [hv] at hck
  have HV := Lib.hid hv
  have HC := Lib.hid hck
  clear hv hck hc
  show Calls _ _ _ _ fun r w' => r = .returned (errV (evCheck e)) ∧ Grow w w'
  rw [HV.out]
  generalize evCheck e = n at *
  go_enter Tryd.func52, Tryd.ntmps52
  go_wp2_with (go_at_call 53; refine (HC.out _).mono ?_; rintro e' w' ⟨rfl, nx, rfl⟩)
  go_ret
  exact ⟨rfl, (by repeat (first | exact Grow.refl _ | refine Grow.andr ?_ | refine Grow.plus ?_ _ | refine Grow.alloc ?_ _ | refine Grow.drew ?_ | refine Grow.drewN ?_ _))⟩
set_option maxRecDepth 100000 in
set_option maxHeartbeats 1000000 in
theorem do_make (S : St) (V : SV) (b : Nat) (rest : Array Value) (e : List Int) (he : e.length = 6) (w : World) (H : Host w b V S rest) (hS : Small S) (hc : evCheck e = 0) (hk : gt e 0 = 0) :
    Calls Tryd.prog 52 #[.pointer (some ⟨b, 0, none⟩), .agg (cellsOf e)] w (DoPost w b V rest (createS S e)) := by
  have hck := fun W => evCheck_any e he W
  rw [hc, errV_0] at hck
  have HC := Lib.hid hck
  have HH := Lib.hid H
  have HS := Lib.hid hS
  have hcell := cell_of_blk (H).free (H).blk; have hfz := frozen_of_free (H).free; have hset := setCell_of_blk (H).free (H).blk; have hblk := (H).blk; have hfree := (H).free; have hlt := (H).lt; have hne1 : ¬ b = (w).heap.size := (by omega); have hne2 : ¬ (w).heap.size = b := (by omega)
  have HF := Lib.hid hfree
  clear hck hc H hS
  go_enter Tryd.func52, Tryd.ntmps52
  go_wp2_with (first | (go_at_call 53; refine (HC.out _).mono ?_; rintro e' w' ⟨rfl, nx, rfl⟩) | (go_at_call 83; refine (create_any S V b rest e he _ (HH.out.grow (by repeat (first | exact Grow.refl _ | refine Grow.andr ?_ | refine Grow.plus ?_ _ | refine Grow.alloc ?_ _ | refine Grow.drew ?_ | refine Grow.drewN ?_ _))) HS.out).mono ?_; rintro r w' hD; obtain ⟨v, rfl⟩ := hD.returned; have HD := Lib.hid hD; clear hD))
  go_ret
  exact HD.out.mono (by repeat (first | exact Grow.refl _ | refine Grow.andr ?_ | refine Grow.plus ?_ _ | refine Grow.alloc ?_ _ | refine Grow.drew ?_ | refine Grow.drewN ?_ _)) HF.out
set_option maxRecDepth 100000 in
set_option maxHeartbeats 1000000 in
theorem do_unmake (S : St) (V : SV) (b : Nat) (rest : Array Value) (e : List Int) (he : e.length = 6) (w : World) (H : Host w b V S rest) (hS : Small S) (hc : evCheck e = 0) (hk : gt e 0 = 5) :
    Calls Tryd.prog 52 #[.pointer (some ⟨b, 0, none⟩), .agg (cellsOf e)] w (DoPost w b V rest (removeS S e)) := by
  have hck := fun W => evCheck_any e he W
  rw [hc, errV_0] at hck
  have HC := Lib.hid hck
  have HH := Lib.hid H
  have HS := Lib.hid hS
  have hcell := cell_of_blk (H).free (H).blk; have hfz := frozen_of_free (H).free; have hset := setCell_of_blk (H).free (H).blk; have hblk := (H).blk; have hfree := (H).free; have hlt := (H).lt; have hne1 : ¬ b = (w).heap.size := (by omega); have hne2 : ¬ (w).heap.size = b := (by omega)
  have HF := Lib.hid hfree
  clear hck hc H hS
  go_enter Tryd.func52, Tryd.ntmps52
  go_wp2_with (first | (go_at_call 53; refine (HC.out _).mono ?_; rintro e' w' ⟨rfl, nx, rfl⟩) | (go_at_call 84; refine (remove_any S V b rest e he _ (HH.out.grow (by repeat (first | exact Grow.refl _ | refine Grow.andr ?_ | refine Grow.plus ?_ _ | refine Grow.alloc ?_ _ | refine Grow.drew ?_ | refine Grow.drewN ?_ _))) HS.out).mono ?_; rintro r w' hD; obtain ⟨v, rfl⟩ := hD.returned; have HD := Lib.hid hD; clear hD))
  go_ret
  exact HD.out.mono (by repeat (first | exact Grow.refl _ | refine Grow.andr ?_ | refine Grow.plus ?_ _ | refine Grow.alloc ?_ _ | refine Grow.drew ?_ | refine Grow.drewN ?_ _)) HF.out
set_option maxRecDepth 100000 in
set_option maxHeartbeats 1000000 in
theorem do_move (S : St) (V : SV) (b : Nat) (rest : Array Value) (e : List Int) (he : e.length = 6) (w : World) (H : Host w b V S rest) (hS : Small S) (hc : evCheck e = 0) (hk : gt e 0 = 1) (a bz c dz ei : Nat) (E : MoveEv e a bz c dz ei) :
    Calls Tryd.prog 52 #[.pointer (some ⟨b, 0, none⟩), .agg (cellsOf e)] w (DoPost w b V rest (moveS S a bz c dz ei)) := by
  have hck := fun W => evCheck_any e he W
  rw [hc, errV_0] at hck
  have HC := Lib.hid hck
  have HH := Lib.hid H
  have HS := Lib.hid hS
  have hcell := cell_of_blk (H).free (H).blk; have hfz := frozen_of_free (H).free; have hset := setCell_of_blk (H).free (H).blk; have hblk := (H).blk; have hfree := (H).free; have hlt := (H).lt; have hne1 : ¬ b = (w).heap.size := (by omega); have hne2 : ¬ (w).heap.size = b := (by omega)
  have HF := Lib.hid hfree
  clear hck hc H hS
  go_enter Tryd.func52, Tryd.ntmps52
  have HE := Lib.hid E
  clear E
  go_wp2_with (first | (go_at_call 53; refine (HC.out _).mono ?_; rintro e' w' ⟨rfl, nx, rfl⟩) | (go_at_call 85; refine (move_any S V b rest e a bz c dz ei HE.out _ (HH.out.grow (by repeat (first | exact Grow.refl _ | refine Grow.andr ?_ | refine Grow.plus ?_ _ | refine Grow.alloc ?_ _ | refine Grow.drew ?_ | refine Grow.drewN ?_ _))) HS.out).mono ?_; rintro r w' hD; obtain ⟨v, rfl⟩ := hD.returned; have HD := Lib.hid hD; clear hD))
  go_ret
  exact HD.out.mono (by repeat (first | exact Grow.refl _ | refine Grow.andr ?_ | refine Grow.plus ?_ _ | refine Grow.alloc ?_ _ | refine Grow.drew ?_ | refine Grow.drewN ?_ _)) HF.out
theorem put_cell {w W : World} {b i : Nat} {v : Value} {cs : Array Value} (g : Grow w W) (hf : w.free b = true) (h : w.blk b = cs) : Grow (w.setRow b (cs.setIfInBounds i v)) (W.setCell ⟨b, i, none⟩ v) := by
  obtain ⟨x, rfl⟩ := g
  rw [plus_setCell_lt w x b i v (free_lt hf), setCell_of_blk hf h]
  exact ⟨x, rfl⟩
theorem done_num {w w' : World} {b : Nat} {V : SV} {S : St} {rest : Array Value} (H : Host w b V S rest) (num' : Nat → Int) (g : Grow (w.setRow b (hoA V num' rest)) w') : Done w b V rest { S with num := num' } w' := by
  have hp : Put b (hoA V num' rest) w w' := g
  have hr := H.rep.kept hp.kept (fun k hk h => H.apart (by rw [← h]; exact hk))
  exact ⟨V, g, ⟨hr.objs, hr.list⟩, fun k hk => Or.inl hk⟩
set_option maxRecDepth 100000 in
set_option maxHeartbeats 1000000 in
theorem do_player (S : St) (V : SV) (b : Nat) (rest : Array Value) (e : List Int) (he : e.length = 6) (w : World) (H : Host w b V S rest) (_hS : Small S) (hc : evCheck e = 0) (hk : gt e 0 = 3) (p f : Nat) (h1 : gt e 1 = p) (h2 : gt e 2 = f) (hp : p < 2) (hf : f < 9) :
    Calls Tryd.prog 52 #[.pointer (some ⟨b, 0, none⟩), .agg (cellsOf e)] w (DoPost w b V rest ((if S.num (p * 9 + f) ≠ gt e 3 then .error 20 else .ok (S.setNum (p * 9 + f) (gt e 4))))) := by
  have hck := fun W => evCheck_any e he W
  rw [hc, errV_0] at hck
  have HC := Lib.hid hck
  have HH := Lib.hid H
  have hcell := cell_of_blk (H).free (H).blk; have hfz := frozen_of_free (H).free; have hset := setCell_of_blk (H).free (H).blk; have hblk := (H).blk; have hfree := (H).free; have hlt := (H).lt; have hne1 : ¬ b = (w).heap.size := (by omega); have hne2 : ¬ (w).heap.size = b := (by omega)
  have HF := Lib.hid hfree
  clear hck hc H
  have i1 : (p : Int) < 2 := by omega
  have i2 : (0 : Int) ≤ (p : Int) := by omega
  have i3 : (f : Int) < 9 := by omega
  have i4 : (0 : Int) ≤ (f : Int) := by omega
  have hat : (hoA V S.num rest)[12 + p * 9 + f]? = some (I (S.num (p * 9 + f))) := by rw [Nat.add_assoc]; exact hoA_num _ _ _ _ (by omega)
  by_cases hx : S.num (p * 9 + f) = gt e 3
  · have hset2 : (hoA V S.num rest).setIfInBounds (12 + p * 9 + f) (.int .i64 (gt e 4)) = hoA V (upd S.num (p * 9 + f) (gt e 4)) rest := by rw [Nat.add_assoc]; exact hoA_setNum _ _ _ _ _ (by omega)
    have HX := Lib.hid hx
    have HS2 := Lib.hid hset2
    have HB := Lib.hid hblk
    have HE : Hid ((if S.num (p * 9 + f) ≠ gt e 3 then .error 20 else .ok (S.setNum (p * 9 + f) (gt e 4)) : Except Int St) = .ok (S.setNum (p * 9 + f) (gt e 4))) := by rw [Hid, if_neg (fun h => h hx)]
    clear hx hset2
    rw [HE.out]
    clear HE
    go_enter Tryd.func52, Tryd.ntmps52
    go_wp2_with (go_at_call 53; refine (HC.out _).mono ?_; rintro e' w' ⟨rfl, nx, rfl⟩)
    refine wp_region_order [0, 1, 2, 3, 4, 5, 6, 7, 8, 9] 10 [11] (by kernel_rfl) (by kernel_rfl) ?_; simp only [pickO, List.getElem?_cons_zero, List.getElem?_cons_succ]; (repeat (go_big_quiet_step ( fail ))); refine wpQuiet_nil ?_; rintro _ ⟨nx, rfl⟩
    go_wp2_with (go_at_call 86; refine (set_yes e he b (12 + p * 9 + f) _ _ (by go_simp) (by go_simp) (by go_simp) HX.out).mono ?_; rintro r w' ⟨rfl, hG⟩; have HG := Lib.hid (Grow.trans (put_cell (by repeat (first | exact Grow.refl _ | refine Grow.andr ?_ | refine Grow.plus ?_ _ | refine Grow.alloc ?_ _ | refine Grow.drew ?_ | refine Grow.drewN ?_ _)) HF.out HB.out) hG); clear hG)
    go_ret
    have hG := HG.out
    rw [HS2.out] at hG
    exact ⟨rfl, done_num HH.out _ hG⟩
  · have HX := Lib.hid hx
    have HE : Hid ((if S.num (p * 9 + f) ≠ gt e 3 then .error 20 else .ok (S.setNum (p * 9 + f) (gt e 4)) : Except Int St) = .error 20) := by rw [Hid, if_pos hx]
    clear hx
    rw [HE.out]
    clear HE
    go_enter Tryd.func52, Tryd.ntmps52
    go_wp2_with (go_at_call 53; refine (HC.out _).mono ?_; rintro e' w' ⟨rfl, nx, rfl⟩)
    refine wp_region_order [0, 1, 2, 3, 4, 5, 6, 7, 8, 9] 10 [11] (by kernel_rfl) (by kernel_rfl) ?_; simp only [pickO, List.getElem?_cons_zero, List.getElem?_cons_succ]; (repeat (go_big_quiet_step ( fail ))); refine wpQuiet_nil ?_; rintro _ ⟨nx, rfl⟩
    go_wp2_with (go_at_call 86; refine (set_no e he b (12 + p * 9 + f) _ _ (by go_simp) (by go_simp) (by go_simp) HX.out).mono ?_; rintro r w' ⟨rfl, nq, rfl⟩)
    go_ret
    exact ⟨rfl, (by repeat (first | exact Grow.refl _ | refine Grow.andr ?_ | refine Grow.plus ?_ _ | refine Grow.alloc ?_ _ | refine Grow.drew ?_ | refine Grow.drewN ?_ _))⟩
set_option maxRecDepth 100000 in
set_option maxHeartbeats 1000000 in
theorem do_game (S : St) (V : SV) (b : Nat) (rest : Array Value) (e : List Int) (he : e.length = 6) (w : World) (H : Host w b V S rest) (_hS : Small S) (hc : evCheck e = 0) (hk : gt e 0 = 4) (f : Nat) (h2 : gt e 2 = f) (hf : f < 7) :
    Calls Tryd.prog 52 #[.pointer (some ⟨b, 0, none⟩), .agg (cellsOf e)] w (DoPost w b V rest ((if S.num (18 + f) ≠ gt e 3 then .error 20 else .ok (S.setNum (18 + f) (gt e 4))))) := by
  have hck := fun W => evCheck_any e he W
  rw [hc, errV_0] at hck
  have HC := Lib.hid hck
  have HH := Lib.hid H
  have hcell := cell_of_blk (H).free (H).blk; have hfz := frozen_of_free (H).free; have hset := setCell_of_blk (H).free (H).blk; have hblk := (H).blk; have hfree := (H).free; have hlt := (H).lt; have hne1 : ¬ b = (w).heap.size := (by omega); have hne2 : ¬ (w).heap.size = b := (by omega)
  have HF := Lib.hid hfree
  clear hck hc H
  have i3 : (f : Int) < 7 := by omega
  have i4 : (0 : Int) ≤ (f : Int) := by omega
  have hat : (hoA V S.num rest)[30 + f]? = some (I (S.num (18 + f))) := by rw [show 30 + f = 12 + (18 + f) by omega]; exact hoA_num _ _ _ _ (by omega)
  by_cases hx : S.num (18 + f) = gt e 3
  · have hset2 : (hoA V S.num rest).setIfInBounds (30 + f) (.int .i64 (gt e 4)) = hoA V (upd S.num (18 + f) (gt e 4)) rest := by rw [show 30 + f = 12 + (18 + f) by omega]; exact hoA_setNum _ _ _ _ _ (by omega)
    have HX := Lib.hid hx
    have HS2 := Lib.hid hset2
    have HB := Lib.hid hblk
    have HE : Hid ((if S.num (18 + f) ≠ gt e 3 then .error 20 else .ok (S.setNum (18 + f) (gt e 4)) : Except Int St) = .ok (S.setNum (18 + f) (gt e 4))) := by rw [Hid, if_neg (fun h => h hx)]
    clear hx hset2
    rw [HE.out]
    clear HE
    go_enter Tryd.func52, Tryd.ntmps52
    go_wp2_with (go_at_call 53; refine (HC.out _).mono ?_; rintro e' w' ⟨rfl, nx, rfl⟩)
    refine wp_region_order [0, 1, 2, 3, 4, 5, 6] 7 [8] (by kernel_rfl) (by kernel_rfl) ?_; simp only [pickO, List.getElem?_cons_zero, List.getElem?_cons_succ]; (repeat (go_big_quiet_step ( fail ))); refine wpQuiet_nil ?_; rintro _ ⟨nx, rfl⟩
    go_wp2_with (go_at_call 86; refine (set_yes e he b (30 + f) _ _ (by go_simp) (by go_simp) (by go_simp) HX.out).mono ?_; rintro r w' ⟨rfl, hG⟩; have HG := Lib.hid (Grow.trans (put_cell (by repeat (first | exact Grow.refl _ | refine Grow.andr ?_ | refine Grow.plus ?_ _ | refine Grow.alloc ?_ _ | refine Grow.drew ?_ | refine Grow.drewN ?_ _)) HF.out HB.out) hG); clear hG)
    go_ret
    have hG := HG.out
    rw [HS2.out] at hG
    exact ⟨rfl, done_num HH.out _ hG⟩
  · have HX := Lib.hid hx
    have HE : Hid ((if S.num (18 + f) ≠ gt e 3 then .error 20 else .ok (S.setNum (18 + f) (gt e 4)) : Except Int St) = .error 20) := by rw [Hid, if_pos hx]
    clear hx
    rw [HE.out]
    clear HE
    go_enter Tryd.func52, Tryd.ntmps52
    go_wp2_with (go_at_call 53; refine (HC.out _).mono ?_; rintro e' w' ⟨rfl, nx, rfl⟩)
    refine wp_region_order [0, 1, 2, 3, 4, 5, 6] 7 [8] (by kernel_rfl) (by kernel_rfl) ?_; simp only [pickO, List.getElem?_cons_zero, List.getElem?_cons_succ]; (repeat (go_big_quiet_step ( fail ))); refine wpQuiet_nil ?_; rintro _ ⟨nx, rfl⟩
    go_wp2_with (go_at_call 86; refine (set_no e he b (30 + f) _ _ (by go_simp) (by go_simp) (by go_simp) HX.out).mono ?_; rintro r w' ⟨rfl, nq, rfl⟩)
    go_ret
    exact ⟨rfl, (by repeat (first | exact Grow.refl _ | refine Grow.andr ?_ | refine Grow.plus ?_ _ | refine Grow.alloc ?_ _ | refine Grow.drew ?_ | refine Grow.drewN ?_ _))⟩
end Go.Proofs.YtmmkmhpchoelkaaDoor
