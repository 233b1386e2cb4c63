/-
  The walks of the document's Run and Invert.
-/
import Derived.Test.YtkbghjfagnjpoaaGreatDoorMRef12e
import Derived.Test.YtkbghjfagnjpoaaGreatDoorMRnN
namespace Go.Proofs.YtkbghjfagnjpoaaGreatDoor
open Go Go.RowKit

theorem results3_State {fn : Func} {p q r : Tmp} (h : fn.results = #[.cell p 29, .tmp q, .tmp r]) (tmps : Array Value) (w : World) (b : Nat) (hp : tmps.getD p undef = .pointer (some ⟨b, 0, none⟩)) (h1 : (w.blk b).size = 37) :
    (results fn tmps).run Tryz.prog w = .ok (.tuple #[.agg (sub (w.blk b) 0 37), tmps.getD q undef, tmps.getD r undef]) w := by
  unfold results
  rw [h]
  have e1 := loadVar_State w b h1
  have hp' : tmps[p]?.getD undef = .pointer (some ⟨b, 0, none⟩) := by simpa using hp
  simp [asAddr, hp', e1]
theorem run_store_all {W : World} {b : Nat} {V : SV} {num : Nat → Int} (hf : W.free b = true) (hb : W.blk b = stA V num) (V' : SV) (num' : Nat → Int) :
    (stRow 29 (.pointer (some ⟨b, 0, none⟩)) (.agg (stA V' num'))).run Tryz.prog W = .ok .skip (W.setRow b (stA V' num')) := by
  have e : ∀ V num, hoA V num #[] = stA V num := fun V num => by simp [hoA]
  have h := run_store_host W b V V' num num' #[] (by rw [e]; exact hb) hf
  rw [e] at h
  exact h
/-- An event that may be is applied. -/
theorem apply_ok (S : St) (V : SV) (e : List Int) (he : e.length = 6) (w : World) (R : RepSt w V S) (hS : Small S) (T : St) (hd : doEv S e = .ok T) :
    Calls Tryz.prog 51 #[.agg (stA V S.num), .agg (cellsOf e)] w (AppPost w (.ok T)) := by
  have hc := doEv_check hd
  have hd2 := hd
  unfold doEv at hd2
  rw [if_neg (by rw [hc]; simp)] at hd2
  by_cases k0 : gt e 0 = 0
  · rw [if_pos k0] at hd2
    unfold createS at hd2
    split at hd2
    · cases hd2
    · rename_i hn
      cases hd2
      exact apply_make S V e he w R hS hc k0 (by omega)
  rw [if_neg k0] at hd2
  by_cases k5 : gt e 0 = 5
  · rw [if_pos k5] at hd2
    unfold removeS at hd2
    split at hd2
    · rename_i h
      obtain ⟨h1, h2, h3, h4⟩ := h
      obtain ⟨m, hm⟩ : ∃ m, S.objs.length = m + 1 := ⟨S.objs.length - 1, by omega⟩
      obtain ⟨k, hk⟩ : ∃ k, (S.list 10).length = k + 1 := ⟨(S.list 10).length - 1, by omega⟩
      cases hd2
      rw [hm, hk] at h3
      rw [hm] at h4
      simp only [Nat.add_sub_cancel] at h3 h4
      rw [hm, hk]
      simp only [Nat.add_sub_cancel]
      exact apply_unmake S V e he w R hS hc k5 m k hm hk (by omega) h4
    · cases hd2
  · have := apply_any S V e he w R hS k0 k5
    rw [hd] at this
    exact this
set_option maxRecDepth 100000 in
set_option maxHeartbeats 8000000 in
theorem run13_any (S : St) (V : SV) (w : World) (R : RepSt w V S) (n : Nat) (hS : SmallN S n) (sl : Sl) (l : List (List Int)) (RL : Rows' w sl 6 l) (hn : n + l.length ≤ 1000000) (T : St) (hT : runL S l = .ok T) :
    Calls Tryz.prog 19 #[.agg (stA V S.num), sl.val] w fun e w' => ∃ V', e = .returned (.tuple #[.agg (stA V' T.num), .int .i64 (l.length : Int), .int .i64 0]) ∧ RepSt w' V' T ∧ (∀ b, V'.uses b → w.heap.size ≤ b ∧ b < w'.heap.size) ∧ Grow w w' := by
  have hsn := RL.len
  have hsl := RL.wid
  have hlt0 : 0 < l.length → sl.b < w.heap.size := fun h => (RL.at (by omega) 0 h).1
  have HRL := Lib.hid RL
  have HW := Lib.hid hsl
  have HT := Lib.hid hT
  have HSB := Lib.hid hlt0
  have HSN := Lib.hid hS
  have HCo := Lib.hid (fun W (g : Grow w W) => ncopy_any S V W (R.grow g) (hS.small (by omega)))
  have hll : l.length ≤ 1000000 := by omega
  clear R RL hsl hT hlt0 hS
  go_enter Tryz.func19, Tryz.ntmps19
  go_wp2_with (go_at_call 50; refine (HCo.out _ grI).mono ?_; rintro e' w' ⟨V1, rfl, hF, n1, rfl⟩; have HF := Lib.hid hF; clear hF)
  have hF := HF.out
  have hown := hF.own
  simp only [plus_size, alloc_size'] at hown
  have hrep := hF.rep
  have hG0 : Grow w (((w.alloc (.cells (stA V S.num) 29)).alloc (.cells (stA SV.zero fun _ => 0) 29)).plus n1 |>.alloc (.cells (stA V1 S.num) 29)) := grI
  obtain ⟨q7, hq7⟩ : ∃ q7, q7 = w.heap.size + 1 + 1 + n1.objs.size := ⟨_, rfl⟩
  obtain ⟨q4, hq4⟩ : ∃ q4, q4 = w.heap.size + 1 := ⟨_, rfl⟩
  have hb7 : ((((w.alloc (.cells (stA V S.num) 29)).alloc (.cells (stA SV.zero fun _ => 0) 29)).plus n1).alloc (.cells (stA V1 S.num) 29)).blk q7 = stA V1 S.num := by rw [hq7]; go_simp
  have hf7 : ((((w.alloc (.cells (stA V S.num) 29)).alloc (.cells (stA SV.zero fun _ => 0) 29)).plus n1).alloc (.cells (stA V1 S.num) 29)).free q7 = true := by rw [hq7]; go_simp
  have hb4 : ((((w.alloc (.cells (stA V S.num) 29)).alloc (.cells (stA SV.zero fun _ => 0) 29)).plus n1).alloc (.cells (stA V1 S.num) 29)).blk q4 = stA SV.zero fun _ => 0 := by rw [hq4]; go_simp
  have hf4 : ((((w.alloc (.cells (stA V S.num) 29)).alloc (.cells (stA SV.zero fun _ => 0) 29)).plus n1).alloc (.cells (stA V1 S.num) 29)).free q4 = true := by rw [hq4]; go_simp
  have hsz : ((((w.alloc (.cells (stA V S.num) 29)).alloc (.cells (stA SV.zero fun _ => 0) 29)).plus n1).alloc (.cells (stA V1 S.num) 29)).heap.size = q7 + 1 := by rw [hq7]; go_simp
  have hR1 : RepSt ((((w.alloc (.cells (stA V S.num) 29)).alloc (.cells (stA SV.zero fun _ => 0) 29)).plus n1).alloc (.cells (stA V1 S.num) 29)) V1 S := hrep.grow grI
  have hq47 : q4 < q7 := by omega
  have hw4 : w.heap.size < q4 := by omega
  have HOV : Hid (∀ b, V1.uses b → q4 < b ∧ b < q7) := fun b hb => by have := hown b hb; omega
  rw [← hq7, ← hq4]
  clear hown hrep hF HF hq7 hq4 HCo
  generalize ((((w.alloc (.cells (stA V S.num) 29)).alloc (.cells (stA SV.zero fun _ => 0) 29)).plus n1).alloc (.cells (stA V1 S.num) 29)) = X at *
  have HG0 := Lib.hid hG0
  have HR1 := Lib.hid hR1
  clear hG0 hR1
  go_loopw [16] (fun i wr => ∃ (k : Nat) (Sk : St) (Vk : SV), k ≤ l.length ∧ i = .int .i64 k ∧ Kept (fun k => k = q7) X wr ∧ wr.blk q7 = stA Vk Sk.num ∧ wr.free q7 = true ∧ RepSt wr Vk Sk ∧ (∀ b, Vk.uses b → q4 < b ∧ b < wr.heap.size ∧ b ≠ q7) ∧ SmallN Sk (n + k) ∧ Hid (runL Sk (l.drop k) = .ok T)) (fun i _ => l.length - (intOf i).toNat)
  case atStart => exact ⟨0, S, V1, by omega, rfl, Kept.refl _ _, hb7, hf7, HR1.out, fun b hb => by have := HOV.out b hb; exact ⟨this.1, by omega, by omega⟩, HSN.out, HT.out⟩
  case round =>
    obtain ⟨k, Sk, Vk, hk, rfl, hK, hbk, hfk, hRk, hOk, hSk, hTk⟩ := hrel
    have hxs := hK.size
    have hl7 : q7 < wr.heap.size := by omega
    have hl4 : q4 < wr.heap.size := by omega
    have hb4k : wr.blk q4 = stA SV.zero fun _ => 0 := by rw [hK.blk q4 (by omega) (fun h => by have h : q4 = q7 := h; omega)]; exact hb4
    have hf4k : wr.free q4 = true := by rw [hK.free q4 (by omega) (fun h => by have h : q4 = q7 := h; omega)]; exact hf4
    have hc7 := cell_of_blk hfk hbk
    have hx7 : ¬ q7 = wr.heap.size := by omega
    have hx4 : ¬ q4 = wr.heap.size := by omega
    by_cases hlt : k < l.length
    · obtain ⟨qb, qw, qsz, qsub, _⟩ := ((HRL.out.grow HG0.out).kept hK (fun hl h => by have := HSB.out hl; have h : sl.b = q7 := h; omega)).at (by omega) k hlt
      have hdr := hTk.out
      rw [List.drop_eq_getElem_cons hlt, show l[k] = rowAt l k by simp [rowAt, hlt]] at hdr
      simp only [runL] at hdr
      generalize rowAt l k = row at *
      cases hd : doEv Sk row with
      | error m => rw [hd] at hdr; cases hdr
      | ok T1 =>
        rw [hd] at hdr
        have HD : Hid (runL T1 (l.drop (k + 1)) = .ok T) := hdr
        have HS1 := Lib.hid (doEv_small hSk hd)
        have HAp := Lib.hid (fun W (g : Grow wr W) => apply_ok Sk Vk row qw W (hRk.grow g) (hSk.small (by omega)) T1 hd)
        unfold AppPost at HAp
        have HKx := Lib.hid hK
        have HSt := Lib.hid (fun (W : World) (g : Grow wr W) V' num' => run_store_all (W := W) (b := q7) (by rw [(g.kept (fun _ => False)).free q7 hl7 (fun h => h)]; exact hfk) (by rw [(g.kept (fun _ => False)).blk q7 hl7 (fun h => h)]; exact hbk) V' num')
        clear hd hdr hTk hK hRk hOk hSk
        go_wp2_with (go_at_call 51; refine (HAp.out _ grI).mono ?_; rintro e' w' ⟨V', rfl, hR', hO', n2, rfl⟩; have HR' := Lib.hid hR'; have HO' := Lib.hid hO'; clear hR' hO')
        go_roundw
        case rel =>
          have hg : Grow (wr.setRow q7 (stA V' T1.num)) ((((wr.setRow q7 (stA V' T1.num)).alloc (.cells (cellsOf row) 91)).plus n2).alloc (.cells (stA V' T1.num) 29)) := grI
          have hkg := hg.kept (fun _ => False)
          have ho := HO'.out
          simp only [plus_size, alloc_size'] at ho
          have hr0 := (HR'.out.off12 (b := q7) (W' := ((wr.setRow q7 (stA V' T1.num)).alloc (.cells (cellsOf row) 91)).plus n2) (by repeat (first | exact Off.setRow2 _ _ _ _ | exact Off.setRow _ _ _ | refine Off.plus ?_ _ | refine Off.alloc ?_ _)) (fun h => by have := (ho _ h).1; omega))
          refine ⟨k + 1, T1, V', by omega, by go_num, (HKx.out.trans ((Kept.refl (fun k => k = q7) wr).setRow q7 _ (fun _ => rfl)) (fun _ _ h => h)).trans hkg (fun _ _ h => h.elim), ?_, ?_, hr0.grow grI, fun b hb => ?_, by rw [← Nat.add_assoc]; exact HS1.out, HD⟩
          · rw [hkg.blk q7 (by rw [size_setRow]; exact hl7) (fun h => h), blk_setRow _ _ _ _ hfk, if_pos rfl]
          · rw [hkg.free q7 (by rw [size_setRow]; exact hl7) (fun h => h), free_setRow]; exact hfk
          · have := ho b hb
            simp only [plus_size, alloc_size', size_setRow]
            exact ⟨by omega, by omega, by omega⟩
        case measure => simp [intOf]; omega
    · have hkl : k = l.length := by omega
      subst hkl
      rw [List.drop_length] at hTk
      have hTe : Sk = T := by have := hTk.out; simp only [runL] at this; exact Except.ok.inj this
      subst hTe
      have hst4 := fun V' num' => run_store_all hf4k hb4k V' num'
      have HKx := Lib.hid hK
      have HRk := Lib.hid hRk
      have HOk := Lib.hid hOk
      clear hTk hK hRk hOk hSk
      go_wp2_with fail
      have hbf : (wr.setRow q4 (stA Vk Sk.num)).blk q4 = stA Vk Sk.num := by rw [blk_setRow _ _ _ _ hf4k, if_pos rfl]
      have k4 : Kept (fun k => k = q4) wr (wr.setRow q4 (stA Vk Sk.num)) := (Kept.refl _ _).setRow q4 _ (fun _ => rfl)
      refine bodyPost_ret (results3_State rfl _ _ q4 rfl ?_) rfl ?_
      · rw [hbf]; exact stA_size _ _
      · refine ⟨Vk, by rw [hbf]; go_simp, HRk.out.kept k4 (fun b hb h => by have := (HOk.out b hb).1; have h : b = q4 := h; omega), fun b hb => ?_, ?_⟩
        · have := HOk.out b hb
          rw [size_setRow]
          exact ⟨by omega, this.2.1⟩
        · exact ((HKx.out.mono (o2 := fun k => k = q7 ∨ k = q4) (fun _ _ h => Or.inl h)).trans k4 (fun _ _ h => Or.inr h)).grow_of HG0.out (fun k h => by rcases h with h | h <;> omega)
end Go.Proofs.YtkbghjfagnjpoaaGreatDoor
