/-
  The walks of a game's Commit and Rewind, where nothing is refused.
-/
import Derived.Test.YtmmkmhpchoelkaaDoorGame
namespace Go.Proofs.YtmmkmhpchoelkaaDoor
open Go Go.RowKit Go.Shelf

theorem firstBad_run {S S' : St} : ∀ {i : Nat} {l : List (List Int)}, runEv S i l = .ok S' → firstBad l = 0
  | _, [], _ => rfl
  | i, e :: l, h => by
    rw [runEv] at h
    cases hd : doEv S e with
    | error n => rw [hd] at h; cases h
    | ok S1 =>
      rw [hd] at h
      have hc : evCheck e = 0 := by
        by_cases c : evCheck e = 0
        · exact c
        · unfold doEv at hd; rw [if_pos c] at hd; cases hd
      rw [firstBad, if_neg (fun h => h hc)]
      exact firstBad_run h
theorem run_small {S' : St} : ∀ {l : List (List Int)} {S : St} {i n : Nat}, SmallN S n → runEv S i l = .ok S' → SmallN S' (n + l.length)
  | [], S, i, n, h, hr => by rw [runEv] at hr; cases hr; exact h
  | e :: l, S, i, n, h, hr => by
    rw [runEv] at hr
    cases hd : doEv S e with
    | error m => rw [hd] at hr; cases hr
    | ok S1 =>
      rw [hd] at hr
      have := run_small (doEv_small h hd) hr
      rw [List.length_cons, show n + (l.length + 1) = n + 1 + l.length by omega]
      exact this
/-- The game behind a commit. -/
def Gs.commit (G : Gs) (S' : St) (l : List (List Int)) : Gs := { G with now := S', jn := G.jn.mark.add l }
@[go_sem] theorem gmR_0' (sd : Sl) (jb : Nat) (h : 0 < (gmR sd jb).size) : (gmR sd jb)[0]'h = sd.val := rfl
@[go_sem] theorem gmR_1' (sd : Sl) (jb : Nat) (h : 1 < (gmR sd jb).size) : (gmR sd jb)[1]'h = .pointer (some ⟨jb, 0, none⟩) := rfl
/-- A game behind a new state and a turned journal. -/
theorem turn_post {w W1 w3 : World} {b jb : Nat} {own : Nat → Prop} {V V' : SV} {sd se sm se2 sm2 : Sl} {G : Gs} {S' : St} {J2 : Jn} (hr : RepG w b V sd jb se sm G) (ho : ∀ k, own k ↔ gmOwn b V sd jb se sm k) (g : Grow w W1) (hR : RepSt W1 V' S') (hU : ∀ k, V'.uses k → w.heap.size ≤ k ∧ k < W1.heap.size)
    (K3 : Kept (jnOwn jb se sm) W1 w3) (hJ : RepJ w3 jb se2 sm2 J2) (hO : ∀ k, jnOwn jb se2 sm2 k → jnOwn jb se sm k ∨ (W1.heap.size ≤ k ∧ k < w3.heap.size)) : GPost w b own { now := S', draws := G.draws, jn := J2 } (w3.setRow b (hoA V' S'.num (gmR sd jb))) := by
  have hl := hr.host.lt
  have K : Kept (jnOwn jb se sm) w w3 := (g.kept _).trans K3 (fun _ _ h => h)
  have hf3 : w3.free b = true := by rw [K.free b hl hr.apJ]; exact hr.host.free
  have k1 : Kept (fun k => k = b) w3 (w3.setRow b (hoA V' S'.num (gmR sd jb))) := (Kept.refl _ _).setRow b _ (fun _ => rfl)
  have hjl : ∀ k, jnOwn jb se sm k → k < w.heap.size := hr.jn.own_lt
  have hV : ∀ k, V'.uses k → ¬ jnOwn jb se2 sm2 k := fun k hk h => by
    have h1 := hU k hk
    rcases hO k h with h2 | h2
    · have := hjl k h2; omega
    · omega
  have hb2 : ¬ jnOwn jb se2 sm2 b := fun h => by
    rcases hO b h with h2 | h2
    · exact hr.apJ h2
    · have := g.size; omega
  refine ⟨gmOwn b V' sd jb se2 sm2, ⟨V', sd, jb, se2, sm2, ⟨⟨by rw [blk_setRow _ _ _ _ hf3, if_pos rfl], by rw [free_setRow]; exact hf3, ?_, fun h => ?_, fun k hk => ?_⟩, ?_, fun k hk => ?_, ?_, hr.apD, hb2, hV, fun k hk h => ?_⟩, fun _ => Iff.rfl⟩, ?_, fun k hk => ?_⟩
  · exact (hR.kept K3 (fun k hk h => by have := hU k hk; have := hjl k h; omega)).kept k1 (fun k hk e => by have := hU k hk; have e : k = b := e; omega)
  · have := hU b h; omega
  · rw [size_setRow]; have := hU k hk; have := K3.size; omega
  · exact (hr.drs.kept K (fun h h2 => hr.apDJ _ (owns_of hr.drs h) h2)).kept k1 (fun h e => hr.apD (by have e : sd.b = b := e; rw [← e]; exact owns_of hr.drs h))
  · rw [size_setRow]; have := hr.inD k hk; have := K.size; omega
  · exact hJ.kept k1 (fun k hk e => hb2 (by have e : k = b := e; rw [← e]; exact hk))
  · rcases hO k h with h2 | h2
    · exact hr.apDJ k hk h2
    · have := hr.inD k hk; have := g.size; omega
  · exact (K.mono (o2 := own) (fun k _ h => (ho k).2 (Or.inr (Or.inr (Or.inr h))))).trans k1 (fun k _ e => (ho k).2 (Or.inl e))
  · rw [size_setRow]
    rcases hk with h | h | h | h
    · exact Or.inl ((ho k).2 (Or.inl h))
    · have := hU k h; have := K3.size; exact Or.inr (by omega)
    · exact Or.inl ((ho k).2 (Or.inr (Or.inr (Or.inl h))))
    · rcases hO k h with h2 | h2
      · exact Or.inl ((ho k).2 (Or.inr (Or.inr (Or.inr h2))))
      · have := g.size; exact Or.inr (by omega)
set_option maxRecDepth 100000 in
set_option maxHeartbeats 4000000 in
theorem gcommit_ok (w : World) (b : Nat) (own : Nat → Prop) (G : Gs) (R : Game w b own G) (K : GmOk G) (GL : Glob w) (sl : Sl) (l : List (List Int)) (RL : Rows' w sl 6 l) (hsl : 0 < l.length → ¬ own sl.b) (S' : St) (hrun : runEv G.now 0 l = .ok S') (hck : checkN S' = 0) (hlen : (l.length : Int) ≤ 65536 - G.jn.evs.length) (hlast : G.jn.last < 1000000) (hmany : G.jn.marks.length < 1000000) :
    Calls Tryd.prog 9 #[.pointer (some ⟨b, 0, none⟩), sl.val] w fun e w' => e = .returned (.tuple #[.int .i64 (G.jn.last + 1), .nilIface]) ∧ GPost w b own (G.commit S' l) w' := by
  obtain ⟨V, sd, jb, se, sm, hr, ho⟩ := R
  have hH := hr.host
  have hcell := cell_of_blk (hH).free (hH).blk; have hfz := frozen_of_free (hH).free; have hset := setCell_of_blk (hH).free (hH).blk; have hblk := (hH).blk; have hfree := (hH).free; have hlt := (hH).lt; have hne1 : ¬ b = (w).heap.size := (by omega); have hne2 : ¬ (w).heap.size = b := (by omega)
  have hln : l.length ≤ 65536 := by omega
  have hevs := K.jn.evsN
  have hl0 := K.jn.last0
  have hn2 : ¬ (65536 - (G.jn.evs.length : Int)) < (l.length : Int) := by omega
  have hsn := RL.len
  have hSm := run_small K.small hrun
  have HRun := Lib.hid (run_any G.now V w hr.host.rep 100000 K.small sl l RL (by omega))
  have HS := Lib.hid (hSm.small (by omega))
  rw [hrun] at HRun
  have HBad := Lib.hid (firstBad_run hrun)
  have HCK := Lib.hid hck
  have HR := Lib.hid hr
  have HO := Lib.hid ho
  have HRL := Lib.hid RL
  have HK := Lib.hid K
  have HGL := Lib.hid GL
  have HSL := Lib.hid hsl
  have hjl : jb < w.heap.size := hr.jn.lt
  have hjc := cell_of_blk hr.jn.free hr.jn.blk
  clear hrun hck hr ho hH hSm RL K GL hsl
  go_enter Tryd.func9, Tryd.ntmps9
  go_wp2_with (first | (go_at_call 26; refine HRun.out.mono ?_; rintro e' w' ⟨V', rfl, hR', hu, nx, rfl⟩; have HR' := Lib.hid hR'; have HU := Lib.hid hu; clear hR' hu) | (go_at_call 21; refine (check_any S' V' _ (HR'.out.grow (by repeat (first | exact Grow.refl _ | refine Grow.andr ?_ | refine Grow.plus ?_ _ | refine Grow.alloc ?_ _ | refine Grow.drew ?_ | refine Grow.drewN ?_ _))) HS.out (HGL.out.grow (by repeat (first | exact Grow.refl _ | refine Grow.andr ?_ | refine Grow.plus ?_ _ | refine Grow.alloc ?_ _ | refine Grow.drew ?_ | refine Grow.drewN ?_ _)))).mono ?_; rw [HCK.out]; rintro e' w' ⟨rfl, ny, rfl⟩) | (go_at_call 27; refine (jlen_any _ jb se sm G.jn (HR.out.jn.grow (by repeat (first | exact Grow.refl _ | refine Grow.andr ?_ | refine Grow.plus ?_ _ | refine Grow.alloc ?_ _ | refine Grow.drew ?_ | refine Grow.drewN ?_ _)))).mono ?_; rintro e' w' ⟨rfl, hww⟩; subst w'))
  have hgW : Grow w (((w.plus nx).alloc (.cells (stA V' S'.num) 29)).plus ny) := (by repeat (first | exact Grow.refl _ | refine Grow.andr ?_ | refine Grow.plus ?_ _ | refine Grow.alloc ?_ _ | refine Grow.drew ?_ | refine Grow.drewN ?_ _))
  have hgX : Grow (w.plus nx) (((w.plus nx).alloc (.cells (stA V' S'.num) 29)).plus ny) := (by repeat (first | exact Grow.refl _ | refine Grow.andr ?_ | refine Grow.plus ?_ _ | refine Grow.alloc ?_ _ | refine Grow.drew ?_ | refine Grow.drewN ?_ _))
  have hqz : (((w.plus nx).alloc (.cells (stA V' S'.num) 29)).plus ny).blk (w.heap.size + nx.objs.size) = stA V' S'.num := by go_simp
  have hqs : w.heap.size + nx.objs.size < (((w.plus nx).alloc (.cells (stA V' S'.num) 29)).plus ny).heap.size := by rw [plus_size, alloc_size', plus_size]; omega
  refine (jmark_any _ jb se sm G.jn (HR.out.jn.grow hgW) hl0 (by omega) (by omega)).mono ?_
  rintro e' w2 ⟨rfl, se1, sm1, hJ1, hK1, hO1⟩
  generalize ((w.plus nx).alloc (.cells (stA V' S'.num) 29)).plus ny = W1 at *
  have hjl := HR.out.jn.own_lt
  have hb2 : w2.blk b = hoA V G.now.num (gmR sd jb) := by rw [hK1.blk b (by have := hgW.size; omega) HR.out.apJ, blk_grow hgW hlt]; exact hblk
  have hf2 : w2.free b = true := by rw [hK1.free b (by have := hgW.size; omega) HR.out.apJ, (hgW.kept (fun _ => False)).free b hlt (fun h => h)]; exact hfree
  have hc2 := cell_of_blk hf2 hb2
  have hl2 : b < w2.heap.size := free_lt hf2
  have hRL2 : Rows' w2 sl 6 l := (HRL.out.grow hgW).kept hK1 (fun h h2 => HSL.out h ((HO.out _).2 (Or.inr (Or.inr (Or.inr h2)))))
  have HJ1 := Lib.hid hJ1
  have HK1 := Lib.hid hK1
  have HO1 := Lib.hid hO1
  have HJL := Lib.hid hjl
  have HQZ := Lib.hid hqz
  have HRL2 := Lib.hid hRL2
  have HGW := Lib.hid hgW
  have HGX := Lib.hid hgX
  have HQS := Lib.hid hqs
  clear hJ1 hK1 hO1 hjl hcell hset hfz hjc hqz hRL2 hgW hgX hqs
  go_wp2_with fail
  refine (jadd_ok w2 jb se1 sm1 G.jn.mark HJ1.out sl l HRL2.out hlen HBad.out).mono ?_
  rintro e' w3 ⟨rfl, se2, sm2, hJ2, hK2, hO2⟩
  have hK3 : Kept (jnOwn jb se sm) W1 w3 := HK1.out.trans hK2 (fun k hk h => by
    rcases HO1.out k h with h2 | h2
    · exact h2
    · omega)
  have hO3 : ∀ k, jnOwn jb se2 sm2 k → jnOwn jb se sm k ∨ (W1.heap.size ≤ k ∧ k < w3.heap.size) := fun k hk => by
    rcases hO2 k hk with h | h
    · rcases HO1.out k h with h2 | h2
      · exact Or.inl h2
      · exact Or.inr ⟨h2.1, Nat.lt_of_lt_of_le h2.2 hK2.size⟩
    · exact Or.inr ⟨Nat.le_trans HK1.out.size h.1, h.2⟩
  have hb3 : w3.blk b = hoA V G.now.num (gmR sd jb) := by rw [hK3.blk b (by have := HGW.out.size; omega) HR.out.apJ, blk_grow HGW.out hlt]; exact hblk
  have hf3 : w3.free b = true := by rw [hK3.free b (by have := HGW.out.size; omega) HR.out.apJ, (HGW.out.kept (fun _ => False)).free b hlt (fun h => h)]; exact hfree
  have hl3 : b < w3.heap.size := free_lt hf3
  have hz3 : w3.blk (w.heap.size + nx.objs.size) = stA V' S'.num := by rw [hK3.blk _ HQS.out (fun h => by have := HJL.out _ h; omega)]; exact HQZ.out
  have hst := run_store_host w3 b V V' G.now.num S'.num _ hb3 hf3
  have HJ2 := Lib.hid hJ2
  have HK3 := Lib.hid hK3
  have HO3 := Lib.hid hO3
  clear hJ2 hK2 hO2 hK3 hO3 hb2 hf2 hc2 hl2
  go_wp2_with fail
  go_ret2
  exact ⟨rfl, turn_post HR.out HO.out HGW.out (HR'.out.grow HGX.out) (fun k hk => by have := HU.out k hk; have := HGX.out.size; omega) HK3.out HJ2.out HO3.out⟩
theorem span_len (J : Jn) (c : Int) : (J.span c).length ≤ J.evs.length := by unfold Jn.span; simp
theorem span_wid {w : World} {b : Nat} {se sm : Sl} {J : Jn} (R : RepJ w b se sm J) (c : Int) : ∀ i, i < (J.span c).length → (rowAt (J.span c) i).length = 6 := by
  intro i hi
  unfold Jn.span at hi ⊢
  generalize (gt (rowAt J.marks (ahead J.marks c)) 1).toNat = k at *
  simp at hi
  have : rowAt (J.evs.drop k) i = rowAt J.evs (k + i) := by simp [rowAt, List.getD, List.getElem?_drop]
  rw [this]; exact R.evs.wid _ (by omega)
/-- The game behind a going back. -/
def Gs.rewind (G : Gs) (S' : St) (c : Int) : Gs := { G with now := S', jn := G.jn.cut (ahead G.jn.marks c) }
set_option maxRecDepth 100000 in
set_option maxHeartbeats 4000000 in
theorem grewind_ok (w : World) (b : Nat) (own : Nat → Prop) (G : Gs) (R : Game w b own G) (K : GmOk G) (c : Int) (hlv : G.jn.live c) (S' : St) (hrun : runEv G.now 0 (invL (G.jn.span c)) = .ok S') :
    Calls Tryd.prog 33 #[.pointer (some ⟨b, 0, none⟩), .int .i64 c] w fun e w' => e = .returned .nilIface ∧ GPost w b own (G.rewind S' c) w' := by
  obtain ⟨V, sd, jb, se, sm, hr, ho⟩ := R
  have hH := hr.host
  have hcell := cell_of_blk (hH).free (hH).blk; have hfz := frozen_of_free (hH).free; have hset := setCell_of_blk (hH).free (hH).blk; have hblk := (hH).blk; have hfree := (hH).free; have hlt := (hH).lt; have hne1 : ¬ b = (w).heap.size := (by omega); have hne2 : ¬ (w).heap.size = b := (by omega)
  have hlen := span_len G.jn c
  have hevs := K.jn.evsN
  have hwid := span_wid hr.jn c
  have HSp := Lib.hid (jspan_live w jb se sm G.jn hr.jn K.jn c hlv)
  have HBk := Lib.hid (fun W (g : Grow w W) => jback_live W jb se sm G.jn (hr.jn.grow g) K.jn c hlv)
  have HUn := Lib.hid (fun W (g : Grow w W) s' (r : Rows' W s' 6 (G.jn.span c)) => undo_any G.now V W (hr.host.rep.grow g) 100000 K.small s' (G.jn.span c) r (by omega))
  rw [hrun] at HUn
  have HWID := Lib.hid hwid
  have HR := Lib.hid hr
  have HO := Lib.hid ho
  have hjl : jb < w.heap.size := hr.jn.lt
  unfold Gs.rewind
  generalize G.jn.span c = sp at *
  generalize ahead G.jn.marks c = na at *
  clear hrun hr ho hH K hwid hlv
  go_enter Tryd.func33, Tryd.ntmps33
  go_wp2_with (first | (go_at_call 54; refine HSp.out.mono ?_; rintro e' w' ⟨s1, rfl, hS1, nx, rfl⟩; have HS1 := Lib.hid hS1; clear hS1) | (go_at_call 57; refine (HUn.out _ (by repeat (first | exact Grow.refl _ | refine Grow.andr ?_ | refine Grow.plus ?_ _ | refine Grow.alloc ?_ _ | refine Grow.drew ?_ | refine Grow.drewN ?_ _)) s1 ((HS1.out.grow (by repeat (first | exact Grow.refl _ | refine Grow.andr ?_ | refine Grow.plus ?_ _ | refine Grow.alloc ?_ _ | refine Grow.drew ?_ | refine Grow.drewN ?_ _))).rows (by omega) HWID.out)).mono ?_; rintro e' w' ⟨V', rfl, hR', hu, ny, rfl⟩; have HR' := Lib.hid hR'; have HU := Lib.hid hu; clear hR' hu))
  have hgW : Grow w ((w.plus (nx.and ny)).alloc (.cells (stA V' S'.num) 29)) := (by repeat (first | exact Grow.refl _ | refine Grow.andr ?_ | refine Grow.plus ?_ _ | refine Grow.alloc ?_ _ | refine Grow.drew ?_ | refine Grow.drewN ?_ _))
  have hgX : Grow ((w.plus nx).plus ny) ((w.plus (nx.and ny)).alloc (.cells (stA V' S'.num) 29)) := by rw [plus_plus]; exact (by repeat (first | exact Grow.refl _ | refine Grow.andr ?_ | refine Grow.plus ?_ _ | refine Grow.alloc ?_ _ | refine Grow.drew ?_ | refine Grow.drewN ?_ _))
  have hgY : Grow w (w.plus nx) := ⟨nx, rfl⟩
  have hqz : ((w.plus (nx.and ny)).alloc (.cells (stA V' S'.num) 29)).blk (w.heap.size + (nx.and ny).objs.size) = stA V' S'.num := by go_simp
  have hqs : w.heap.size + (nx.and ny).objs.size < ((w.plus (nx.and ny)).alloc (.cells (stA V' S'.num) 29)).heap.size := by rw [alloc_size', plus_size]; omega
  refine (HBk.out _ hgW).mono ?_
  generalize (w.plus (nx.and ny)).alloc (.cells (stA V' S'.num) 29) = W1 at *
  rintro e' w3 ⟨⟨s2, rfl⟩, se2, sm2, hJ2, hK3, hO3⟩
  have hjn := HR.out.jn.own_lt
  have hb3 : w3.blk b = hoA V G.now.num (gmR sd jb) := by rw [hK3.blk b (by have := hgW.size; omega) HR.out.apJ, blk_grow hgW hlt]; exact hblk
  have hf3 : w3.free b = true := by rw [hK3.free b (by have := hgW.size; omega) HR.out.apJ, (hgW.kept (fun _ => False)).free b hlt (fun h => h)]; exact hfree
  have hl3 : b < w3.heap.size := free_lt hf3
  have hz3 : w3.blk (w.heap.size + (nx.and ny).objs.size) = stA V' S'.num := by rw [hK3.blk _ hqs (fun h => by have := hjn _ h; omega)]; exact hqz
  have hst := run_store_host w3 b V V' G.now.num S'.num _ hb3 hf3
  have HJ2 := Lib.hid hJ2
  have HK3 := Lib.hid hK3
  have HO3 := Lib.hid hO3
  have HGW := Lib.hid hgW
  have HGX := Lib.hid hgX
  have HGY := Lib.hid hgY
  clear hJ2 hK3 hO3 hjn hcell hset hfz hqz hgW hgX hqs hgY
  go_wp2_with fail
  go_ret
  exact ⟨rfl, turn_post HR.out HO.out HGW.out (HR'.out.grow HGX.out) (fun k hk => by have := HU.out k hk; have := HGX.out.size; have := HGY.out.size; omega) HK3.out HJ2.out HO3.out⟩
end Go.Proofs.YtmmkmhpchoelkaaDoor
