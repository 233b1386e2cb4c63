/- The document's events: a making, and its undoing. -/
import Derived.Test.YtgobdndjemicjaaGreatDoorMRef12
import Derived.Test.YtgobdndjemicjaaGreatDoorMMade
import Derived.Test.YtgobdndjemicjaaGreatDoorMRtN
import Derived.Test.YtgobdndjemicjaaGreatDoorMF1
import Derived.Test.YtgobdndjemicjaaGreatDoorMAc1
namespace Go.Proofs.YtgobdndjemicjaaGreatDoor
open Go Go.RowKit
@[go_sem] theorem zym (w : World) : (za2 77 #[]).run Tryz.prog w = .ok (.value (.agg (cellsOf [0, 0, 0, 0, 0, 0, 0, 0, 0, 0, 0, 0, 0, 0, 0, 0, 0, 0]))) w := by kernel_rfl
def Sl.fst (s : Sl) (i : Nat) : Sl := match s with
 | .nil => .nil
 | .mk b o _ c => .mk b o i c
section
variable {P : Program} (w : World)
theorem zib {t e : TypeId} {k : Nat} (ht : P.underlying t = some (.slice e)) (hk : ∀ w, (sizeOf e).run P w = .ok k w) (s : Sl) (q : IntKind) (i : Int) (h0 : 0 ≤ i) (h1 : i ≤ s.c) :
 (Instr.slice t s.val none (some (.int q i)) none).run P w = .ok (s.fst i.toNat).val w := by
 have hi : (i.toNat : Int) = i := Int.toNat_of_nonneg h0
 cases s with
 | nil =>
   have : i = 0 := by simp [Sl.c] at h1; omega
   subst this
   simp [Instr.slice, Sl.val, Sl.fst, run_underlying ht, hk, Instr.sliceBounds, run_sliceBound]
 | mk b o n c =>
   simp only [Sl.c] at h1
   simp only [Instr.slice, Sl.val, Sl.fst, Sem.run_bind, run_underlying ht, Result.andThen_ok, Instr.sliceBounds, Sem.run_pure, run_sliceBound w q i c _ h0 h1, hk]
   split <;> simp [Addr.add]
end
@[go_sem] theorem z04 (w : World) (s : Sl) (q : IntKind) (i : Int) (h0 : 0 ≤ i) (h1 : i ≤ s.c) : (Instr.slice 23 s.val none (some (.int q i)) none).run Tryz.prog w = .ok (s.fst i.toNat).val w :=
 zib (k := 1) w Tryz.underlying23 (fun w => by kernel_rfl) s q i h0 h1
@[go_sem] theorem z05 (w : World) (s : Sl) (q : IntKind) (i : Int) (h0 : 0 ≤ i) (h1 : i ≤ s.c) : (Instr.slice 22 s.val none (some (.int q i)) none).run Tryz.prog w = .ok (s.fst i.toNat).val w :=
 zib (k := 18) w Tryz.underlying22 (fun w => by kernel_rfl) s q i h0 h1
theorem Ints.fst {w : World} {s : Sl} {l : List Int} (h : Ints w s l) (k : Nat) (hk : k ≤ l.length) : Ints w (s.fst k) (l.take k) := by
 cases s with
 | nil =>
   have hn := h.len
   have : k = 0 := by simp [Sl.n] at hn; omega
   subst this
   exact ⟨rfl, Nat.le_refl _, fun i hi => by simp at hi⟩
 | mk b o n c => exact Ints.cut h k c hk (by have h1 := h.len; have h2 := h.cap; simp only [Sl.n, Sl.c] at h1 h2; omega)
theorem Rows'.fst {w : World} {s : Sl} {k : Nat} {l : List (List Int)} (h : Rows' w s k l) (m : Nat) (hm : m ≤ l.length) : Rows' w (s.fst m) k (l.take m) := by
 cases s with
 | nil =>
   have hn := h.len
   have h0 : m = 0 := by simp [Sl.n] at hn; omega
   subst h0
   exact Rows'.nil _ _
 | mk b o n c => exact Rows'.cut h m c hm (by have h1 := h.len; have h2 := h.cap; simp only [Sl.n, Sl.c] at h1 h2; omega)
theorem zzn {W : World} {q4 q7 : Nat} {V : SV} {num : Nat → Int} (hf7 : W.free q7 = true) (hf : W.free q4 = true) (hb : W.blk q4 = stA V num) (hq : ¬ q4 = q7) (cs : Array Value) (V' : SV) (num' : Nat → Int) :
 (zas 29 (.pointer (some ⟨q4, 0, none⟩)) (.agg (stA V' num'))).run Tryz.prog (W.setRow q7 cs) = .ok .skip ((W.setRow q7 cs).setRow q4 (stA V' num')) := by
 have e : ∀ V num, hoA V num #[] = stA V num := fun V num => by simp [hoA]
 have h := ze2 (W.setRow q7 cs) q4 V V' num num' #[] (by rw [za1 _ _ _ _ hf7, if_neg hq, e]; exact hb) (by rw [za7]; exact hf)
 rw [e] at h
 exact h
theorem z3j {w X X1 X2 : World} {V1 : SV} {S : St} {row : List Int} {s1 s2 : Sl} {q4 q7 : Nat} {o1 o2 : Obj} {cs cs2 cs3 : Array Value} (hrl : row.length = 18) (hF : Fresh (w.heap.size + 3) X V1 S) (hG : Grow w X) (hV : ∀ k, V1.uses k → w.heap.size + 3 ≤ k ∧ k < q7) (hq : q4 = w.heap.size + 1 + 1) (hq47 : q4 < q7) (hsz : X.heap.size = q7 + 1 + 1)
 (c1 : Cells X1 s1 18 (zci S.objs ++ zci [row])) (c3 : Kept V1.objs.owns (X.alloc o1) X1) (c4 : ∀ b, s1.owns b → V1.objs.owns b ∨ (X.alloc o1).heap.size ≤ b ∧ b < X1.heap.size)
 (d1 : Cells X2 s2 1 ((S.list 10).map I ++ [I (S.objs.length : Int)])) (d3 : Kept (V1.list 10).owns ((X1.setRow q7 cs).alloc o2) X2) (d4 : ∀ b, s2.owns b → (V1.list 10).owns b ∨ ((X1.setRow q7 cs).alloc o2).heap.size ≤ b ∧ b < X2.heap.size) :
 RepSt ((X2.setRow q7 cs2).setRow q4 cs3) ⟨s1, upd V1.list 10 s2⟩ { S with objs := S.objs ++ [row], list := upd S.list 10 (S.list 10 ++ [(S.objs.length : Int)]) } ∧ (∀ b, (⟨s1, upd V1.list 10 s2⟩ : SV).uses b → w.heap.size ≤ b ∧ b < ((X2.setRow q7 cs2).setRow q4 cs3).heap.size) ∧ Grow w ((X2.setRow q7 cs2).setRow q4 cs3) := by
 have k0 : Kept (fun _ => False) X (X.alloc o1) := (show Grow X (X.alloc o1) from grI).kept _
 have k1 : Kept (fun k => k = q7) X1 ((X1.setRow q7 cs).alloc o2) := ((Kept.refl (fun k => k = q7) X1).setRow q7 cs (fun _ => rfl)).trans ((show Grow (X1.setRow q7 cs) ((X1.setRow q7 cs).alloc o2) from grI).kept (fun k => k = q7)) (fun _ _ h => h)
 have k2 : Kept (fun k => k = q7 ∨ k = q4) X2 ((X2.setRow q7 cs2).setRow q4 cs3) := ((Kept.refl (fun k => k = q7 ∨ k = q4) X2).setRow q7 cs2 (fun _ => Or.inl rfl)).setRow q4 cs3 (fun _ => Or.inr rfl)
 have z1 := c3.size
 have z2 := d3.size
 have z3 := k2.size
 rw [zaa] at z1 z2
 rw [size_setRow] at z2
 rw [zaa] at c4 d4
 rw [size_setRow] at d4
 have hs1 : ∀ b, s1.owns b → w.heap.size + 3 ≤ b ∧ b < X1.heap.size ∧ b ≠ q7 ∧ b ≠ q4 ∧ ¬ (V1.list 10).owns b := fun b hb => by
  rcases c4 b hb with h | h
  · obtain ⟨h1, h2⟩ := hV b (.inl h)
    exact ⟨h1, by omega, by omega, by omega, fun h3 => hF.apO 10 (by omega) b h3 h⟩
  · exact ⟨by omega, h.2, by omega, by omega, fun h3 => by have := (hV b (.inr ⟨10, by omega, h3⟩)).2; omega⟩
 have hs2 : ∀ b, s2.owns b → w.heap.size + 3 ≤ b ∧ b < X2.heap.size ∧ b ≠ q7 ∧ b ≠ q4 := fun b hb => by
  rcases d4 b hb with h | h
  · obtain ⟨h1, h2⟩ := hV b (.inr ⟨10, by omega, h⟩)
    exact ⟨h1, by omega, by omega, by omega⟩
  · exact ⟨by omega, h.2, by omega, by omega⟩
 have hO : Cells ((X2.setRow q7 cs2).setRow q4 cs3) s1 18 (zci S.objs ++ zci [row]) :=
  ((c1.kept k1 (fun b hb => (hs1 b hb).2.2.1)).kept d3 (fun b hb => (hs1 b hb).2.2.2.2)).kept k2 (fun b hb h => by
    obtain ⟨_, _, h1, h2, _⟩ := hs1 b hb
    rcases h with h | h
    · exact h1 h
    · exact h2 h)
 refine ⟨⟨?_, fun z hz => ?_⟩, fun b hb => ?_, ?_⟩
 · refine Cells.rows (by rw [zdb]; exact hO) (by omega) (fun i hi => ?_)
   have hi : i < (S.objs ++ [row]).length := hi
   rw [List.length_append] at hi
   show (rowAt (S.objs ++ [row]) i).length = 18
   rw [zeu]
   split
   · rename_i h; exact hF.wid i h
   · rw [if_pos (by simp at hi; omega)]; exact hrl
 · show Ints _ (upd V1.list 10 s2 z) (upd S.list 10 (S.list 10 ++ [(S.objs.length : Int)]) z)
   by_cases e : z = 10
   · subst e
     rw [zan, zan]
     have := d1.kept k2 (fun b hb h => by
      obtain ⟨_, _, h1, h2⟩ := hs2 b hb
      rcases h with h | h
      · exact h1 h
      · exact h2 h)
     have e2 : (S.list 10).map I ++ [I (S.objs.length : Int)] = (S.list 10 ++ [(S.objs.length : Int)]).map I := by rw [List.map_append]; rfl
     rw [e2] at this
     exact this.ints
   · rw [zbc _ _ _ _ e, zbc _ _ _ _ e]
     have hz7 : ∀ b, (V1.list z).owns b → w.heap.size + 3 ≤ b ∧ b < q7 := fun b hb => hV b (.inr ⟨z, hz, hb⟩)
     exact ((((((hF.list z hz).cells.kept k0 (fun _ _ h => h)).kept c3 (fun b hb h => hF.apO z hz b hb h)).kept k1 (fun b hb h => by have := (hz7 b hb).2; have h : b = q7 := h; omega)).kept d3 (fun b hb h => hF.apL z 10 hz (by omega) e b hb h)).kept k2 (fun b hb h => by
      have := hz7 b hb
      rcases h with h | h <;> omega)).ints
 · rw [size_setRow, size_setRow]
   rcases hb with h | ⟨z, hz, h⟩
   · obtain ⟨h1, h2, _⟩ := hs1 b h
     exact ⟨by omega, by omega⟩
   · have h : (upd V1.list 10 s2 z).owns b := h
     by_cases e : z = 10
     · rw [e, zan] at h
       obtain ⟨h1, h2, _⟩ := hs2 b h
       exact ⟨by omega, h2⟩
     · rw [zbc _ _ _ _ e] at h
       have := hV b (.inr ⟨z, hz, h⟩)
       exact ⟨by omega, by omega⟩
 · have kk : Kept (fun k => w.heap.size ≤ k) X ((X2.setRow q7 cs2).setRow q4 cs3) :=
    ((((k0.mono (o2 := fun k => w.heap.size ≤ k) (fun _ _ h => h.elim)).trans c3 (fun k _ h => by have := (hV k (.inl h)).1; show w.heap.size ≤ k; omega)).trans k1 (fun k _ h => by have h : k = q7 := h; show w.heap.size ≤ k; omega)).trans d3 (fun k _ h => by have := (hV k (.inr ⟨10, by omega, h⟩)).1; show w.heap.size ≤ k; omega)).trans k2 (fun k _ h => by show w.heap.size ≤ k; rcases h with h | h <;> omega)
   exact kk.grow_of hG (fun _ h => h)
set_option maxRecDepth 100000 in
set_option maxHeartbeats 4000000 in
theorem zsq (S : St) (V : SV) (e : List Int) (he : e.length = 6) (w : World) (R : RepSt w V S) (hS : Small S) (hc : evCheck e = 0) (hk : gt e 0 = 0) (hn : S.objs.length < 400) :
 Calls Tryz.prog 171 #[.agg (stA V S.num), .agg (cellsOf e)] w (zdq w (.ok { S with objs := S.objs ++ [zdl e], list := upd S.list 10 (S.list 10 ++ [(S.objs.length : Int)]) })) := by
 have hck := fun W => zb7 e he W
 rw [hc] at hck
 have HC := Lib.hid hck
 have HR := Lib.hid R
 have HS := Lib.hid hS
 clear hck hc R hS
 have h400 : ¬ 400 ≤ (S.objs.length : Int) := by omega
 have h401 : (400 ≤ S.objs.length) = False := by simp; omega
 go_enter Tryz.func171, Tryz.ntmps171
 go_wp2_with (first | (go_at_call 116; refine (HC.out _).mono ?_; rintro e' w' ⟨rfl, n0, rfl⟩) | (go_at_call 55; refine (zcb S V _ (HR.out.grow grI) HS.out).mono ?_; rintro e' w' ⟨V1, rfl, hF, n1, rfl⟩; (try simp only [zad] at hF); (try simp only [zac] at hF); have HF := Lib.hid (hF.low (m := w.heap.size + 3) (by simp only [zab, zaa]; omega)); have hol := hF.rep.objs.len; clear hF))
 go_region_held3 (fun W => W.cell? ⟨w.heap.size + 1, 1, none⟩ = some (I (gt e 1)) ∧ W.cell? ⟨w.heap.size + 1, 2, none⟩ = some (I (gt e 2)) ∧ W.cell? ⟨w.heap.size + 1, 3, none⟩ = some (I (gt e 3))) (simp [go_sem, *]) (fail)
 have hG0 : Grow w (((((((w.alloc (.cells (stA V S.num) 29)).alloc (.cells (cellsOf e) 122)).alloc (.cells (stA SV.zero fun _ => 0) 29)).plus (n0.and n1)).alloc (.cells (stA V1 S.num) 29)).alloc (.cells (cellsOf [gt e 1, gt e 2, gt e 2, 10, 0, 0, 0, 0, 0, 0, 0, 0, 0, gt e 3, 0, 0, 0, 3]) 77)).drew) := grI
 have hFX := HF.out.grow (w' := (((((((w.alloc (.cells (stA V S.num) 29)).alloc (.cells (cellsOf e) 122)).alloc (.cells (stA SV.zero fun _ => 0) 29)).plus (n0.and n1)).alloc (.cells (stA V1 S.num) 29)).alloc (.cells (cellsOf [gt e 1, gt e 2, gt e 2, 10, 0, 0, 0, 0, 0, 0, 0, 0, 0, gt e 3, 0, 0, 0, 3]) 77)).drew)) grI
 have hVlt := HF.out.own
 simp only [zab, zaa] at hVlt
 obtain ⟨q7, hq7⟩ : ∃ q7, q7 = w.heap.size + 1 + 1 + 1 + (n0.and n1).objs.size := ⟨_, rfl⟩
 obtain ⟨q4, hq4⟩ : ∃ q4, q4 = w.heap.size + 1 + 1 := ⟨_, rfl⟩
 rw [← hq7] at hVlt
 have hb7 : (((((((w.alloc (.cells (stA V S.num) 29)).alloc (.cells (cellsOf e) 122)).alloc (.cells (stA SV.zero fun _ => 0) 29)).plus (n0.and n1)).alloc (.cells (stA V1 S.num) 29)).alloc (.cells (cellsOf [gt e 1, gt e 2, gt e 2, 10, 0, 0, 0, 0, 0, 0, 0, 0, 0, gt e 3, 0, 0, 0, 3]) 77)).drew).blk q7 = stA V1 S.num := by rw [hq7]; go_simp
 have hf7 : (((((((w.alloc (.cells (stA V S.num) 29)).alloc (.cells (cellsOf e) 122)).alloc (.cells (stA SV.zero fun _ => 0) 29)).plus (n0.and n1)).alloc (.cells (stA V1 S.num) 29)).alloc (.cells (cellsOf [gt e 1, gt e 2, gt e 2, 10, 0, 0, 0, 0, 0, 0, 0, 0, 0, gt e 3, 0, 0, 0, 3]) 77)).drew).free q7 = true := by rw [hq7]; go_simp
 have hb9 : (((((((w.alloc (.cells (stA V S.num) 29)).alloc (.cells (cellsOf e) 122)).alloc (.cells (stA SV.zero fun _ => 0) 29)).plus (n0.and n1)).alloc (.cells (stA V1 S.num) 29)).alloc (.cells (cellsOf [gt e 1, gt e 2, gt e 2, 10, 0, 0, 0, 0, 0, 0, 0, 0, 0, gt e 3, 0, 0, 0, 3]) 77)).drew).blk (q7 + 1) = cellsOf [gt e 1, gt e 2, gt e 2, 10, 0, 0, 0, 0, 0, 0, 0, 0, 0, gt e 3, 0, 0, 0, 3] := by rw [hq7]; go_simp
 have hb4 : (((((((w.alloc (.cells (stA V S.num) 29)).alloc (.cells (cellsOf e) 122)).alloc (.cells (stA SV.zero fun _ => 0) 29)).plus (n0.and n1)).alloc (.cells (stA V1 S.num) 29)).alloc (.cells (cellsOf [gt e 1, gt e 2, gt e 2, 10, 0, 0, 0, 0, 0, 0, 0, 0, 0, gt e 3, 0, 0, 0, 3]) 77)).drew).blk q4 = stA SV.zero fun _ => 0 := by rw [hq4]; go_simp
 have hf4 : (((((((w.alloc (.cells (stA V S.num) 29)).alloc (.cells (cellsOf e) 122)).alloc (.cells (stA SV.zero fun _ => 0) 29)).plus (n0.and n1)).alloc (.cells (stA V1 S.num) 29)).alloc (.cells (cellsOf [gt e 1, gt e 2, gt e 2, 10, 0, 0, 0, 0, 0, 0, 0, 0, 0, gt e 3, 0, 0, 0, 3]) 77)).drew).free q4 = true := by rw [hq4]; go_simp
 have hsz : (((((((w.alloc (.cells (stA V S.num) 29)).alloc (.cells (cellsOf e) 122)).alloc (.cells (stA SV.zero fun _ => 0) 29)).plus (n0.and n1)).alloc (.cells (stA V1 S.num) 29)).alloc (.cells (cellsOf [gt e 1, gt e 2, gt e 2, 10, 0, 0, 0, 0, 0, 0, 0, 0, 0, gt e 3, 0, 0, 0, 3]) 77)).drew).heap.size = q7 + 1 + 1 := by rw [hq7]; go_simp
 have HQ4 := Lib.hid hq4
 have hq47 : q4 < q7 := by omega
 have hw4 : w.heap.size < q4 := by omega
 have x47 : ¬ q4 = q7 := by omega
 have x74 : ¬ q7 = q4 := by omega
 rw [← hq7, ← hq4]
 clear hq4 hq7 HF
 generalize (((((((w.alloc (.cells (stA V S.num) 29)).alloc (.cells (cellsOf e) 122)).alloc (.cells (stA SV.zero fun _ => 0) 29)).plus (n0.and n1)).alloc (.cells (stA V1 S.num) 29)).alloc (.cells (cellsOf [gt e 1, gt e 2, gt e 2, 10, 0, 0, 0, 0, 0, 0, 0, 0, 0, gt e 3, 0, 0, 0, 3]) 77)).drew) = X at *
 generalize hrow : ([gt e 1, gt e 2, gt e 2, 10, 0, 0, 0, 0, 0, 0, 0, 0, 0, gt e 3, 0, 0, 0, 3] : List Int) = row at *
 have hrl : row.length = 18 := by rw [← hrow]; rfl
 have HROW : Hid (zdl e = row) := hrow
 have hvo : ∀ k, V1.objs.owns k → w.heap.size + 3 ≤ k ∧ k < q7 := fun k hk => hVlt k (.inl hk)
 have hvl : ∀ k, (V1.list 10).owns k → w.heap.size + 3 ≤ k ∧ k < q7 := fun k hk => hVlt k (.inr ⟨10, by omega, hk⟩)
 have HFX := Lib.hid hFX
 have HG0 := Lib.hid hG0
 have HVO := Lib.hid hvo
 have HVL := Lib.hid hvl
 have HVT := Lib.hid hVlt
 have hc7 := zae hf7 hb7
 have hx7 : ¬ q7 = X.heap.size := by omega
 have hx9 : ¬ q7 + 1 = X.heap.size := by omega
 have hx4 : ¬ q4 = X.heap.size := by omega
 have hy7 : q7 < X.heap.size := by omega
 have hy9 : q7 + 1 < X.heap.size := by omega
 have hy4 : q4 < X.heap.size := by omega
 clear hrow hFX hG0 hvo hvl hVlt
 have h10n := (HFX.out.rep.list 10 (by omega)).len
 have h10s := HS.out.list 10 (by omega)
 go_wp2_with (first | (at_builtin; refine zcs rfl _ _ 22 rfl 77 Tryz.t77 (.agg (cellsOf (List.replicate 18 0))) 18 144 Tryz.underlying22 (by kernel_rfl) (by kernel_rfl) (by kernel_rfl) (by kernel_rfl) (by omega) rfl V1.objs (.mk _ 0 1 1) (zci S.objs) (zci [row]) rfl rfl (HFX.out.objs.cells.grow grI) (HFX.out.objs.room.grow grI) (zdc _ _ 18 row hrl (by go_simp)) (zay _) (zay _) (by rw [hol]; show S.objs.length + 1 ≤ 4194304; omega) ?_; intro s1 X1 c1 c2 c3 c4 c5 c6; have b71 : X1.blk q7 = stA V1 S.num := (by rw [c3.blk q7 (by rw [zaa]; omega) (fun h => by have := (HVO.out _ h).2; omega)]; go_simp); have f71 : X1.free q7 = true := (by rw [c3.free q7 (by rw [zaa]; omega) (fun h => by have := (HVO.out _ h).2; omega)]; go_simp); have s71 := zah f71 b71; have z71 := zag f71; have e71 := zae f71 b71; have y71 : q7 + 1 < X1.heap.size := (by have := c3.size; rw [zaa] at this; omega); have x71 : ¬ q7 = X1.heap.size := (by omega); have x41 : ¬ q4 = X1.heap.size := (by omega); have b41 : X1.blk q4 = stA SV.zero fun _ => 0 := (by rw [c3.blk q4 (by rw [zaa]; omega) (fun h => by have := (HVO.out _ h).1; have := HQ4.out; omega)]; go_simp); have f41 : X1.free q4 = true := (by rw [c3.free q4 (by rw [zaa]; omega) (fun h => by have := (HVO.out _ h).1; have := HQ4.out; omega)]; go_simp); have HM1 := Lib.hid (fun cs => (((HFX.out.list 10 (by omega)).grow (show Grow X (X.alloc (.cells (cellsOf row) 77)) from grI)).kept12 c3 (HFX.out.apO 10 (by omega))).kept12 ((Kept.refl (fun k => k = q7) _).setRow q7 cs (fun _ => rfl)) (fun b hb e => by have := (HVL.out b hb).2; have e : b = q7 := e; omega)); have CC := Lib.hid (And.intro c1 (And.intro c2 (And.intro c3 (And.intro c4 c5)))); clear c1 c2 c3 c4 c5 c6) | (at_builtin; refine zcs rfl _ _ 23 rfl 3 Tryz.t3 (.int .i64 0) 1 8 Tryz.underlying23 (by kernel_rfl) (by kernel_rfl) (by kernel_rfl) (by kernel_rfl) (by omega) rfl (V1.list 10) (.mk _ 0 1 1) ((S.list 10).map I) [I (S.objs.length : Int)] rfl rfl ((HM1.out _).cells.grow grI) ((HM1.out _).room.grow grI) (zfi _ _ _ (by go_simp)) (zbn _) (zbn [(S.objs.length : Int)]) (by rw [h10n]; show (S.list 10).length + 1 ≤ 4194304; omega) ?_; intro s2 X2 d1 d2 d3 d4 d5 d6; have DD := Lib.hid (And.intro d1 (And.intro d2 (And.intro d3 (And.intro d4 d5)))); have b72 : X2.blk q7 = stA ⟨s1, V1.list⟩ S.num := (by rw [d3.blk q7 (by go_simp; omega) (fun h => by have := (HVL.out _ h).2; omega)]; go_simp); have f72 : X2.free q7 = true := (by rw [d3.free q7 (by go_simp; omega) (fun h => by have := (HVL.out _ h).2; omega)]; go_simp); have s72 := zah f72 b72; have z72 := zag f72; have e72 := zae f72 b72; have y72 : q7 + 1 < X2.heap.size := (by have := d3.size; rw [zaa, size_setRow] at this; omega); have b42 : X2.blk q4 = stA SV.zero fun _ => 0 := (by rw [d3.blk q4 (by go_simp; omega) (fun h => by have := (HVL.out _ h).1; have := HQ4.out; omega)]; go_simp); have f42 : X2.free q4 = true := (by rw [d3.free q4 (by go_simp; omega) (fun h => by have := (HVL.out _ h).1; have := HQ4.out; omega)]; go_simp); have st4 := zzn f72 f42 b42 (show ¬ q4 = q7 by omega); clear d1 d2 d3 d4 d5 d6))
 rw [HROW.out]
 refine bodyPost_ret (za3 rfl _ _ q4 rfl ?_) rfl ?_
 · rw [setRow2, za1 _ _ _ _ (by rw [za7]; exact f42), if_pos rfl]; exact zcr _ _
 · have hfin := z3j (cs2 := stA ⟨s1, upd V1.list 10 s2⟩ S.num) (cs3 := stA ⟨s1, upd V1.list 10 s2⟩ S.num) hrl HFX.out HG0.out HVT.out HQ4.out hq47 hsz CC.out.1 CC.out.2.2.1 CC.out.2.2.2.1 DD.out.1 DD.out.2.2.1 DD.out.2.2.2.1
   exact ⟨⟨s1, upd V1.list 10 s2⟩, by rw [setRow2, za1 _ _ _ _ (by rw [za7]; exact f42), if_pos rfl]; go_simp, hfin.1, hfin.2.1, hfin.2.2⟩
end Go.Proofs.YtgobdndjemicjaaGreatDoor
namespace Go.Proofs.YtgobdndjemicjaaGreatDoor
open Go Go.RowKit Go.Shelf
theorem zss (S : St) (V : SV) (c o k : Int) (w : World) (R : RepSt w V S) (hS : Small S) (hn : S.objs.length < 400) :
 Calls Tryz.prog 171 #[.agg (stA V S.num), .agg (cellsOf [0, c, o, k, 0, 0])] w (zdq w (zd5 S [0, c, o, k, 0, 0])) := by
 by_cases hc : evCheck [0, c, o, k, 0, 0] = 0
 · have hd : zd5 S [0, c, o, k, 0, 0] = .ok { S with objs := S.objs ++ [zdl [0, c, o, k, 0, 0]], list := upd S.list 10 (S.list 10 ++ [(S.objs.length : Int)]) } := by
    unfold zd5
    have g0 : gt [0, c, o, k, 0, 0] 0 = 0 := rfl
    rw [if_neg (fun h => h hc), g0, if_pos rfl]
    unfold zfg
    rw [if_neg (by omega)]
   rw [hd]
   exact zsq S V _ rfl w R hS hc rfl hn
 · exact zni S V _ rfl w hc
@[go_sem] theorem zyl (w : World) (a f n : Int) : (za2 122 #[(0, .int .i64 0), (1, .int .i64 a), (2, .int .i64 f), (3, .int .i64 n)]).run Tryz.prog w = .ok (.value (.agg (cellsOf [0, a, f, n, 0, 0]))) w := by kernel_rfl
set_option maxRecDepth 100000 in
set_option maxHeartbeats 4000000 in
theorem ztn (w : World) (b : Nat) (own : Nat → Prop) (E : Em) (R : Gmt w b own E) (he : E.err = 0) (hS : Small E.now) (hev : E.evs.length < 65536) (hn : E.now.objs.length < 400) (c o k : Int) :
 Calls Tryz.prog 83 #[.pointer (some ⟨b, 0, none⟩), .int .i64 c, .int .i64 o, .int .i64 k] w fun r w' => r = .returned (.int .i64 (E.made c o k)) ∧ DPost w b own (E.make c o k) w' := by
 have HD := Lib.hid (fun W (g : Grow w W) => z52 W b own E (R.grow g) (fun _ => hev) [0, c, o, k, 0, 0] rfl (fun V W' r => zss E.now V c o k W' r hS hn))
 have e1 : E.make c o k = E.do1 [0, c, o, k, 0, 0] := by unfold Em.make; rw [if_neg (by rw [he]; simp)]
 have e2 : E.made c o k = if (E.do1 [0, c, o, k, 0, 0]).err ≠ 0 then 0 else (E.now.objs.length : Int) := by unfold Em.made; rw [if_neg (by rw [he]; simp)]
 have HR0 := Lib.hid R
 rw [e1, e2]
 obtain ⟨V, sd, se, sp, hr, ho⟩ := R
 have hN := hr.host.rep.objs.len
 have hH := hr.host
 have hcell := zae (hH).free (hH).blk; have hfz := zag (hH).free; have hset := zah (hH).free (hH).blk; have hblk := (hH).blk; have hfree := (hH).free; have hlt := (hH).lt; have hne1 : ¬ b = (w).heap.size := (by omega); have hne2 : ¬ (w).heap.size = b := (by omega)
 clear hr ho hH hset hblk e1 e2 hev hS hn he
 generalize E.do1 [0, c, o, k, 0, 0] = E1 at *
 generalize hres : (if E1.err ≠ 0 then (0 : Int) else (E.now.objs.length : Int)) = res
 have HRS := Lib.hid hres
 clear hres
 go_enter Tryz.func83, Tryz.ntmps83
 go_wp2_with fail
 refine (HD.out _ grI).mono ?_
 rintro r w1 ⟨rfl, hP⟩
 obtain ⟨own1, T1⟩ := (TurnG.first HR0.out).step grI hP
 have HT := Lib.hid T1
 obtain ⟨V1, sd1, se1, sp1, hr1, ho1⟩ := T1.em
 have hc40 := hr1.errCell
 have hlt1 := hr1.host.lt
 clear hr1 ho1 T1 hP HD HR0 hcell hfz hfree
 by_cases h1 : E1.err = 0
 · obtain rfl : (E.now.objs.length : Int) = res := by rw [← HRS.out, if_neg (by rw [h1]; simp)]
   rw [h1] at hc40
   clear HRS
   go_wp2_with fail
   go_ret
   exact ⟨rfl, (HT.out.post (Grow.refl _)).more grI⟩
 · obtain rfl : (0 : Int) = res := by rw [← HRS.out, if_pos h1]
   clear HRS
   have hb : (E1.err != 0) = true := by simpa using h1
   generalize E1.err = x at *
   go_wp2_with fail
   go_ret
   exact ⟨rfl, (HT.out.post (Grow.refl _)).more grI⟩
set_option maxRecDepth 100000 in
theorem z19 (w : World) (b : Nat) (own : Nat → Prop) (E : Em) (R : Gmt w b own E) (he : E.err ≠ 0) (id base : Int) :
 Calls Tryz.prog 84 #[.pointer (some ⟨b, 0, none⟩), .int .i64 id, .int .i64 base] w fun r w' => r = .returned (.tuple #[]) ∧ DPost w b own E w' := by
 have HR0 := Lib.hid R
 obtain ⟨V, sd, se, sp, hr, ho⟩ := R
 have hc40 := hr.errCell
 have hlt := hr.host.lt
 have hb : (E.err != 0) = true := by simpa using he
 clear hr ho
 generalize E.err = x at *
 go_enter Tryz.func84, Tryz.ntmps84
 go_wp2_with fail
 refine bodyPost_ret (results_none rfl _ _ _) rfl ?_
 exact ⟨rfl, .of_grow HR0.out grI⟩
end Go.Proofs.YtgobdndjemicjaaGreatDoor
