/- The document's events: whether one may be. -/
import Derived.Test.YtgobdndjemicjaaGreatDoorMRanges
import Derived.Deep.RegionHeld3
import Derived.Test.YtgobdndjemicjaaGreatDoorMMade
import Derived.Test.YtgobdndjemicjaaGreatDoorMKept
import Derived.Test.YtgobdndjemicjaaGreatDoorMSt
import Derived.Test.YtgobdndjemicjaaGreatDoorMDo
import Derived.Test.YtgobdndjemicjaaGreatDoorMMix
namespace Go.Proofs.YtgobdndjemicjaaGreatDoor
open Go Go.RowKit
theorem e6 (e : List Int) (he : e.length = 6) : e = [gt e 0, gt e 1, gt e 2, gt e 3, gt e 4, gt e 5] := by
 apply z53 _ _ he
 intro i hi
 rw [he] at hi
 rcases i with _ | _ | _ | _ | _ | _ | i <;> first | rfl | omega
set_option maxRecDepth 100000 in
set_option maxHeartbeats 4000000 in
theorem zb7 (e : List Int) (he : e.length = 6) (w : World) : Calls Tryz.prog 116 #[.agg (cellsOf e)] w fun x w' => x = .returned (.int .i64 (evCheck e)) ∧ Grow w w' := by
 have hb : inR (gt e 0) 6 = true ∨ inR (gt e 0) 6 = false := by cases inR (gt e 0) 6 <;> simp
 rcases hb with hk | hk
 · have h0 : gt e 0 = 0 ∨ gt e 0 = 1 ∨ gt e 0 = 2 ∨ gt e 0 = 3 ∨ gt e 0 = 4 ∨ gt e 0 = 5 := by simp [inR] at hk; omega
   rcases h0 with h0 | h0 | h0 | h0 | h0 | h0
   all_goals
    go_enter Tryz.func116, Tryz.ntmps116
    go_wp2_with fail
    all_goals (go_ret; exact ⟨by (go_light; first | rfl | (simp [evCheck, zbx, zcf, za5, zcg, inR, inB]; done) | (simp_all [evCheck, zbx, zcf, za5, zcg, inR, inB]; done) | (simp [evCheck, zbx, zcf, za5, zcg, inR, inB]; omega) | (simp_all [evCheck, zbx, zcf, za5, zcg, inR, inB]; omega) | (grind [evCheck, zbx, zcf, za5, zcg, inR, inB])), grI⟩)
 · have hk2 : gt e 0 < 0 ∨ 5 < gt e 0 := by simp [inR] at hk; omega
   rcases hk2 with h | h
   all_goals
    go_enter Tryz.func116, Tryz.ntmps116
    go_wp2_with fail
    all_goals (go_ret; exact ⟨by simp [evCheck, hk], grI⟩)
end Go.Proofs.YtgobdndjemicjaaGreatDoor
namespace Go.Proofs.YtgobdndjemicjaaGreatDoor
open Go Go.RowKit
theorem Made.kept12 {own : Nat → Prop} {base : Nat} {w w' : World} {s : Sl} {k : Nat} {xs : List Value} (h : Made base w s k xs) (g : Kept own w w') (hn : ∀ b, s.owns b → ¬ own b) : Made base w' s k xs :=
 ⟨h.cells.kept g hn, h.room.kept g hn, fun b hb => ⟨(h.own b hb).1, Nat.lt_of_lt_of_le (h.own b hb).2 g.size⟩⟩
theorem Room.off {b k : Nat} {w w' : World} {s : Sl} (h : Room w s k) (g : Off b w w') (hn : ∀ b', s.owns b' → b' ≠ b) : Room w' s k := by
 refine ⟨h.max, fun j hj => ?_⟩
 cases s with
 | nil => simp [Sl.c] at hj
 | mk q o n c =>
   have h1 := h.there j hj
   have hb := g.block q (hn q rfl)
   simp only [Sl.b, Sl.o, World.cell?, World.frozen?] at h1 ⊢
   rw [hb]; exact h1
theorem Made.off12 {base b k : Nat} {w w' : World} {s : Sl} {xs : List Value} (h : Made base w s k xs) (g : Off b w w') (hn : ∀ b', s.owns b' → b' ≠ b) : Made base w' s k xs :=
 ⟨h.cells.off g hn, h.room.off g hn, fun q hq => ⟨(h.own q hq).1, by rw [g.size]; exact (h.own q hq).2⟩⟩
def zxv (b : Nat) : Sl := .mk b 0 0 0
theorem zxw (b : Nat) : (zxv b).n = 0 := rfl
@[go_sem] theorem z3y (w : World) : (zc7 22 0 #[]).run Tryz.prog w = .ok (.value (zxv w.heap.size).val) (w.alloc (.cells #[] 77)) := by kernel_rfl
@[go_sem ↓] theorem z67 (ρ : Operand → Value) (dst : Option Tmp) (n : Nat) (parts : Array (Nat × Operand)) (ty : TypeId) (pos : String) (after : Array Edge) (guard : Option (Nat × Bool)) :
 execOp ρ { dst, op := .buildSlice 23 n parts, type := ty, pos, after, guard } = zc7 23 n (parts.map fun (i, x) => (i, ρ x)) := rfl
@[go_sem] theorem z3x (w : World) : (zc7 23 0 #[]).run Tryz.prog w = .ok (.value (zxv w.heap.size).val) (w.alloc (.cells #[] 3)) := by kernel_rfl
@[go_sem] theorem z8x (w : World) (x : Int) : (zc7 23 1 #[(0, .int .i64 x)]).run Tryz.prog w = .ok (.value (.slice (some ⟨w.heap.size, 0, none⟩) 1 1)) (w.alloc (.cells #[.int .i64 x] 3)) := by kernel_rfl
theorem Made.empty {base b : Nat} {w : World} (k : Nat) (h0 : base ≤ b) (h1 : b < w.heap.size) : Made base w (zxv b) k [] := by
 refine ⟨⟨by simp [zxv, Sl.n], Nat.le_refl _, fun j u hu => by simp at hu⟩, ⟨Nat.zero_le _, fun j hj => by simp [zxv, Sl.c] at hj⟩, fun q hq => ?_⟩
 have : q = b := hq
 subst this
 exact ⟨h0, h1⟩
structure Fresh (base : Nat) (w : World) (V : SV) (S : St) : Prop where
 objs : Made base w V.objs 18 (zci S.objs)
 wid : ∀ i, i < S.objs.length → (rowAt S.objs i).length = 18
 list : ∀ z, z < 11 → Made base w (V.list z) 1 ((S.list z).map I)
 apO : ∀ z, z < 11 → ∀ b, (V.list z).owns b → ¬ V.objs.owns b
 apL : ∀ z y, z < 11 → y < 11 → z ≠ y → ∀ b, (V.list z).owns b → ¬ (V.list y).owns b
theorem Fresh.rep {base : Nat} {w : World} {V : SV} {S : St} (h : Fresh base w V S) : RepSt w V S :=
 ⟨h.objs.cells.rows (by omega) h.wid, fun z hz => (h.list z hz).cells.ints⟩
theorem Fresh.kept {own : Nat → Prop} {base : Nat} {w w' : World} {V : SV} {S : St} (h : Fresh base w V S) (g : Kept own w w') (hn : ∀ b, V.uses b → ¬ own b) : Fresh base w' V S :=
 ⟨h.objs.kept12 g fun b hb => hn b (.inl hb), h.wid, fun z hz => (h.list z hz).kept12 g fun b hb => hn b (.inr ⟨z, hz, hb⟩), h.apO, h.apL⟩
theorem Fresh.off {base b : Nat} {w w' : World} {V : SV} {S : St} (h : Fresh base w V S) (g : Off b w w') (hn : ¬ V.uses b) : Fresh base w' V S :=
 ⟨h.objs.off12 g fun _ hb e => hn (e ▸ .inl hb), h.wid, fun z hz => (h.list z hz).off12 g fun _ hb e => hn (e ▸ .inr ⟨z, hz, hb⟩), h.apO, h.apL⟩
theorem Fresh.grow {base : Nat} {w w' : World} {V : SV} {S : St} (h : Fresh base w V S) (g : Grow w w') : Fresh base w' V S :=
 h.kept (g.kept (fun _ => False)) (fun _ _ h => h)
theorem Fresh.own {base : Nat} {w : World} {V : SV} {S : St} (h : Fresh base w V S) : ∀ b, V.uses b → base ≤ b ∧ b < w.heap.size := by
 rintro b (hb | ⟨z, hz, hb⟩)
 · exact h.objs.own b hb
 · exact (h.list z hz).own b hb
theorem Fresh.low {m base : Nat} {w : World} {V : SV} {S : St} (h : Fresh base w V S) (hm : m ≤ base) : Fresh m w V S :=
 ⟨h.objs.low hm, h.wid, fun z hz => (h.list z hz).low hm, h.apO, h.apL⟩
set_option maxRecDepth 100000 in
set_option maxHeartbeats 8000000 in
theorem zcb (S : St) (V : SV) (w : World) (R : RepSt w V S) (hS : Small S) :
 Calls Tryz.prog 55 #[.agg (stA V S.num)] w fun e w' => ∃ V', e = .returned (.agg (stA V' S.num)) ∧ Fresh (w.heap.size + 2) w' V' S ∧ Grow w w' := by
 have HR := Lib.hid R
 have hO := R.objs.len
 have hOS := hS.objs
 have HSl := Lib.hid hS.list
 clear R hS
 go_enter Tryz.func55, Tryz.ntmps55
 go_wp2_with (at_builtin; refine zb1 rfl _ _ 22 rfl 77 Tryz.t77 (.agg (cellsOf (List.replicate 18 0))) 18 144 Tryz.underlying22 (by kernel_rfl) (by kernel_rfl) (by kernel_rfl) (by kernel_rfl) (by omega) rfl ((w.alloc (.cells (stA V S.num) 29)).alloc (.cells (stA SV.zero fun _ => 0) 29)) (zxv (w.heap.size + 1 + 1)) V.objs [] (zci S.objs) rfl rfl (Made.empty 18 (by simp) (by simp)) grI (HR.out.objs.grow grI).cells (by simp) (zay _) (by rw [zxw]; omega) ?_; intro so y c1 _ c3 _; have C := Lib.hid (And.intro c1 c3); clear c1 c3)
 go_loopw [3, 9] (fun _ i wr => ∃ (k : Nat) (V' : SV) (x : Ext), k ≤ 11 ∧ i = .int .i64 k ∧ wr = ((w.alloc (.cells (stA V' S.num) 29)).alloc (.cells (stA SV.zero fun _ => 0) 29)).plus x ∧
  Made (w.heap.size + 2) wr V'.objs 18 (zci S.objs) ∧ (∀ z, z < k → Made (w.heap.size + 2) wr (V'.list z) 1 ((S.list z).map I)) ∧ (∀ z, k ≤ z → V'.list z = V.list z) ∧
  (∀ z, z < k → ∀ b, (V'.list z).owns b → ¬ V'.objs.owns b) ∧ (∀ z y, z < k → y < k → z ≠ y → ∀ b, (V'.list z).owns b → ¬ (V'.list y).owns b)) (fun _ i _ => 11 - (intOf i).toNat)
 case atStart =>
  refine ⟨0, { V with objs := so }, y, by omega, rfl, by go_simp, ?_, fun z hz => by omega, fun z _ => rfl, fun z hz => by omega, fun z y hz => by omega⟩
  have c1 := C.out.1
  rw [List.nil_append] at c1
  exact (c1.off12 (b := w.heap.size) (by repeat (first | exact Off.base _ _ _ _ rfl | refine Off.plus ?_ _ | refine Off.alloc ?_ _)) (fun b hb => by have := (c1.own b hb).1; simp only [zaa] at this; omega)).low (by simp only [zaa]; omega)
 case round =>
  obtain ⟨k, V', x, hk, rfl, rfl, hO3, hL3, hV3, hA3, hB3⟩ := hrel
  have HO3 := Lib.hid hO3
  have HL3 := Lib.hid hL3
  have HV3 := Lib.hid hV3
  have HA3 := Lib.hid hA3
  have HB3 := Lib.hid hB3
  clear C hO3 hL3 hV3 hA3 hB3
  by_cases hlt : k < 11
  · have hVk := HV3.out k (Nat.le_refl _)
    have hSk := HSl.out k hlt
    have hnk := (HR.out.list k hlt).len
    go_wp2_with (at_builtin; refine zb1 rfl _ _ 23 rfl 3 Tryz.t3 (.int .i64 0) 1 8 Tryz.underlying23 (by kernel_rfl) (by kernel_rfl) (by kernel_rfl) (by kernel_rfl) (by omega) rfl ((w.alloc (.cells (stA V' S.num) 29)).alloc (.cells (stA SV.zero fun _ => 0) 29)) (zxv _) (V.list k) [] ((S.list k).map I) rfl rfl (Made.empty 1 (by simp only [zaa]; omega) (by simp only [zab, zaa]; omega)) grI ((HR.out.list k hlt).grow grI).cells (by simp) (zbn _) (by rw [zxw]; omega) ?_; intro sk y c1 c2 _ c4; have C := Lib.hid (And.intro c1 (And.intro c2 c4)); clear c1 c2 c4)
    go_roundw
    case measure => simp [intOf]; omega
    case rel =>
     obtain ⟨c1, c2, c4⟩ := C.out
     rw [List.nil_append] at c1
     have hsk : ∀ b, sk.owns b → w.heap.size + 1 + 1 + x.objs.size ≤ b := fun b hb => by
      rcases c4 b hb with h | h
      · have h : b = w.heap.size + 1 + 1 + x.objs.size := h
        omega
      · simp only [zab, zaa] at h; omega
     have key : ∀ (s : Sl) (n : Nat) (xs : List Value), Made (w.heap.size + 2) (((w.alloc (.cells (stA V' S.num) 29)).alloc (.cells (stA SV.zero fun _ => 0) 29)).plus x) s n xs → Made (w.heap.size + 2) (((w.alloc (.cells (stA { V' with list := upd V'.list k sk } S.num) 29)).alloc (.cells (stA SV.zero fun _ => 0) 29)).plus y) s n xs := fun s n xs h => by
      have hlt : ∀ b, s.owns b → w.heap.size + 2 ≤ b ∧ b < w.heap.size + 1 + 1 + x.objs.size := fun b hb => by have := h.own b hb; simp only [zab, zaa] at this; exact this
      have h2 := (h.grow (w' := (((w.alloc (.cells (stA V' S.num) 29)).alloc (.cells (stA SV.zero fun _ => 0) 29)).plus x).alloc (.cells #[] 3)) grI).kept12 c2 (fun b hb (e : b = _) => by have := (hlt b hb).2; omega)
      exact h2.off12 (b := w.heap.size) (by repeat (first | exact Off.base _ _ _ _ rfl | refine Off.plus ?_ _ | refine Off.alloc ?_ _)) (fun b hb => by have := (hlt b hb).1; omega)
     have hin : ∀ (s : Sl) (n : Nat) (xs : List Value), Made (w.heap.size + 2) (((w.alloc (.cells (stA V' S.num) 29)).alloc (.cells (stA SV.zero fun _ => 0) 29)).plus x) s n xs → ∀ b, s.owns b → ¬ sk.owns b := fun s n xs h b hb hc => by
      have h1 := (h.own b hb).2
      have h2 := hsk b hc
      simp only [zab, zaa] at h1; omega
     refine ⟨k + 1, { V' with list := upd V'.list k sk }, y, by omega, by go_num, rfl, key _ _ _ HO3.out, ?_, ?_, ?_, ?_⟩
     · intro z hz
       by_cases e : z = k
       · subst e
         simp only [zan]
         exact (c1.off12 (b := w.heap.size) (by repeat (first | exact Off.base _ _ _ _ rfl | refine Off.plus ?_ _ | refine Off.alloc ?_ _)) (fun b hb => by have := hsk b hb; omega)).low (by simp only [zaa]; omega)
       · simp only [zbc _ _ _ _ e]
         exact key _ _ _ (HL3.out z (by omega))
     · intro z hz
       show upd V'.list k sk z = V.list z
       rw [zbc _ _ _ _ (by omega), HV3.out z (by omega)]
     · intro z hz b hb hc
       by_cases e : z = k
       · subst e
         simp only [zan] at hb
         exact hin _ _ _ HO3.out b hc hb
       · simp only [zbc _ _ _ _ e] at hb
         exact HA3.out z (by omega) b hb hc
     · intro z y hz hy hn b hb hc
       by_cases e : z = k
       · subst e
         simp only [zan, zbc _ _ _ _ (Ne.symm hn)] at hb hc
         exact hin _ _ _ (HL3.out y (by omega)) b hc hb
       · by_cases e2 : y = k
         · subst e2
           simp only [zan, zbc _ _ _ _ e] at hb hc
           exact hin _ _ _ (HL3.out z (by omega)) b hb hc
         · simp only [zbc _ _ _ _ e, zbc _ _ _ _ e2] at hb hc
           exact HB3.out z y (by omega) (by omega) hn b hb hc
  · obtain rfl : k = 11 := by omega
    go_wp2_with fail
    refine bodyPost_ret (zgf rfl _ _ (w.heap.size + 1) rfl ?_) rfl ?_
    · go_simp
    · have off : ∀ (s : Sl) (n : Nat) (xs : List Value), Made (w.heap.size + 2) (((w.alloc (.cells (stA V' S.num) 29)).alloc (.cells (stA SV.zero fun _ => 0) 29)).plus x) s n xs → Made (w.heap.size + 2) (((w.alloc (.cells (stA V' S.num) 29)).alloc (.cells (stA V' S.num) 29)).plus x) s n xs := fun s n xs h => h.off12 (b := w.heap.size + 1) (by repeat (first | exact Off.base _ _ _ _ (zaa _ _).symm | refine Off.plus ?_ _ | refine Off.alloc ?_ _)) (fun b hb => by have := (h.own b hb).1; omega)
      exact ⟨V', by go_simp, ⟨off _ _ _ HO3.out, HR.out.objs.wid, fun z hz => off _ _ _ (HL3.out z hz), HA3.out, HB3.out⟩, grI⟩
end Go.Proofs.YtgobdndjemicjaaGreatDoor
namespace Go.Proofs.YtgobdndjemicjaaGreatDoor
open Go Go.RowKit
theorem zzq (l : List Int) (k : Nat) (h : k < l.length) : l.take (k + 1) = l.take k ++ [gt l k] := by
 rw [List.take_add_one, List.getElem?_eq_getElem h]
 simp [gt, h]
def zqq (l : List Int) (i k : Nat) : List Int := (l.take k).eraseIdx i
theorem zug (l : List Int) (i k : Nat) (h : k < l.length) : zqq l i (k + 1) = zqq l i k ++ (if k = i then [] else [gt l k]) := by
 unfold zqq
 rw [zzq l k h]
 have hl : (l.take k).length = k := by rw [List.length_take]; omega
 by_cases e : k = i
 · subst e
   rw [if_pos rfl, List.append_nil, List.eraseIdx_append_of_length_le (by omega), List.eraseIdx_of_length_le (l := l.take k) (by omega), hl, Nat.sub_self]
   simp
 · rw [if_neg e]
   by_cases g : i < k
   · rw [List.eraseIdx_append_of_lt_length (by omega)]
   · rw [List.eraseIdx_append_of_length_le (by omega), List.eraseIdx_of_length_le (l := l.take k) (by omega), List.eraseIdx_of_length_le (l := [gt l k]) (by simp; omega)]
theorem zob (x : Int) : ∀ (l : List Int) (i : Nat), i ≤ l.length → l.insertIdx i x = l.take i ++ x :: l.drop i
 | l, 0, _ => by simp
 | [], i + 1, h => by simp at h
 | y :: l, i + 1, h => by
   rw [List.insertIdx_succ_cons, zob x l i (by simpa using h)]
   simp
def zfh (l : List Int) (i : Nat) (x : Int) (k : Nat) : List Int := if k ≤ i then l.take k else l.take i ++ x :: (l.take k).drop i
theorem zxn (l : List Int) (i : Nat) (x : Int) (h : i ≤ l.length) : zfh l i x (l.length + 1) = l.insertIdx i x := by
 unfold zfh
 rw [if_neg (by omega), zob x l i h, List.take_of_length_le (show l.length ≤ l.length + 1 by omega)]
theorem ztr (l : List Int) (i : Nat) (x : Int) (k : Nat) (hi : i ≤ l.length) : zfh l i x (k + 1) = zfh l i x k ++ ((if k = i then [x] else []) ++ if k < l.length then [gt l k] else []) := by
 unfold zfh
 by_cases c : k < l.length
 · rw [if_pos c, zzq l k c]
   have hl : (l.take k).length = k := by rw [List.length_take]; omega
   by_cases e : k = i
   · subst e
     rw [if_neg (by omega), if_pos (Nat.le_refl _), if_pos rfl, List.drop_append, List.drop_of_length_le (by omega), hl, Nat.sub_self]
     simp
   · rw [if_neg e]
     by_cases g : k + 1 ≤ i
     · rw [if_pos g, if_pos (by omega)]; simp
     · rw [if_neg g, if_neg (by omega), List.drop_append_of_le_length (by omega)]; simp
 · rw [if_neg c, List.take_of_length_le (show l.length ≤ k + 1 by omega), List.append_nil]
   by_cases e : k = i
   · subst e
     rw [if_neg (by omega), if_pos (Nat.le_refl _), if_pos rfl, List.take_of_length_le (by omega), List.drop_of_length_le (by omega)]
   · rw [if_neg e, if_neg (by omega), if_neg (by omega), List.take_of_length_le (show l.length ≤ k by omega), List.append_nil]
set_option maxRecDepth 100000 in
set_option maxHeartbeats 2000000 in
theorem zp8 (w : World) (s : Sl) (l : List Int) (x : Int) (R : Ints w s l) (hb : l.length ≤ 1048576) :
 Calls Tryz.prog 144 #[s.val, .int .i64 x] w fun e w' => e = .returned (.int .i64 (zip l x)) ∧ Grow w w' := by
 have hl := R.len
 have HR := Lib.hid R
 clear R
 go_enter Tryz.func144, Tryz.ntmps144
 go_wp2_with fail
 go_loopw [5] (fun i wr => ∃ k : Nat, k ≤ l.length ∧ i = .int .i64 k ∧ (∀ j, j < k → gt l j ≠ x) ∧ Grow w wr) (fun i _ => l.length - (intOf i).toNat)
 case atStart => exact ⟨0, by omega, rfl, fun j hj => absurd hj (Nat.not_lt_zero _), grI⟩
 case round =>
  obtain ⟨k, hk, rfl, hne, hG⟩ := hrel
  obtain ⟨y, rfl⟩ := hG
  have HN := Lib.hid hne
  clear hne
  by_cases hlt : k < l.length
  · obtain ⟨q1, q2⟩ := (HR.out.grow (w' := w.plus y) grI).at k hlt
    by_cases he : gt l k = x
    · have HI : Hid (zip l x = k) := by
       have := Lib.idxOf_hit l l.length k x hlt (Nat.le_refl _) he HN.out
       rwa [List.take_length] at this
      go_wp2_with fail
      go_ret
      exact ⟨by rw [HI.out]; rfl, grI⟩
    · have HE := Lib.hid he
      go_wp2_with fail
      go_roundw
      case rel => exact ⟨k + 1, by omega, by go_num, (fun j hj => by
       rcases Nat.lt_or_ge j k with h | h
       · exact HN.out j h
       · obtain rfl : j = k := by omega
         exact HE.out), grI⟩
      case measure => simp [intOf]; omega
  · have HI : Hid (zip l x = -1) := by
     have := Lib.idxOf_miss l l.length x (fun j hj => HN.out j (by omega))
     rwa [List.take_length] at this
    go_wp2_with fail
    go_ret
    exact ⟨by rw [HI.out]; rfl, grI⟩
set_option maxRecDepth 100000 in
set_option maxHeartbeats 2000000 in
theorem zji (w : World) (s : Sl) (l : List Int) (i : Nat) (R : Ints w s l) (hb : l.length ≤ 1048576) :
 Calls Tryz.prog 223 #[s.val, .int .i64 i] w fun e w' => ∃ s' : Sl, e = .returned s'.val ∧ Made w.heap.size w' s' 1 ((l.eraseIdx i).map I) ∧ Grow w w' := by
 have hl := R.len
 have HR := Lib.hid R
 clear R
 go_enter Tryz.func223, Tryz.ntmps223
 go_wp2_with fail
 go_loopw [5, 6] (fun v j wr => ∃ (k : Nat) (s' : Sl), k ≤ l.length ∧ j = .int .i64 k ∧ v = s'.val ∧ Made w.heap.size wr s' 1 ((zqq l i k).map I) ∧ s'.n ≤ k ∧ Grow w wr) (fun _ j _ => l.length - (intOf j).toNat)
 case atStart => exact ⟨0, zxv _, by omega, rfl, rfl, (Made.empty 1 (Nat.le_refl _) (by simp)), Nat.le_refl _, grI⟩
 case round =>
  obtain ⟨k, s', hk, rfl, rfl, hM, hn, hG⟩ := hrel
  obtain ⟨y, rfl⟩ := hG
  have HM := Lib.hid hM
  clear hM
  by_cases hlt : k < l.length
  · obtain ⟨q1, q2⟩ := (HR.out.grow (w' := w.plus y) grI).at k hlt
    have HS := Lib.hid (zug l i k hlt)
    by_cases he : k = i
    · subst he
      rw [if_pos rfl, List.append_nil] at HS
      go_wp2_with fail
      go_roundw
      case rel => exact ⟨k + 1, s', by omega, by go_num, rfl, by rw [HS.out]; exact HM.out.grow grI, by omega, grI⟩
      case measure => simp [intOf]; omega
    · rw [if_neg he] at HS
      generalize gt l k = x at *
      go_wp2_with (at_builtin; refine zb1 rfl _ _ 23 rfl 3 Tryz.t3 (.int .i64 0) 1 8 Tryz.underlying23 (by kernel_rfl) (by kernel_rfl) (by kernel_rfl) (by kernel_rfl) (by omega) rfl w s' (.mk _ 0 1 1) ((zqq l i k).map I) [I x] rfl rfl (HM.out.grow grI) grI (zfi _ _ _ (by go_simp)) (zbn _) (zbn [x]) (by simp only [Sl.n] at hn ⊢; omega) ?_; intro s2 y c1 _ c3 _; have C := Lib.hid (And.intro c1 c3); clear c1 c3)
      go_roundw
      case rel => exact ⟨k + 1, s2, by omega, by go_num, rfl, by rw [HS.out, List.map_append]; exact C.out.1.grow grI, by rw [C.out.2]; simp only [Sl.n] at hn ⊢; omega, grI⟩
      case measure => simp [intOf]; omega
  · obtain rfl : k = l.length := by omega
    have hM := HM.out
    rw [show zqq l i l.length = l.eraseIdx i by rw [zqq, List.take_length]] at hM
    have HM2 := Lib.hid hM
    clear HM hM
    go_wp2_with fail
    go_ret
    exact ⟨s', rfl, HM2.out.grow grI, grI⟩
set_option maxRecDepth 100000 in
set_option maxHeartbeats 2000000 in
theorem zoc (w : World) (s : Sl) (l : List Int) (i : Nat) (x : Int) (hi : i ≤ l.length) (R : Ints w s l) (hb : l.length ≤ 1048576) :
 Calls Tryz.prog 224 #[s.val, .int .i64 i, .int .i64 x] w fun e w' => ∃ s' : Sl, e = .returned s'.val ∧ Made w.heap.size w' s' 1 ((l.insertIdx i x).map I) ∧ Grow w w' := by
 have hl := R.len
 have HR := Lib.hid R
 have HA := Lib.hid (zxn l i x hi)
 have HSu := Lib.hid (fun k => ztr l i x k hi)
 clear R
 go_enter Tryz.func224, Tryz.ntmps224
 go_wp2_with fail
 go_loopw [7, 8] (fun v j wr => ∃ (k : Nat) (s' : Sl), k ≤ l.length + 1 ∧ j = .int .i64 k ∧ v = s'.val ∧ Made w.heap.size wr s' 1 ((zfh l i x k).map I) ∧ s'.n ≤ k + k ∧ Grow w wr) (fun _ j _ => l.length + 1 - (intOf j).toNat)
 case atStart => exact ⟨0, zxv _, by omega, rfl, rfl, (Made.empty 1 (Nat.le_refl _) (by simp)), Nat.le_refl _, grI⟩
 case round =>
  obtain ⟨k, s', hk, rfl, rfl, hM, hn, hG⟩ := hrel
  obtain ⟨y, rfl⟩ := hG
  have HM := Lib.hid hM
  clear hM
  by_cases hle : k ≤ l.length
  · have HS := Lib.hid (HSu.out k)
    by_cases he : k = i
    · rw [if_pos he] at HS
      by_cases hlt : k < l.length
      · obtain ⟨q1, q2⟩ := HR.out.at k hlt
        rw [if_pos hlt] at HS
        generalize gt l k = z at *
        have HE : Hid ((zfh l i x (k + 1)).map I = ((zfh l i x k).map I ++ [I x]) ++ [I z]) := by rw [Hid, HS.out]; simp
        subst he
        go_wp2_with (at_builtin; first | (refine zb1 rfl _ _ 23 rfl 3 Tryz.t3 (.int .i64 0) 1 8 Tryz.underlying23 (by kernel_rfl) (by kernel_rfl) (by kernel_rfl) (by kernel_rfl) (by omega) rfl w s' (.mk _ 0 1 1) ((zfh l k x k).map I) [I x] rfl rfl (HM.out.grow grI) grI (zfi _ _ _ (by go_simp)) (zbn _) (zbn [x]) (by simp only [Sl.n] at hn ⊢; omega) ?_; intro s2 y c1 _ c3 _; have HM2 := Lib.hid c1; have hn2 : s2.n ≤ k + k + 1 := (by rw [c3]; simp only [Sl.n] at hn ⊢; omega); clear c1 c3) | (refine zb1 rfl _ _ 23 rfl 3 Tryz.t3 (.int .i64 0) 1 8 Tryz.underlying23 (by kernel_rfl) (by kernel_rfl) (by kernel_rfl) (by kernel_rfl) (by omega) rfl w s2 (.mk _ 0 1 1) ((zfh l k x k).map I ++ [I x]) [I z] rfl rfl (HM2.out.grow grI) grI (zfi _ _ _ (by go_simp)) (by have := zbn (zfh l k x k ++ [x]); simpa using this) (zbn [z]) (by simp only [Sl.n] at hn2 ⊢; omega) ?_; intro s3 y c1 _ c3 _; have HM3 := Lib.hid c1; have hn3 : s3.n ≤ k + k + 2 := (by rw [c3]; simp only [Sl.n] at hn2 ⊢; omega); clear c1 c3))
        go_roundw
        case rel => exact ⟨k + 1, s3, by omega, by go_num, rfl, by rw [HE.out]; exact HM3.out.grow grI, by omega, grI⟩
        case measure => simp [intOf]; omega
      · rw [if_neg hlt] at HS
        have HE : Hid ((zfh l i x (k + 1)).map I = (zfh l i x k).map I ++ [I x]) := by rw [Hid, HS.out]; simp
        subst he
        go_wp2_with (at_builtin; (refine zb1 rfl _ _ 23 rfl 3 Tryz.t3 (.int .i64 0) 1 8 Tryz.underlying23 (by kernel_rfl) (by kernel_rfl) (by kernel_rfl) (by kernel_rfl) (by omega) rfl w s' (.mk _ 0 1 1) ((zfh l k x k).map I) [I x] rfl rfl (HM.out.grow grI) grI (zfi _ _ _ (by go_simp)) (zbn _) (zbn [x]) (by simp only [Sl.n] at hn ⊢; omega) ?_; intro s2 y c1 _ c3 _; have HM2 := Lib.hid c1; have hn2 : s2.n ≤ k + k + 1 := (by rw [c3]; simp only [Sl.n] at hn ⊢; omega); clear c1 c3))
        go_roundw
        case rel => exact ⟨k + 1, s2, by omega, by go_num, rfl, by rw [HE.out]; exact HM2.out.grow grI, by omega, grI⟩
        case measure => simp [intOf]; omega
    · rw [if_neg he] at HS
      by_cases hlt : k < l.length
      · obtain ⟨q1, q2⟩ := HR.out.at k hlt
        rw [if_pos hlt] at HS
        generalize gt l k = z at *
        have HE : Hid ((zfh l i x (k + 1)).map I = (zfh l i x k).map I ++ [I z]) := by rw [Hid, HS.out]; simp
        go_wp2_with (at_builtin; (refine zb1 rfl _ _ 23 rfl 3 Tryz.t3 (.int .i64 0) 1 8 Tryz.underlying23 (by kernel_rfl) (by kernel_rfl) (by kernel_rfl) (by kernel_rfl) (by omega) rfl w s' (.mk _ 0 1 1) ((zfh l i x k).map I) [I z] rfl rfl (HM.out.grow grI) grI (zfi _ _ _ (by go_simp)) (zbn _) (zbn [z]) (by simp only [Sl.n] at hn ⊢; omega) ?_; intro s2 y c1 _ c3 _; have HM2 := Lib.hid c1; have hn2 : s2.n ≤ k + k + 1 := (by rw [c3]; simp only [Sl.n] at hn ⊢; omega); clear c1 c3))
        go_roundw
        case rel => exact ⟨k + 1, s2, by omega, by go_num, rfl, by rw [HE.out]; exact HM2.out.grow grI, by omega, grI⟩
        case measure => simp [intOf]; omega
      · rw [if_neg hlt] at HS
        have HE : Hid ((zfh l i x (k + 1)).map I = (zfh l i x k).map I) := by rw [Hid, HS.out]; simp
        go_wp2_with fail
        go_roundw
        case rel => exact ⟨k + 1, s', by omega, by go_num, rfl, by rw [HE.out]; exact HM.out.grow grI, by omega, grI⟩
        case measure => simp [intOf]; omega
  · obtain rfl : k = l.length + 1 := by omega
    have hM := HM.out
    rw [HA.out] at hM
    have HM2 := Lib.hid hM
    clear HM hM
    go_wp2_with fail
    go_ret
    exact ⟨s', rfl, HM2.out.grow grI, grI⟩
end Go.Proofs.YtgobdndjemicjaaGreatDoor
namespace Go.Proofs.YtgobdndjemicjaaGreatDoor
open Go Go.RowKit
def zi0 (cs : Array Value) (o : Nat) : List Value → Array Value
 | [] => cs
 | v :: r => zi0 (cs.setIfInBounds o v) (o + 1) r
theorem zkw : ∀ (vs : List Value) (cs : Array Value) (o i : Nat), o + vs.length ≤ cs.size → (zi0 cs o vs)[i]? = if o ≤ i ∧ i < o + vs.length then vs[i - o]? else cs[i]?
 | [], cs, o, i, _ => by rw [if_neg (by simp)]; rfl
 | v :: r, cs, o, i, h => by
   rw [zi0, zkw r _ _ _ (by rw [Array.size_setIfInBounds]; simp at h; omega), Array.getElem?_setIfInBounds]
   simp only [List.length_cons] at h ⊢
   by_cases h1 : o = i
   · subst h1
     rw [if_neg (by omega), if_pos rfl, if_pos (by omega), if_pos (by omega), Nat.sub_self]; rfl
   · by_cases h2 : o + 1 ≤ i ∧ i < o + 1 + r.length
     · rw [if_pos h2, if_pos (by omega), show i - o = (i - (o + 1)) + 1 by omega]; rfl
     · rw [if_neg h2, if_neg h1, if_neg (by omega)]
theorem zjj (b : Nat) : ∀ (vs : List Value) (o : Nat) (w : World), w.free b = true → w.setCells b o vs = w.setRow b (zi0 (w.blk b) o vs)
 | [], o, w, hf => by
   obtain ⟨t, e⟩ := zju hf
   have h : (w.setRow b (w.blk b)).heap = w.heap := by
    apply Array.ext_getElem?
    intro k
    simp only [World.setRow, Array.getElem?_modify]
    by_cases hk : b = k
    · subst hk; rw [if_pos rfl, e]; rfl
    · rw [if_neg hk]
   show w = w.setRow b (w.blk b)
   have h2 : w.setRow b (w.blk b) = { w with heap := (w.setRow b (w.blk b)).heap } := rfl
   rw [h2, h]
 | v :: r, o, w, hf => by
   show (w.setCell ⟨b, o, none⟩ v).setCells b (o + 1) r = _
   rw [zhg w b o v hf, zjj b r (o + 1) _ (by rw [za7]; exact hf), za1 _ _ _ _ hf, if_pos rfl, zdu _ _ _ _ hf, zi0]
theorem ze2 (w : World) (b : Nat) (V V' : SV) (num num' : Nat → Int) (rest : Array Value) (hb : w.blk b = hoA V num rest) (hf : w.free b = true) : (zas 29 (.pointer (some ⟨b, 0, none⟩)) (.agg (stA V' num'))).run Tryz.prog w = .ok .skip (w.setRow b (hoA V' num' rest)) := by
 obtain ⟨t, e⟩ := zju hf
 have hsz : (stA V' num').size = 37 := zcr _ _
 unfold zas
 rw [Sem.run_bind]
 have hth : w.there b 0 (stA V' num').size := by
  intro j hj
  rw [hsz] at hj
  refine ⟨?_, ?_⟩
  · rw [zae hf hb, Array.getElem?_eq_getElem (by rw [zcy]; omega)]; rfl
  · exact zag hf _
 rw [run_storeAt_mid (P := Tryz.prog) w b 0 29 (stA V' num') hth (by rw [hsz]; kernel_rfl) (zq4 _ _)]
 rw [zjj b _ 0 w hf, hb]
 have : zi0 (hoA V num rest) 0 (stA V' num').toList = hoA V' num' rest := by
  apply Array.ext_getElem?
  intro i
  rw [zkw _ _ _ _ (by rw [zcy, Array.length_toList, hsz]; omega), Array.length_toList, hsz]
  by_cases h : i < 37
  · rw [if_pos (by omega), zlp _ _ _ _ h, Nat.sub_zero, Array.getElem?_toList]
  · rw [if_neg (by omega), show i = 37 + (i - 37) by omega, zb5, zb5]
 rw [this]
 rfl
end Go.Proofs.YtgobdndjemicjaaGreatDoor
namespace Go.Proofs.YtgobdndjemicjaaGreatDoor
open Go Go.RowKit
theorem za3 {fn : Func} {p q : Tmp} (h : fn.results = #[.cell p 29, .tmp q]) (tmps : Array Value) (w : World) (b : Nat) (hp : tmps.getD p undef = .pointer (some ⟨b, 0, none⟩)) (h1 : (w.blk b).size = 37) :
 (results fn tmps).run Tryz.prog w = .ok (.tuple #[.agg (sub (w.blk b) 0 37), tmps.getD q undef]) w := by
 unfold results
 rw [h]
 have e1 := zhz w b h1
 have hp' : tmps[p]?.getD undef = .pointer (some ⟨b, 0, none⟩) := by simpa using hp
 simp [asAddr, hp', e1]
def zdq (w : World) : Except Int St → Ending → World → Prop
 | .error n, e, w' => e = .returned (.tuple #[.agg (stA SV.zero fun _ => 0), .int .i64 n]) ∧ Grow w w'
 | .ok S', e, w' => ∃ V', e = .returned (.tuple #[.agg (stA V' S'.num), .int .i64 0]) ∧ RepSt w' V' S' ∧ (∀ b, V'.uses b → w.heap.size ≤ b ∧ b < w'.heap.size) ∧ Grow w w'
set_option maxRecDepth 100000 in
set_option maxHeartbeats 2000000 in
theorem zni (S : St) (V : SV) (e : List Int) (he : e.length = 6) (w : World) (hc : evCheck e ≠ 0) :
 Calls Tryz.prog 171 #[.agg (stA V S.num), .agg (cellsOf e)] w (zdq w (zd5 S e)) := by
 have hck := fun W => zb7 e he W
 have HC := Lib.hid hck
 have hd : zd5 S e = .error (evCheck e) := by unfold zd5; rw [if_pos hc]
 rw [hd]
 have hb : (evCheck e != 0) = true := by simpa using hc
 generalize evCheck e = n at *
 clear hck hd hc
 go_enter Tryz.func171, Tryz.ntmps171
 go_wp2_with (go_at_call 116; refine (HC.out _).mono ?_; rintro e' w' ⟨rfl, nx, rfl⟩)
 refine bodyPost_ret (za3 rfl _ _ (w.heap.size + 1 + 1) rfl ?_) rfl ?_
 · go_simp
 · exact ⟨by go_simp, grI⟩
theorem RepSt.off12 {b : Nat} {W W' : World} {V : SV} {S : St} (h : RepSt W V S) (g : Off b W W') (hn : ¬ V.uses b) : RepSt W' V S :=
 ⟨h.objs.off g (fun hl e => hn (by rw [← e]; exact Or.inl (zar h.objs hl))), fun z hz => (h.list z hz).off g (fun hl e => hn (by rw [← e]; exact Or.inr ⟨z, hz, zbk (h.list z hz) hl⟩))⟩
theorem RepSt.to {W W' : World} {V : SV} {S S' : St} (h : RepSt W V S) (g : Grow W W') (ho : S'.objs = S.objs) (hl : S'.list = S.list) : RepSt W' V S' :=
 ⟨by rw [ho]; exact h.objs.grow g, fun z hz => by rw [hl]; exact (h.list z hz).grow g⟩
set_option maxRecDepth 100000 in
set_option maxHeartbeats 4000000 in
theorem zso (S : St) (V : SV) (e : List Int) (he : e.length = 6) (w : World) (R : RepSt w V S) (hS : Small S) (hc : evCheck e = 0) (hk : gt e 0 = 4) (f : Nat) (h2 : gt e 2 = f) (hf : f < 7) :
 Calls Tryz.prog 171 #[.agg (stA V S.num), .agg (cellsOf e)] w (zdq w (if S.num (18 + f) ≠ gt e 3 then .error 20 else .ok (S.setNum (18 + f) (gt e 4)))) := by
 have hck := fun W => zb7 e he W
 rw [hc] at hck
 have HC := Lib.hid hck
 have HR := Lib.hid R
 have HS := Lib.hid hS
 clear hck hc R hS
 have i3 : (f : Int) < 7 := by omega
 have i4 : (0 : Int) ≤ (f : Int) := by omega
 by_cases hx : S.num (18 + f) = gt e 3
 · rw [if_neg (fun h => h hx)]
   go_enter Tryz.func171, Tryz.ntmps171
   go_wp2_with (first | (go_at_call 116; refine (HC.out _).mono ?_; rintro e' w' ⟨rfl, n0, rfl⟩) | (go_at_call 55; refine (zcb S V _ (HR.out.grow grI) HS.out).mono ?_; rintro e' w' ⟨V1, rfl, hF, n1, rfl⟩; (try simp only [zad] at hF); (try simp only [zac] at hF); have HF := Lib.hid (hF.low (m := w.heap.size + 3) (by simp only [zab, zaa]; omega)); have hol := hF.rep.objs.len; clear hF))
   have hat : (stA V1 S.num)[30 + f]? = some (I (S.num (18 + f))) := by rw [show 30 + f = 12 + (18 + f) by omega]; exact zbb _ _ _ (by omega)
   have hset : (stA V1 S.num).setIfInBounds (30 + f) (.int .i64 (gt e 4)) = stA V1 (upd S.num (18 + f) (gt e 4)) := by rw [show 30 + f = 12 + (18 + f) by omega]; exact zfa _ _ _ _ (by omega)
   refine zaf (by kernel_rfl) (by kernel_rfl) ?_; (repeat (go_big_quiet_step ( fail ))); refine wpQuiet_nil ?_; rintro _ ⟨nx, rfl⟩
   go_wp2_with fail
   refine bodyPost_ret (za3 rfl _ _ (w.heap.size + 1 + 1) rfl ?_) rfl ?_
   · go_simp
   · have hR := (HF.out.off (w' := (((w.alloc (.cells (stA V S.num) 29)).alloc (.cells (cellsOf e) 122)).alloc (.cells (stA V1 (upd S.num (18 + f) (gt e 4))) 29)).plus (n0.and n1)) (b := w.heap.size + 1 + 1) (by repeat (first | exact Off.base _ _ _ _ (by simp only [zaa]) | refine Off.plus ?_ _ | refine Off.alloc ?_ _)) (fun hu => by have := (HF.out.own _ hu).1; omega))
     exact ⟨V1, by go_simp; rfl, hR.rep.to grI rfl rfl, fun k hk => (by have := HF.out.own k hk; simp only [zab, zaa] at this ⊢; exact ⟨by omega, by omega⟩), grI⟩
 · rw [if_pos hx]
   have hb : (S.num (18 + f) != gt e 3) = true := by simpa using hx
   go_enter Tryz.func171, Tryz.ntmps171
   go_wp2_with (first | (go_at_call 116; refine (HC.out _).mono ?_; rintro e' w' ⟨rfl, n0, rfl⟩) | (go_at_call 55; refine (zcb S V _ (HR.out.grow grI) HS.out).mono ?_; rintro e' w' ⟨V1, rfl, hF, n1, rfl⟩; (try simp only [zad] at hF); (try simp only [zac] at hF); have HF := Lib.hid (hF.low (m := w.heap.size + 3) (by simp only [zab, zaa]; omega)); have hol := hF.rep.objs.len; clear hF))
   have hat : (stA V1 S.num)[30 + f]? = some (I (S.num (18 + f))) := by rw [show 30 + f = 12 + (18 + f) by omega]; exact zbb _ _ _ (by omega)
   refine zaf (by kernel_rfl) (by kernel_rfl) ?_; (repeat (go_big_quiet_step ( fail ))); refine wpQuiet_nil ?_; rintro _ ⟨nx, rfl⟩
   go_wp2_with fail
   refine bodyPost_ret (za3 rfl _ _ (w.heap.size + 1 + 1) rfl ?_) rfl ?_
   · go_simp
   · exact ⟨by go_simp, grI⟩
set_option maxRecDepth 100000 in
set_option maxHeartbeats 4000000 in
theorem znj (S : St) (V : SV) (e : List Int) (he : e.length = 6) (w : World) (R : RepSt w V S) (hS : Small S) (hc : evCheck e = 0) (hk : gt e 0 = 3) (p f : Nat) (h1 : gt e 1 = p) (h2 : gt e 2 = f) (hp : p < 2) (hf : f < 9) :
 Calls Tryz.prog 171 #[.agg (stA V S.num), .agg (cellsOf e)] w (zdq w (if S.num (p * 9 + f) ≠ gt e 3 then .error 20 else .ok (S.setNum (p * 9 + f) (gt e 4)))) := by
 have hck := fun W => zb7 e he W
 rw [hc] at hck
 have HC := Lib.hid hck
 have HR := Lib.hid R
 have HS := Lib.hid hS
 clear hck hc R hS
 have i1 : (p : Int) < 2 := by omega
 have i2 : (0 : Int) ≤ (p : Int) := by omega
 have i3 : (f : Int) < 9 := by omega
 have i4 : (0 : Int) ≤ (f : Int) := by omega
 by_cases hx : S.num (p * 9 + f) = gt e 3
 · rw [if_neg (fun h => h hx)]
   go_enter Tryz.func171, Tryz.ntmps171
   go_wp2_with (first | (go_at_call 116; refine (HC.out _).mono ?_; rintro e' w' ⟨rfl, n0, rfl⟩) | (go_at_call 55; refine (zcb S V _ (HR.out.grow grI) HS.out).mono ?_; rintro e' w' ⟨V1, rfl, hF, n1, rfl⟩; (try simp only [zad] at hF); (try simp only [zac] at hF); have HF := Lib.hid (hF.low (m := w.heap.size + 3) (by simp only [zab, zaa]; omega)); have hol := hF.rep.objs.len; clear hF))
   have hat : (stA V1 S.num)[12 + p * 9 + f]? = some (I (S.num (p * 9 + f))) := by rw [show 12 + p * 9 + f = 12 + (p * 9 + f) by omega]; exact zbb _ _ _ (by omega)
   have hset : (stA V1 S.num).setIfInBounds (12 + p * 9 + f) (.int .i64 (gt e 4)) = stA V1 (upd S.num (p * 9 + f) (gt e 4)) := by rw [show 12 + p * 9 + f = 12 + (p * 9 + f) by omega]; exact zfa _ _ _ _ (by omega)
   refine zaf (by kernel_rfl) (by kernel_rfl) ?_; (repeat (go_big_quiet_step ( fail ))); refine wpQuiet_nil ?_; rintro _ ⟨nx, rfl⟩
   go_wp2_with fail
   refine zaq [0, 1, 2, 3, 4, 5, 6, 7, 8] 9 [] (by kernel_rfl) (by kernel_rfl) ?_; simp only [zb4, List.getElem?_cons_zero, List.getElem?_cons_succ]; (repeat (go_big_quiet_step ( fail ))); refine wpQuiet_nil ?_; rintro _ ⟨nx, rfl⟩
   go_wp2_with fail
   refine bodyPost_ret (za3 rfl _ _ (w.heap.size + 1 + 1) rfl ?_) rfl ?_
   · go_simp
   · have hR := (HF.out.off (w' := (((w.alloc (.cells (stA V S.num) 29)).alloc (.cells (cellsOf e) 122)).alloc (.cells (stA V1 (upd S.num (p * 9 + f) (gt e 4))) 29)).plus (n0.and n1)) (b := w.heap.size + 1 + 1) (by repeat (first | exact Off.base _ _ _ _ (by simp only [zaa]) | refine Off.plus ?_ _ | refine Off.alloc ?_ _)) (fun hu => by have := (HF.out.own _ hu).1; omega))
     exact ⟨V1, by go_simp; rfl, hR.rep.to grI rfl rfl, fun k hk => (by have := HF.out.own k hk; simp only [zab, zaa] at this ⊢; exact ⟨by omega, by omega⟩), grI⟩
 · rw [if_pos hx]
   have hb : (S.num (p * 9 + f) != gt e 3) = true := by simpa using hx
   go_enter Tryz.func171, Tryz.ntmps171
   go_wp2_with (first | (go_at_call 116; refine (HC.out _).mono ?_; rintro e' w' ⟨rfl, n0, rfl⟩) | (go_at_call 55; refine (zcb S V _ (HR.out.grow grI) HS.out).mono ?_; rintro e' w' ⟨V1, rfl, hF, n1, rfl⟩; (try simp only [zad] at hF); (try simp only [zac] at hF); have HF := Lib.hid (hF.low (m := w.heap.size + 3) (by simp only [zab, zaa]; omega)); have hol := hF.rep.objs.len; clear hF))
   have hat : (stA V1 S.num)[12 + p * 9 + f]? = some (I (S.num (p * 9 + f))) := by rw [show 12 + p * 9 + f = 12 + (p * 9 + f) by omega]; exact zbb _ _ _ (by omega)
   refine zaf (by kernel_rfl) (by kernel_rfl) ?_; (repeat (go_big_quiet_step ( fail ))); refine wpQuiet_nil ?_; rintro _ ⟨nx, rfl⟩
   go_wp2_with fail
   refine bodyPost_ret (za3 rfl _ _ (w.heap.size + 1 + 1) rfl ?_) rfl ?_
   · go_simp
   · exact ⟨by go_simp, grI⟩
theorem zo3 (w : World) (x : Ext) (b o : Nat) (v : Value) (h : w.heap.size ≤ b) : ∃ y : Ext, zd2 w x b o v = w.plus y ∧ y.objs.size = x.objs.size := by
 obtain ⟨y, hy⟩ : Grow w (zd2 w x b o v) := Kept.grow_of (own := fun k => k = b) ((Kept.refl _ (w.plus x)).setCell b o v (fun _ => rfl)) grI (fun k hk => by rw [hk]; exact h)
 refine ⟨y, hy, ?_⟩
 have h1 : (zd2 w x b o v).heap.size = (w.plus x).heap.size := by simp [zd2, World.setCell]
 rw [hy, zab, zab] at h1
 omega
theorem Made.cell_in {base : Nat} {w : World} {s : Sl} {k : Nat} {xs : List Value} (h : Made base w s k xs) {j : Nat} {u : Value} (hu : xs[j]? = some u) : base ≤ s.b ∧ s.b < w.heap.size ∧ w.cell? ⟨s.b, s.o + j, none⟩ = some u ∧ w.frozen? ⟨s.b, s.o + j, none⟩ = false := by
 have hj := (List.getElem?_eq_some_iff.1 hu).1
 have hl := h.cells.len
 have ho : s.owns s.b := by
  cases s with
  | nil => simp [Sl.n] at hl; rw [hl] at hj; simp at hj
  | mk => rfl
 refine ⟨(h.own _ ho).1, (h.own _ ho).2, h.cells.cell j u hu, (h.room.there j ?_).2⟩
 have := Nat.mul_le_mul_right k h.cells.cap
 omega
theorem zmc {l : List (List Int)} {k : Nat} (hw : ∀ i, i < l.length → (rowAt l i).length = k) {i j : Nat} (hi : i < l.length) (hj : j < k) : (zci l)[i * k + j]? = some (I (gt (rowAt l i) j)) := by
 obtain ⟨f1, f2⟩ := zhf k l hw
 have hlt : i * k + j < l.flatten.length := by
  rw [f1]
  have : i * k + k ≤ l.length * k := by rw [← Nat.succ_mul]; exact Nat.mul_le_mul_right k hi
  omega
 rw [← f2 i j hi hj]
 show (l.flatten.map I)[i * k + j]? = _
 rw [List.getElem?_map, List.getElem?_eq_getElem hlt]
 simp only [gt, List.getD, List.getElem?_eq_getElem hlt, Option.map_some, Option.getD_some]
set_option maxRecDepth 100000 in
set_option maxHeartbeats 4000000 in
theorem zwj (S : St) (V : SV) (e : List Int) (he : e.length = 6) (w : World) (R : RepSt w V S) (hS : Small S) (hc : evCheck e = 0) (hk : gt e 0 = 2) (a f : Nat) (h1 : gt e 1 = a) (h2 : gt e 2 = f) (hf : f < 18) :
 Calls Tryz.prog 171 #[.agg (stA V S.num), .agg (cellsOf e)] w (zdq w (if (S.objs.length : Int) ≤ gt e 1 then .error 4 else if gt (rowAt S.objs a) f ≠ gt e 3 then .error 20 else .ok (S.setObj a f (gt e 4)))) := by
 have hck := fun W => zb7 e he W
 rw [hc] at hck
 have HC := Lib.hid hck
 have HR := Lib.hid R
 have HS := Lib.hid hS
 clear hck hc R hS
 have i1 : (0 : Int) ≤ (a : Int) := by omega
 have i3 : (f : Int) < 18 := by omega
 have i4 : (0 : Int) ≤ (f : Int) := by omega
 by_cases ha : (S.objs.length : Int) ≤ gt e 1
 · rw [if_pos ha]
   go_enter Tryz.func171, Tryz.ntmps171
   go_wp2_with (first | (go_at_call 116; refine (HC.out _).mono ?_; rintro e' w' ⟨rfl, n0, rfl⟩) | (go_at_call 55; refine (zcb S V _ (HR.out.grow grI) HS.out).mono ?_; rintro e' w' ⟨V1, rfl, hF, n1, rfl⟩; (try simp only [zad] at hF); (try simp only [zac] at hF); have HF := Lib.hid (hF.low (m := w.heap.size + 3) (by simp only [zab, zaa]; omega)); have hol := hF.rep.objs.len; clear hF))
   refine bodyPost_ret (za3 rfl _ _ (w.heap.size + 1 + 1) rfl ?_) rfl ?_
   · go_simp
   · exact ⟨by go_simp, grI⟩
 · rw [if_neg ha]
   rw [h1] at ha
   have ha' : a < S.objs.length := by omega
   have ha2 : (a : Int) < S.objs.length := by omega
   by_cases hx : gt (rowAt S.objs a) f = gt e 3
   · rw [if_neg (fun h => h hx)]
     go_enter Tryz.func171, Tryz.ntmps171
     go_wp2_with (first | (go_at_call 116; refine (HC.out _).mono ?_; rintro e' w' ⟨rfl, n0, rfl⟩) | (go_at_call 55; refine (zcb S V _ (HR.out.grow grI) HS.out).mono ?_; rintro e' w' ⟨V1, rfl, hF, n1, rfl⟩; (try simp only [zad] at hF); (try simp only [zac] at hF); have HF := Lib.hid (hF.low (m := w.heap.size + 3) (by simp only [zab, zaa]; omega)); have hol := hF.rep.objs.len; clear hF))
     obtain ⟨m1, m2, m3, m4⟩ := HF.out.objs.cell_in (zmc HF.out.wid ha' hf)
     obtain ⟨y, hy, hys⟩ := zo3 (((w.alloc (.cells (stA V S.num) 29)).alloc (.cells (cellsOf e) 122)).alloc (.cells (stA SV.zero fun _ => 0) 29)) (n0.and n1) V1.objs.b (V1.objs.o + (a * 18 + f)) (I (gt e 4)) (by simp only [zaa]; omega)
     rw [← Nat.add_assoc] at m3 m4 hy
     have m3' : zcp (((w.alloc (.cells (stA V S.num) 29)).alloc (.cells (cellsOf e) 122)).alloc (.cells (stA SV.zero fun _ => 0) 29)) (n0.and n1) V1.objs.b (V1.objs.o + a * 18 + f) = some (I (gt (rowAt S.objs a) f)) := m3
     have m4' : zf5 (((w.alloc (.cells (stA V S.num) 29)).alloc (.cells (cellsOf e) 122)).alloc (.cells (stA SV.zero fun _ => 0) 29)) (n0.and n1) V1.objs.b (V1.objs.o + a * 18 + f) = false := m4
     simp only [zab, zaa] at m2
     have m0 : ¬ V1.objs.b < w.heap.size + 1 + 1 + 1 := by omega
     clear m3 m4
     refine zaf (by kernel_rfl) (by kernel_rfl) ?_; (repeat (go_big_quiet_step ( fail ))); refine wpQuiet_nil ?_; rintro _ ⟨nx, rfl⟩
     go_wp2_with fail
     refine zaq [0, 1, 2, 3, 4, 5, 6, 7, 8, 9] 10 [] (by kernel_rfl) (by kernel_rfl) ?_; simp only [zb4, List.getElem?_cons_zero, List.getElem?_cons_succ]; (repeat (go_big_quiet_step ( fail ))); refine wpQuiet_nil ?_; rintro _ ⟨nx, rfl⟩
     go_wp2_with fail
     refine bodyPost_ret (za3 rfl _ _ (w.heap.size + 1 + 1) rfl ?_) rfl ?_
     · go_simp
     · have hO : Rows' ((((w.alloc (.cells (stA V S.num) 29)).alloc (.cells (cellsOf e) 122)).alloc (.cells (stA SV.zero fun _ => 0) 29)).plus y) V1.objs 18 (S.setObj a f (gt e 4)).objs := by
        have := HF.out.rep.objs.setObj a f (gt e 4) ha' hf
        rw [Nat.add_assoc] at this
        rw [← hy, Nat.add_assoc]
        exact this
       have hK : Kept (fun k => k = V1.objs.b) ((((w.alloc (.cells (stA V S.num) 29)).alloc (.cells (cellsOf e) 122)).alloc (.cells (stA SV.zero fun _ => 0) 29)).plus (n0.and n1)) ((((w.alloc (.cells (stA V S.num) 29)).alloc (.cells (cellsOf e) 122)).alloc (.cells (stA SV.zero fun _ => 0) 29)).plus y) := by
        rw [← hy]
        exact (Kept.refl _ _).setCell _ _ _ (fun _ => rfl)
       have hob : V1.objs.owns V1.objs.b := zar HF.out.rep.objs (by omega)
       have hL : ∀ z, z < 11 → Ints ((((w.alloc (.cells (stA V S.num) 29)).alloc (.cells (cellsOf e) 122)).alloc (.cells (stA SV.zero fun _ => 0) 29)).plus y) (V1.list z) (S.list z) := fun z hz => ((HF.out.list z hz).cells.kept hK (fun b hb h => HF.out.apO z hz b hb (h ▸ hob))).ints
       have hR : RepSt ((((w.alloc (.cells (stA V S.num) 29)).alloc (.cells (cellsOf e) 122)).alloc (.cells (stA SV.zero fun _ => 0) 29)).plus y) V1 (S.setObj a f (gt e 4)) := ⟨hO, hL⟩
       have hR2 := hR.off12 (W' := (((w.alloc (.cells (stA V S.num) 29)).alloc (.cells (cellsOf e) 122)).alloc (.cells (stA V1 S.num) 29)).plus y) (b := w.heap.size + 1 + 1) (by repeat (first | exact Off.base _ _ _ _ (by simp only [zaa]) | refine Off.plus ?_ _ | refine Off.alloc ?_ _)) (fun hu => by have := (HF.out.own _ hu).1; omega)
       exact ⟨V1, by go_simp; rfl, hR2.to grI rfl rfl, fun k hk => (by have := HF.out.own k hk; simp only [zab, zaa] at this ⊢; exact ⟨by omega, by omega⟩), grI⟩
   · rw [if_pos hx]
     have hb : (gt (rowAt S.objs a) f != gt e 3) = true := by simpa using hx
     go_enter Tryz.func171, Tryz.ntmps171
     go_wp2_with (first | (go_at_call 116; refine (HC.out _).mono ?_; rintro e' w' ⟨rfl, n0, rfl⟩) | (go_at_call 55; refine (zcb S V _ (HR.out.grow grI) HS.out).mono ?_; rintro e' w' ⟨V1, rfl, hF, n1, rfl⟩; (try simp only [zad] at hF); (try simp only [zac] at hF); have HF := Lib.hid (hF.low (m := w.heap.size + 3) (by simp only [zab, zaa]; omega)); have hol := hF.rep.objs.len; clear hF))
     obtain ⟨m1, m2, m3, m4⟩ := HF.out.objs.cell_in (zmc HF.out.wid ha' hf)
     rw [← Nat.add_assoc] at m3
     have m3' : zcp (((w.alloc (.cells (stA V S.num) 29)).alloc (.cells (cellsOf e) 122)).alloc (.cells (stA SV.zero fun _ => 0) 29)) (n0.and n1) V1.objs.b (V1.objs.o + a * 18 + f) = some (I (gt (rowAt S.objs a) f)) := m3
     simp only [zab, zaa] at m2
     have m0 : ¬ V1.objs.b < w.heap.size + 1 + 1 + 1 := by omega
     clear m3 m4
     refine zaf (by kernel_rfl) (by kernel_rfl) ?_; (repeat (go_big_quiet_step ( fail ))); refine wpQuiet_nil ?_; rintro _ ⟨nx, rfl⟩
     go_wp2_with fail
     refine bodyPost_ret (za3 rfl _ _ (w.heap.size + 1 + 1) rfl ?_) rfl ?_
     · go_simp
     · exact ⟨by go_simp, grI⟩
end Go.Proofs.YtgobdndjemicjaaGreatDoor
namespace Go.Proofs.YtgobdndjemicjaaGreatDoor
open Go Go.RowKit
theorem Ints.base {X X' : World} {n : Ext} {s : Sl} {l : List Int} (h : Ints (X.plus n) s l) (hs : X'.heap.size = X.heap.size) (ho : ∀ k, s.owns k → X.heap.size ≤ k) : Ints (X'.plus n) s l := by
 refine ⟨h.len, h.cap, fun i hi => ?_⟩
 have h1 := h.cell i hi
 have hb := ho _ (zbk h (by omega))
 have e : (X.plus n).heap[s.b]? = (X'.plus n).heap[s.b]? := by
  simp only [World.plus, Array.getElem?_append, hs]
  rw [if_neg (by omega), if_neg (by omega)]
 rw [← h1]
 simp only [World.cell?, e]
set_option maxRecDepth 100000 in
set_option maxHeartbeats 8000000 in
theorem zwi (S : St) (V : SV) (e : List Int) (w : World) (R : RepSt w V S) (hS : Small S) (hc : evCheck e = 0) (hk : gt e 0 = 1) (a bz c dz ei : Nat) (E : MoveEv e a bz c dz ei) (hA : S.objs.length ≤ a) :
 Calls Tryz.prog 171 #[.agg (stA V S.num), .agg (cellsOf e)] w (zdq w (.error 4)) := by
 obtain ⟨he, q1, q2, q3, q4, q5, hb', hd'⟩ := E
 have hck := fun W => zb7 e he W
 rw [hc] at hck
 have HC := Lib.hid hck
 have HR := Lib.hid R
 have HS := Lib.hid hS
 have hlb := hS.list bz hb'
 have hld := hS.list dz hd'
 have hSO := hS.objs
 have hbI : (bz : Int) < 11 := by omega
 have hbJ : (0 : Int) ≤ (bz : Int) := by omega
 have hdI : (dz : Int) < 11 := by omega
 have hdJ : (0 : Int) ≤ (dz : Int) := by omega
 clear hck hc R hS
 have hlen : (S.objs.length : Int) ≤ (a : Int) := by omega
 go_enter Tryz.func171, Tryz.ntmps171
 go_wp2_with (first | (go_at_call 116; refine (HC.out _).mono ?_; rintro e' w' ⟨rfl, n0, rfl⟩) | (go_at_call 55; refine (zcb S V _ (HR.out.grow grI) HS.out).mono ?_; rintro e' w' ⟨V1, rfl, hF, n1, rfl⟩; (try simp only [zad] at hF); (try simp only [zac] at hF); have HF := Lib.hid (hF.low (m := w.heap.size + 3) (by simp only [zab, zaa]; omega)); have hol := hF.rep.objs.len; clear hF))
 refine bodyPost_ret (za3 rfl _ _ (w.heap.size + 1 + 1) rfl ?_) rfl ?_
 · go_simp
 · exact ⟨by go_simp, grI⟩
set_option maxRecDepth 100000 in
set_option maxHeartbeats 8000000 in
theorem zwk (S : St) (V : SV) (e : List Int) (w : World) (R : RepSt w V S) (hS : Small S) (hc : evCheck e = 0) (hk : gt e 0 = 1) (a bz c dz ei : Nat) (E : MoveEv e a bz c dz ei) (hA : a < S.objs.length) (hC : (S.list bz).length ≤ c) :
 Calls Tryz.prog 171 #[.agg (stA V S.num), .agg (cellsOf e)] w (zdq w (.error 20)) := by
 obtain ⟨he, q1, q2, q3, q4, q5, hb', hd'⟩ := E
 have hck := fun W => zb7 e he W
 rw [hc] at hck
 have HC := Lib.hid hck
 have HR := Lib.hid R
 have HS := Lib.hid hS
 have hlb := hS.list bz hb'
 have hld := hS.list dz hd'
 have hSO := hS.objs
 have hbI : (bz : Int) < 11 := by omega
 have hbJ : (0 : Int) ≤ (bz : Int) := by omega
 have hdI : (dz : Int) < 11 := by omega
 have hdJ : (0 : Int) ≤ (dz : Int) := by omega
 clear hck hc R hS
 have hlen : ¬ (S.objs.length : Int) ≤ (a : Int) := by omega
 have hcl : ((S.list bz).length : Int) ≤ (c : Int) := by omega
 go_enter Tryz.func171, Tryz.ntmps171
 go_wp2_with (first | (go_at_call 116; refine (HC.out _).mono ?_; rintro e' w' ⟨rfl, n0, rfl⟩) | (go_at_call 55; refine (zcb S V _ (HR.out.grow grI) HS.out).mono ?_; rintro e' w' ⟨V1, rfl, hF, n1, rfl⟩; (try simp only [zad] at hF); (try simp only [zac] at hF); have HF := Lib.hid (hF.low (m := w.heap.size + 3) (by simp only [zab, zaa]; omega)); have hol := hF.rep.objs.len; clear hF))
 have hln := (HF.out.rep.list bz hb').len
 have hat : (stA V1 S.num)[1 + bz]? = some (V1.list bz).val := zbz _ _ _ hb'
 refine zaf (by kernel_rfl) (by kernel_rfl) ?_; (repeat (go_big_quiet_step ( fail ))); refine wpQuiet_nil ?_; rintro _ ⟨nx, rfl⟩
 go_wp2_with fail
 refine bodyPost_ret (za3 rfl _ _ (w.heap.size + 1 + 1) rfl ?_) rfl ?_
 · go_simp
 · exact ⟨by go_simp, grI⟩
set_option maxRecDepth 100000 in
set_option maxHeartbeats 8000000 in
theorem zpl (S : St) (V : SV) (e : List Int) (w : World) (R : RepSt w V S) (hS : Small S) (hc : evCheck e = 0) (hk : gt e 0 = 1) (a bz c dz ei : Nat) (E : MoveEv e a bz c dz ei) (hA : a < S.objs.length) (hC : c < (S.list bz).length) (hx : gt (S.list bz) c ≠ a) :
 Calls Tryz.prog 171 #[.agg (stA V S.num), .agg (cellsOf e)] w (zdq w (.error 20)) := by
 obtain ⟨he, q1, q2, q3, q4, q5, hb', hd'⟩ := E
 have hck := fun W => zb7 e he W
 rw [hc] at hck
 have HC := Lib.hid hck
 have HR := Lib.hid R
 have HS := Lib.hid hS
 have hlb := hS.list bz hb'
 have hld := hS.list dz hd'
 have hSO := hS.objs
 have hbI : (bz : Int) < 11 := by omega
 have hbJ : (0 : Int) ≤ (bz : Int) := by omega
 have hdI : (dz : Int) < 11 := by omega
 have hdJ : (0 : Int) ≤ (dz : Int) := by omega
 clear hck hc R hS
 have hlen : ¬ (S.objs.length : Int) ≤ (a : Int) := by omega
 have hcl : ((S.list bz).length ≤ c) = False := by simp; omega
 have hcl2 : (((S.list bz).length : Int) ≤ (c : Int)) = False := by simp; omega
 have hc1 : (c : Int) < ((S.list bz).length : Int) := by omega
 have hc0 : (0 : Int) ≤ (c : Int) := by omega
 have hxb : (gt (S.list bz) c != (a : Int)) = true := by simpa using hx
 go_enter Tryz.func171, Tryz.ntmps171
 go_wp2_with (first | (go_at_call 116; refine (HC.out _).mono ?_; rintro e' w' ⟨rfl, n0, rfl⟩) | (go_at_call 55; refine (zcb S V _ (HR.out.grow grI) HS.out).mono ?_; rintro e' w' ⟨V1, rfl, hF, n1, rfl⟩; (try simp only [zad] at hF); (try simp only [zac] at hF); have HF := Lib.hid (hF.low (m := w.heap.size + 3) (by simp only [zab, zaa]; omega)); have hol := hF.rep.objs.len; clear hF))
 have hln := (HF.out.rep.list bz hb').len
 have hat : (stA V1 S.num)[1 + bz]? = some (V1.list bz).val := zbz _ _ _ hb'
 obtain ⟨m1, m2, m3, _⟩ := (HF.out.list bz hb').cell_in (j := c) (u := I (gt (S.list bz) c)) (by rw [List.getElem?_map, List.getElem?_eq_getElem hC]; simp [gt, hC])
 have m3' : zcp (((w.alloc (.cells (stA V S.num) 29)).alloc (.cells (cellsOf e) 122)).alloc (.cells (stA SV.zero fun _ => 0) 29)) (n0.and n1) (V1.list bz).b ((V1.list bz).o + c) = some (I (gt (S.list bz) c)) := m3
 simp only [zab, zaa] at m2
 have m0 : ¬ (V1.list bz).b < w.heap.size + 1 + 1 + 1 := by omega
 have m4 : ¬ (V1.list bz).b = w.heap.size + 1 + 1 + 1 + (n0.and n1).objs.size := by omega
 refine zaf (by kernel_rfl) (by kernel_rfl) ?_; (repeat (go_big_quiet_step ( fail ))); refine wpQuiet_nil ?_; rintro _ ⟨nx, rfl⟩
 go_wp2_with fail
 refine bodyPost_ret (za3 rfl _ _ (w.heap.size + 1 + 1) rfl ?_) rfl ?_
 · go_simp
 · exact ⟨by go_simp, grI⟩
set_option maxRecDepth 100000 in
set_option maxHeartbeats 8000000 in
theorem zsp (S : St) (V : SV) (e : List Int) (w : World) (R : RepSt w V S) (hS : Small S) (hc : evCheck e = 0) (hk : gt e 0 = 1) (a bz c dz ei : Nat) (E : MoveEv e a bz c dz ei) (hA : a < S.objs.length) (hC : c < (S.list bz).length) (hx : gt (S.list bz) c = a) (hE : (zau S bz c dz).length < ei) :
 Calls Tryz.prog 171 #[.agg (stA V S.num), .agg (cellsOf e)] w (zdq w (.error 1)) := by
 obtain ⟨he, q1, q2, q3, q4, q5, hb', hd'⟩ := E
 have hck := fun W => zb7 e he W
 rw [hc] at hck
 have HC := Lib.hid hck
 have HR := Lib.hid R
 have HS := Lib.hid hS
 have hlb := hS.list bz hb'
 have hld := hS.list dz hd'
 have hSO := hS.objs
 have hbI : (bz : Int) < 11 := by omega
 have hbJ : (0 : Int) ≤ (bz : Int) := by omega
 have hdI : (dz : Int) < 11 := by omega
 have hdJ : (0 : Int) ≤ (dz : Int) := by omega
 clear hck hc R hS
 have hlen : ¬ (S.objs.length : Int) ≤ (a : Int) := by omega
 have aI : (a : Int) < (S.objs.length : Int) := by omega
 have aJ : (0 : Int) ≤ (a : Int) := by omega
 have hcl : ((S.list bz).length ≤ c) = False := by simp; omega
 have hcl2 : (((S.list bz).length : Int) ≤ (c : Int)) = False := by simp; omega
 have hc1 : (c : Int) < ((S.list bz).length : Int) := by omega
 have hc0 : (0 : Int) ≤ (c : Int) := by omega
 have hxb : (gt (S.list bz) c != (a : Int)) = false := by simp [hx]
 go_enter Tryz.func171, Tryz.ntmps171
 go_wp2_with (first | (go_at_call 116; refine (HC.out _).mono ?_; rintro e' w' ⟨rfl, n0, rfl⟩) | (go_at_call 55; refine (zcb S V _ (HR.out.grow grI) HS.out).mono ?_; rintro e' w' ⟨V1, rfl, hF, n1, rfl⟩; (try simp only [zad] at hF); (try simp only [zac] at hF); have HF := Lib.hid (hF.low (m := w.heap.size + 3) (by simp only [zab, zaa]; omega)); have hol := hF.rep.objs.len; clear hF))
 have hln := (HF.out.rep.list bz hb').len
 have hat : (stA V1 S.num)[1 + bz]? = some (V1.list bz).val := zbz _ _ _ hb'
 obtain ⟨m1, m2, m3, _⟩ := (HF.out.list bz hb').cell_in (j := c) (u := I (gt (S.list bz) c)) (by rw [List.getElem?_map, List.getElem?_eq_getElem hC]; simp [gt, hC])
 have m3' : zcp (((w.alloc (.cells (stA V S.num) 29)).alloc (.cells (cellsOf e) 122)).alloc (.cells (stA SV.zero fun _ => 0) 29)) (n0.and n1) (V1.list bz).b ((V1.list bz).o + c) = some (I (gt (S.list bz) c)) := m3
 simp only [zab, zaa] at m2
 have m0 : ¬ (V1.list bz).b < w.heap.size + 1 + 1 + 1 := by omega
 have m4 : ¬ (V1.list bz).b = w.heap.size + 1 + 1 + 1 + (n0.and n1).objs.size := by omega
 refine zaf (by kernel_rfl) (by kernel_rfl) ?_; (repeat (go_big_quiet_step ( fail ))); refine wpQuiet_nil ?_; rintro _ ⟨nx, rfl⟩
 go_wp2_with fail
 clear m1 m2 m3 m3' m0 m4
 refine wp_region_noPanic ?_; refine zeh [0, 1, 2, 3, 4, 5, 6, 7, 8, 10] 9 11 [12] _ (by kernel_rfl) (fun _ _ _ _ h => h) rfl (by kernel_rfl) ?_; simp only [zb4, List.getElem?_cons_zero, List.getElem?_cons_succ]; (repeat (go_big_quiet_step (fail))); refine wpQuiet_nil ?_; rintro _ ⟨nx, rfl⟩; intro K hK
 refine zak (by rfl) ?_
 go_simp
 go_at_call 223
 refine (zji _ (V1.list bz) (S.list bz) c ((HF.out.rep.list bz hb').grow grI) hlb).mono ?_
 rintro e' w' ⟨s1, rfl, hM, n2, rfl⟩
 (try simp only [zad] at hM); (try simp only [zac] at hM)
 refine hK _ _ (show Grow _ _ from grI) ?_
 clear hK K
 have hM1 : ∀ k, s1.owns k → w.heap.size + 1 + 1 + 1 + (n0.and n1).objs.size + 1 ≤ k := fun k hk => by have := (hM.own k hk).1; simp only [zab, zaa] at this; omega
 have HI1 := Lib.hid hM.cells.ints
 have HO1 := Lib.hid hM.own
 have HM1 := Lib.hid hM1
 clear hM hM1
 have hn2 : (upd V1.list bz s1 dz).n = (zau S bz c dz).length := by
  unfold zau
  by_cases ed : dz = bz
  · subst ed
    rw [zan, if_pos rfl]; exact HI1.out.len
  · rw [zbc _ _ _ _ ed, if_neg ed]; exact (HF.out.rep.list dz hd').len
 have hat2 : (stA ⟨V1.objs, upd V1.list bz s1⟩ S.num)[1 + dz]? = some (upd V1.list bz s1 dz).val := zbz _ _ _ hd'
 go_wp2_with fail
 refine NoPanic.normal ?_
 have hei : (((zau S bz c dz).length : Int) < (ei : Int)) = True := by simp; omega
 go_wp2_with fail
 refine zaf (by kernel_rfl) (by kernel_rfl) ?_; (repeat (go_big_quiet_step ( fail ))); refine wpQuiet_nil ?_; rintro _ ⟨nx, rfl⟩
 go_wp2_with fail
 refine bodyPost_ret (za3 rfl _ _ (w.heap.size + 1 + 1) rfl ?_) rfl ?_
 · go_simp
 · exact ⟨by go_simp, grI⟩
set_option maxRecDepth 100000 in
set_option maxHeartbeats 8000000 in
theorem zpk (S : St) (V : SV) (e : List Int) (w : World) (R : RepSt w V S) (hS : Small S) (hc : evCheck e = 0) (hk : gt e 0 = 1) (a bz c dz ei : Nat) (E : MoveEv e a bz c dz ei) (hA : a < S.objs.length) (hC : c < (S.list bz).length) (hx : gt (S.list bz) c = a) (hE : ei ≤ (zau S bz c dz).length) :
 Calls Tryz.prog 171 #[.agg (stA V S.num), .agg (cellsOf e)] w (zdq w (.ok (zb3 S a bz c dz ei))) := by
 obtain ⟨he, q1, q2, q3, q4, q5, hb', hd'⟩ := E
 have hck := fun W => zb7 e he W
 rw [hc] at hck
 have HC := Lib.hid hck
 have HR := Lib.hid R
 have HS := Lib.hid hS
 have hlb := hS.list bz hb'
 have hld := hS.list dz hd'
 have hSO := hS.objs
 have hbI : (bz : Int) < 11 := by omega
 have hbJ : (0 : Int) ≤ (bz : Int) := by omega
 have hdI : (dz : Int) < 11 := by omega
 have hdJ : (0 : Int) ≤ (dz : Int) := by omega
 clear hck hc R hS
 have hlen : ¬ (S.objs.length : Int) ≤ (a : Int) := by omega
 have aI : (a : Int) < (S.objs.length : Int) := by omega
 have aJ : (0 : Int) ≤ (a : Int) := by omega
 have hcl : ((S.list bz).length ≤ c) = False := by simp; omega
 have hcl2 : (((S.list bz).length : Int) ≤ (c : Int)) = False := by simp; omega
 have hc1 : (c : Int) < ((S.list bz).length : Int) := by omega
 have hc0 : (0 : Int) ≤ (c : Int) := by omega
 have hxb : (gt (S.list bz) c != (a : Int)) = false := by simp [hx]
 go_enter Tryz.func171, Tryz.ntmps171
 go_wp2_with (first | (go_at_call 116; refine (HC.out _).mono ?_; rintro e' w' ⟨rfl, n0, rfl⟩) | (go_at_call 55; refine (zcb S V _ (HR.out.grow grI) HS.out).mono ?_; rintro e' w' ⟨V1, rfl, hF, n1, rfl⟩; (try simp only [zad] at hF); (try simp only [zac] at hF); have HF := Lib.hid (hF.low (m := w.heap.size + 3) (by simp only [zab, zaa]; omega)); have hol := hF.rep.objs.len; clear hF))
 have hln := (HF.out.rep.list bz hb').len
 have hat : (stA V1 S.num)[1 + bz]? = some (V1.list bz).val := zbz _ _ _ hb'
 obtain ⟨m1, m2, m3, _⟩ := (HF.out.list bz hb').cell_in (j := c) (u := I (gt (S.list bz) c)) (by rw [List.getElem?_map, List.getElem?_eq_getElem hC]; simp [gt, hC])
 have m3' : zcp (((w.alloc (.cells (stA V S.num) 29)).alloc (.cells (cellsOf e) 122)).alloc (.cells (stA SV.zero fun _ => 0) 29)) (n0.and n1) (V1.list bz).b ((V1.list bz).o + c) = some (I (gt (S.list bz) c)) := m3
 simp only [zab, zaa] at m2
 have m0 : ¬ (V1.list bz).b < w.heap.size + 1 + 1 + 1 := by omega
 have m4 : ¬ (V1.list bz).b = w.heap.size + 1 + 1 + 1 + (n0.and n1).objs.size := by omega
 refine zaf (by kernel_rfl) (by kernel_rfl) ?_; (repeat (go_big_quiet_step ( fail ))); refine wpQuiet_nil ?_; rintro _ ⟨nx, rfl⟩
 go_wp2_with fail
 clear m1 m2 m3 m3' m0 m4
 refine wp_region_noPanic ?_; refine zeh [0, 1, 2, 3, 4, 5, 6, 7, 8, 10] 9 11 [12] _ (by kernel_rfl) (fun _ _ _ _ h => h) rfl (by kernel_rfl) ?_; simp only [zb4, List.getElem?_cons_zero, List.getElem?_cons_succ]; (repeat (go_big_quiet_step (fail))); refine wpQuiet_nil ?_; rintro _ ⟨nx, rfl⟩; intro K hK
 refine zak (by rfl) ?_
 go_simp
 go_at_call 223
 refine (zji _ (V1.list bz) (S.list bz) c ((HF.out.rep.list bz hb').grow grI) hlb).mono ?_
 rintro e' w' ⟨s1, rfl, hM, n2, rfl⟩
 (try simp only [zad] at hM); (try simp only [zac] at hM)
 refine hK _ _ (show Grow _ _ from grI) ?_
 clear hK K
 have hM1 : ∀ k, s1.owns k → w.heap.size + 1 + 1 + 1 + (n0.and n1).objs.size + 1 ≤ k := fun k hk => by have := (hM.own k hk).1; simp only [zab, zaa] at this; omega
 have HI1 := Lib.hid hM.cells.ints
 have HO1 := Lib.hid hM.own
 have HM1 := Lib.hid hM1
 clear hM hM1
 have hn2 : (upd V1.list bz s1 dz).n = (zau S bz c dz).length := by
  unfold zau
  by_cases ed : dz = bz
  · subst ed
    rw [zan, if_pos rfl]; exact HI1.out.len
  · rw [zbc _ _ _ _ ed, if_neg ed]; exact (HF.out.rep.list dz hd').len
 have hat2 : (stA ⟨V1.objs, upd V1.list bz s1⟩ S.num)[1 + dz]? = some (upd V1.list bz s1 dz).val := zbz _ _ _ hd'
 go_wp2_with fail
 refine NoPanic.normal ?_
 have hei : (((zau S bz c dz).length : Int) < (ei : Int)) = False := by simp; omega
 go_wp2_with fail
 refine zaf (by kernel_rfl) (by kernel_rfl) ?_; (repeat (go_big_quiet_step ( fail ))); refine wpQuiet_nil ?_; rintro _ ⟨nx, rfl⟩
 go_wp2_with fail
 obtain ⟨m1, m2, m3, m4⟩ := HF.out.objs.cell_in (zmc (i := a) (j := 3) HF.out.wid hA (by omega))
 rw [← Nat.add_assoc] at m3 m4
 have m3' : zcp (((w.alloc (.cells (stA V S.num) 29)).alloc (.cells (cellsOf e) 122)).alloc (.cells (stA SV.zero fun _ => 0) 29)) (n0.and n1) V1.objs.b (V1.objs.o + a * 18 + 3) = some (I (gt (rowAt S.objs a) 3)) := m3
 have m4' : zf5 (((w.alloc (.cells (stA V S.num) 29)).alloc (.cells (cellsOf e) 122)).alloc (.cells (stA SV.zero fun _ => 0) 29)) (n0.and n1) V1.objs.b (V1.objs.o + a * 18 + 3) = false := m4
 obtain ⟨y, hy, hys⟩ := zo3 (((w.alloc (.cells (stA V S.num) 29)).alloc (.cells (cellsOf e) 122)).alloc (.cells (stA SV.zero fun _ => 0) 29)) (n0.and n1) V1.objs.b (V1.objs.o + a * 18 + 3) (I (dz : Int)) (by simp only [zaa]; omega)
 simp only [zab, zaa] at m2
 have m0 : ¬ V1.objs.b < w.heap.size + 1 + 1 + 1 := by omega
 have m5 : ¬ V1.objs.b = w.heap.size + 1 + 1 + 1 + (n0.and n1).objs.size := by omega
 have HY := Lib.hid hy
 have HYS := Lib.hid hys
 clear m3 m4
 refine wp_region_noPanic ?_; refine zeh [0, 1, 2, 3, 4, 5, 6, 7, 8, 9, 10, 12] 11 13 [14] _ (by kernel_rfl) (fun _ _ _ _ h => h) rfl (by kernel_rfl) ?_; simp only [zb4, List.getElem?_cons_zero, List.getElem?_cons_succ]; (repeat (go_big_quiet_step (fail))); refine wpQuiet_nil ?_; rintro _ ⟨nx, rfl⟩; intro K hK
 refine zak (by rfl) ?_
 go_simp
 go_at_call 224
 refine (zoc _ (upd V1.list bz s1 dz) (zau S bz c dz) ei (a : Int) hE ?_ ?_).mono ?_
 · unfold zau
   by_cases ed : dz = bz
   · subst ed
     rw [zan, if_pos rfl]
     exact (HI1.out.base (X' := ((((w.alloc (.cells (stA V S.num) 29)).alloc (.cells (cellsOf e) 122)).alloc (.cells (stA SV.zero fun _ => 0) 29)).plus (n0.and n1)).alloc (.cells (stA ⟨V1.objs, upd V1.list dz s1⟩ S.num) 29)) (by simp only [zaa]) (fun k hk => by have := HM1.out k hk; simp only [zab, zaa]; exact this)).grow grI
   · rw [zbc _ _ _ _ ed, if_neg ed]
     exact (HF.out.rep.list dz hd').grow grI
 · unfold zau
   split
   · rw [List.length_eraseIdx]; split <;> omega
   · exact hld
 rintro e' w' ⟨s3, rfl, hM, n3, rfl⟩
 (try simp only [zad] at hM); (try simp only [zac] at hM)
 refine hK _ _ (show Grow _ _ from by rw [zac]; exact grI) ?_
 clear hK K
 have HI3 := Lib.hid hM.cells.ints
 have HO3 := Lib.hid hM.own
 clear hM
 go_wp2_with fail
 refine NoPanic.normal ?_
 go_wp2_with fail
 refine zaq [0, 1, 2, 3, 4, 5, 6, 7] 8 [] (by kernel_rfl) (by kernel_rfl) ?_; simp only [zb4, List.getElem?_cons_zero, List.getElem?_cons_succ]; (repeat (go_big_quiet_step ( fail ))); refine wpQuiet_nil ?_; rintro _ ⟨nx, rfl⟩
 go_wp2_with fail
 refine bodyPost_ret (za3 rfl _ _ (w.heap.size + 1 + 1) rfl ?_) rfl ?_
 · go_simp
 · have hsz : ((((w.alloc (.cells (stA V S.num) 29)).alloc (.cells (cellsOf e) 122)).alloc (.cells (stA (⟨V1.objs, upd (upd V1.list bz s1) dz s3⟩ : SV) S.num) 29)).plus y).heap.size = ((((w.alloc (.cells (stA V S.num) 29)).alloc (.cells (cellsOf e) 122)).alloc (.cells (stA SV.zero fun _ => 0) 29)).plus (n0.and n1)).heap.size := by simp only [zab, zaa, HYS.out]
   have hob : V1.objs.owns V1.objs.b := zar HF.out.rep.objs (by omega)
   have hK : Kept (fun k => k = V1.objs.b) ((((w.alloc (.cells (stA V S.num) 29)).alloc (.cells (cellsOf e) 122)).alloc (.cells (stA SV.zero fun _ => 0) 29)).plus (n0.and n1)) ((((w.alloc (.cells (stA V S.num) 29)).alloc (.cells (cellsOf e) 122)).alloc (.cells (stA SV.zero fun _ => 0) 29)).plus y) := by
    rw [← HY.out]
    exact (Kept.refl _ _).setCell _ _ _ (fun _ => rfl)
   have hO : Rows' ((((w.alloc (.cells (stA V S.num) 29)).alloc (.cells (cellsOf e) 122)).alloc (.cells (stA SV.zero fun _ => 0) 29)).plus y) V1.objs 18 (zb3 S a bz c dz ei).objs := by
    have := HF.out.rep.objs.setObj a 3 (dz : Int) hA (by omega)
    rw [Nat.add_assoc] at this
    rw [← HY.out, Nat.add_assoc]
    exact this
   have hO2 : Rows' ((((w.alloc (.cells (stA V S.num) 29)).alloc (.cells (cellsOf e) 122)).alloc (.cells (stA (⟨V1.objs, upd (upd V1.list bz s1) dz s3⟩ : SV) S.num) 29)).plus y) V1.objs 18 (zb3 S a bz c dz ei).objs := hO.off (b := w.heap.size + 1 + 1) (by repeat (first | exact Off.base _ _ _ _ (by simp only [zaa]) | refine Off.plus ?_ _ | refine Off.alloc ?_ _)) (fun _ => by omega)
   have hL : ∀ z, z < 11 → Ints ((((w.alloc (.cells (stA V S.num) 29)).alloc (.cells (cellsOf e) 122)).alloc (.cells (stA (⟨V1.objs, upd (upd V1.list bz s1) dz s3⟩ : SV) S.num) 29)).plus y) (V1.list z) (S.list z) := fun z hz =>
    (((HF.out.list z hz).cells.kept hK (fun b hb h => HF.out.apO z hz b hb (h ▸ hob))).ints).off (b := w.heap.size + 1 + 1) (by repeat (first | exact Off.base _ _ _ _ (by simp only [zaa]) | refine Off.plus ?_ _ | refine Off.alloc ?_ _)) (fun hl => by have := (HF.out.own _ (.inr ⟨z, hz, zbk (HF.out.rep.list z hz) hl⟩)).1; omega)
   have h1 := HI1.out.base (X' := ((((w.alloc (.cells (stA V S.num) 29)).alloc (.cells (cellsOf e) 122)).alloc (.cells (stA (⟨V1.objs, upd (upd V1.list bz s1) dz s3⟩ : SV) S.num) 29)).plus y).alloc (.cells (stA (⟨V1.objs, upd (upd V1.list bz s1) dz s3⟩ : SV) S.num) 29)) (by rw [zaa, zaa, hsz]) (fun k hk => by have := HM1.out k hk; simp only [zab, zaa]; exact this)
   have h3 := HI3.out.base (X' := ((((w.alloc (.cells (stA V S.num) 29)).alloc (.cells (cellsOf e) 122)).alloc (.cells (stA (⟨V1.objs, upd (upd V1.list bz s1) dz s3⟩ : SV) S.num) 29)).plus y).alloc (.cells (stA (⟨V1.objs, upd (upd V1.list bz s1) dz s3⟩ : SV) S.num) 29)) (by rw [zaa, zaa, hsz]) (fun k hk => by have := (HO3.out k hk).1; simp only [zab, zaa] at this ⊢; omega)
   have hA1 := HO1.out
   have hA3 := HO3.out
   have hU := HF.out.own
   simp only [zab, zaa, Ext.and, Array.size_append] at hA1 hA3 hU
   have hys2 := HYS.out
   simp only [Ext.and, Array.size_append] at hys2
   refine ⟨(⟨V1.objs, upd (upd V1.list bz s1) dz s3⟩ : SV), by go_simp; rfl, ⟨hO2.grow grI, fun z hz => ?_⟩, fun k hk => ?_, grI⟩
   · show Ints _ (upd (upd V1.list bz s1) dz s3 z) (upd (upd S.list bz ((S.list bz).eraseIdx c)) dz ((zau S bz c dz).insertIdx ei (a : Int)) z)
     by_cases e1 : z = dz
     · subst e1
       rw [zan, zan]
       exact h3.grow grI
     · rw [zbc _ _ _ _ e1, zbc _ _ _ _ e1]
       by_cases e2 : z = bz
       · subst e2
         rw [zan, zan]
         exact h1.grow grI
       · rw [zbc _ _ _ _ e2, zbc _ _ _ _ e2]
         exact (hL z hz).grow grI
   · simp only [zab, zaa, Ext.and, Array.size_append]
     rcases hk with hk | ⟨z, hz, hk⟩
     · have := hU k (.inl hk); omega
     · have hk : (upd (upd V1.list bz s1) dz s3 z).owns k := hk
       by_cases e1 : z = dz
       · subst e1; rw [zan] at hk; have := hA3 k hk; omega
       · rw [zbc _ _ _ _ e1] at hk
         by_cases e2 : z = bz
         · subst e2; rw [zan] at hk; have := hA1 k hk; omega
         · rw [zbc _ _ _ _ e2] at hk
           have := hU k (.inr ⟨z, hz, hk⟩); omega
end Go.Proofs.YtgobdndjemicjaaGreatDoor
namespace Go.Proofs.YtgobdndjemicjaaGreatDoor
open Go Go.RowKit
theorem zsr (S : St) (V : SV) (e : List Int) (w : World) (R : RepSt w V S) (hS : Small S) (hc : evCheck e = 0) (hk : gt e 0 = 1) (a bz c dz ei : Nat) (E : MoveEv e a bz c dz ei) :
 Calls Tryz.prog 171 #[.agg (stA V S.num), .agg (cellsOf e)] w (zdq w (ziv S a bz c dz ei)) := by
 unfold ziv
 by_cases hA : S.objs.length ≤ a
 · rw [if_pos hA]; exact zwi S V e w R hS hc hk a bz c dz ei E hA
 rw [if_neg hA]
 by_cases hC : c < (S.list bz).length
 · by_cases hx : gt (S.list bz) c = a
   · rw [if_neg (fun h => h ⟨hC, hx⟩)]
     by_cases hE : (zau S bz c dz).length < ei
     · rw [if_pos hE]; exact zsp S V e w R hS hc hk a bz c dz ei E (by omega) hC hx hE
     · rw [if_neg hE]; exact zpk S V e w R hS hc hk a bz c dz ei E (by omega) hC hx (by omega)
   · rw [if_pos (fun h => hx h.2)]
     exact zpl S V e w R hS hc hk a bz c dz ei E (by omega) hC hx
 · rw [if_pos (fun h => hC h.1)]
   exact zwk S V e w R hS hc hk a bz c dz ei E (by omega) (by omega)
theorem zwh (S : St) (V : SV) (e : List Int) (he : e.length = 6) (w : World) (R : RepSt w V S) (hS : Small S) (k0 : gt e 0 ≠ 0) (k5 : gt e 0 ≠ 5) :
 Calls Tryz.prog 171 #[.agg (stA V S.num), .agg (cellsOf e)] w (zdq w (zd5 S e)) := by
 by_cases hc : evCheck e = 0
 · unfold zd5
   rw [if_neg (fun h => h hc)]
   obtain ⟨c1, c2, c3⟩ : inR (gt e 0) 6 = true ∧ zbx e = true ∧ za5 e = true := by
    have hc := hc
    unfold evCheck at hc
    by_cases c1 : inR (gt e 0) 6 = false
    · rw [if_pos c1] at hc; cases hc
    rw [if_neg c1] at hc
    by_cases c2 : zbx e = false
    · rw [if_pos c2] at hc; cases hc
    rw [if_neg c2] at hc
    by_cases c3 : za5 e = false
    · rw [if_pos c3] at hc; cases hc
    exact ⟨by simpa using c1, by simpa using c2, by simpa using c3⟩
   have k6 : 0 ≤ gt e 0 ∧ gt e 0 < 6 := by simpa [inR] using c1
   rw [if_neg k0, if_neg k5]
   unfold za5 at c3
   rw [if_neg (by omega)] at c3
   by_cases k1 : gt e 0 = 1
   · rw [if_pos k1]
     rw [if_pos k1] at c3
     have c4 : 0 ≤ gt e 1 ∧ (0 ≤ gt e 2 ∧ gt e 2 < 11) ∧ (0 ≤ gt e 4 ∧ gt e 4 < 11) ∧ 0 ≤ gt e 3 ∧ 0 ≤ gt e 5 := by
      simp only [inR, Bool.and_eq_true, decide_eq_true_eq] at c3; omega
     exact zsr S V e w R hS hc k1 _ _ _ _ _ ⟨he, by omega, by omega, by omega, by omega, by omega, by omega, by omega⟩
   rw [if_neg k1]
   rw [if_neg k1] at c3
   by_cases k2 : gt e 0 = 2
   · rw [if_pos k2]
     rw [if_pos k2] at c3
     have c4 : 0 ≤ gt e 1 ∧ (0 ≤ gt e 2 ∧ gt e 2 < 18) := by
      simp only [inR, Bool.and_eq_true, decide_eq_true_eq] at c3; omega
     exact zwj S V e he w R hS hc k2 (gt e 1).toNat (gt e 2).toNat (by omega) (by omega) (by omega)
   rw [if_neg k2]
   rw [if_neg k2] at c3
   by_cases k3 : gt e 0 = 3
   · rw [if_pos k3] at c3
     have c4 : (0 ≤ gt e 1 ∧ gt e 1 < 2) ∧ (0 ≤ gt e 2 ∧ gt e 2 < 9) := by
      simp only [inR, Bool.and_eq_true, decide_eq_true_eq] at c3; omega
     have := znj S V e he w R hS hc k3 (gt e 1).toNat (gt e 2).toNat (by omega) (by omega) (by omega) (by omega)
     simp only [if_pos k3]
     exact this
   · rw [if_neg k3] at c3
     have c4 : 0 ≤ gt e 2 ∧ gt e 2 < 7 := by
      simp only [inR, Bool.and_eq_true, decide_eq_true_eq] at c3; omega
     have := zso S V e he w R hS hc (by omega) (gt e 2).toNat (by omega) (by omega)
     simp only [if_neg k3]
     exact this
 · exact zni S V e he w hc
end Go.Proofs.YtgobdndjemicjaaGreatDoor
