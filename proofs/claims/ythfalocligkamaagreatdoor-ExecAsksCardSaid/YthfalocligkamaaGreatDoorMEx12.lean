/- The walks of exec's Group and Holds, and of shape's Beasts. -/
import Derived.Test.YthfalocligkamaaGreatDoorMEx4
namespace Go.Proofs.YthfalocligkamaaGreatDoor
open Go Go.RowKit Go.Shelf
def zav (S : St) (n ctl src : Int) (k : Nat) : List Int := ((S.list 8).take k).filter fun id => zum S n ctl src id && zam S id
theorem zfy (S : St) (n ctl src : Int) (k : Nat) (h : k < (S.list 8).length) : zav S n ctl src (k + 1) = zav S n ctl src k ++ if (zum S n ctl src (gt (S.list 8) k) && zam S (gt (S.list 8) k)) = true then [gt (S.list 8) k] else [] := by
 unfold zav
 rw [List.take_succ_eq_append_getElem h, zcw _ _ h, List.filter_append]
 simp [List.filter_cons]
def zdu (S : St) (p : Int) (k : Nat) : List Int := ((S.list 8).take k).filter fun id => zam S id && gt (rowAt S.objs id.toNat) 2 == p
theorem zkp (S : St) (p : Int) (k : Nat) (h : k < (S.list 8).length) : zdu S p (k + 1) = zdu S p k ++ if (zam S (gt (S.list 8) k) && gt (rowAt S.objs (gt (S.list 8) k).toNat) 2 == p) = true then [gt (S.list 8) k] else [] := by
 unfold zdu
 rw [List.take_succ_eq_append_getElem h, zcw _ _ h, List.filter_append]
 simp [List.filter_cons]
set_option maxRecDepth 100000 in
set_option maxHeartbeats 4000000 in
theorem zpw (S : St) (V : SV) (w : World) (h : RS S V w) (p : Int) :
 Calls Tryz.prog 34 #[.agg (stA V S.num), .int .i64 p] w fun e w' => ∃ s : Sl, e = .returned s.val ∧ Ints w' s (beastsN S p) ∧ (∀ q, s.owns q → w.heap.size ≤ q) ∧ Grow w w' := by
 have hL := (h.rep.list 8 (by decide)).len
 have hSL := h.right.smallN.list 8 (by decide)
 have hbe : beastsN S p = zdu S p (S.list 8).length := by unfold beastsN zdu; rw [if_neg (by rw [(zbi S).2 h.right]; simp), List.take_length]
 rw [hbe]
 have HH := Lib.hid h
 have hON := h.rep.objs.len
 clear h hbe
 go_enter Tryz.func34, Tryz.ntmps34
 go_wp2_with (go_at_call 32; refine ((HH.out.grow grI).check).mono ?_; rintro e w' ⟨rfl, n0, rfl⟩)
 go_loopw [5, 15] (fun v i wr => ∃ (k : Nat) (s : Sl), k ≤ (S.list 8).length ∧ i = .int .i64 k ∧ v = s.val ∧ Made (w.alloc (.cells (stA V S.num) 29)).heap.size wr s 1 ((zdu S p k).map I) ∧ s.n ≤ k ∧ Grow (w.alloc (.cells (stA V S.num) 29)) wr) (fun _ i _ => (S.list 8).length - (intOf i).toNat)
 case atStart => exact ⟨0, .nil, by omega, rfl, rfl, Made.nil _ _ _, by simp [Sl.n], grI⟩
 case round =>
  obtain ⟨k, s, hk, rfl, rfl, hM, hsn, hG⟩ := hrel
  obtain ⟨x, rfl⟩ := hG
  have HM := Lib.hid hM
  clear hM
  by_cases hlt : k < (S.list 8).length
  · obtain ⟨hlb, hlc⟩ := (HH.out.rep.list 8 (by decide)).at k hlt
    have HS := Lib.hid (zkp S p k hlt)
    obtain ⟨o1, o2, _, _⟩ := HH.out.right.zon.ok 8 (by decide) (gt (S.list 8) k) (by rw [zcw _ _ hlt]; exact List.getElem_mem hlt)
    generalize gt (S.list 8) k = id at *
    obtain ⟨d, rfl⟩ := Int.eq_ofNat_of_zero_le o1
    have hd : d < S.objs.length := by omega
    rw [Int.toNat_natCast] at HS
    obtain ⟨hob, how, hosz, hosub, hoc⟩ := HH.out.rep.objs.at (by omega) d hd
    have hoc2 := hoc 2 (by omega)
    clear hoc how hosz hosub
    have HCR := Lib.hid (fun W (g : Grow w W) => zec S V W (HH.out.grow g).rep HH.out.right d)
    generalize gt (rowAt S.objs d) 2 = ctl at *
    cases hcr : zam S (d : Int)
    · rw [hcr] at HCR HS
      have HS2 : Hid (zdu S p (k + 1) = zdu S p k) := by rw [Hid, HS.out]; simp
      clear hcr
      go_wp2_with (go_at_call 60; refine (HCR.out _ grI).mono ?_; rintro e' w' ⟨rfl, nx, rfl⟩)
      go_roundw
      case rel => exact ⟨k + 1, s, by omega, by go_num, rfl, by rw [HS2.out]; exact HM.out.grow grI, by omega, grI⟩
      case measure => simp [intOf]; omega
    · rw [hcr] at HCR HS
      clear hcr
      cases hcp : (ctl == p)
      · have HS2 : Hid (zdu S p (k + 1) = zdu S p k) := by rw [Hid, HS.out, hcp]; simp
        go_wp2_with (go_at_call 60; refine (HCR.out _ grI).mono ?_; rintro e' w' ⟨rfl, nx, rfl⟩)
        go_roundw
        case rel => exact ⟨k + 1, s, by omega, by go_num, rfl, by rw [HS2.out]; exact HM.out.grow grI, by omega, grI⟩
        case measure => simp [intOf]; omega
      · have HS2 : Hid (zdu S p (k + 1) = zdu S p k ++ [(d : Int)]) := by rw [Hid, HS.out, hcp]; simp
        go_wp2_with (first | (go_at_call 60; refine (HCR.out _ grI).mono ?_; rintro e' w' ⟨rfl, nx, rfl⟩) | (at_builtin; refine zbc rfl _ _ 23 rfl 3 Tryz.t3 (.int .i64 0) 1 8 Tryz.underlying23 (by kernel_rfl) (by kernel_rfl) (by kernel_rfl) (by kernel_rfl) (by omega) rfl (w.alloc (.cells (stA V S.num) 29)) s (.mk _ 0 1 1) ((zdu S p k).map I) [I (d : Int)] rfl rfl (HM.out.grow grI) grI (zdd _ _ _ (by first | (go_simp; done) | (go_simp; rfl))) (zau _) (zau [(d : Int)]) (by simp only [Sl.n] at hsn ⊢; omega) ?_; intro s2 y c1 _ c3 _; have C := Lib.hid (And.intro c1 c3); clear c1 c3))
        go_roundw
        case rel => exact ⟨k + 1, s2, by omega, by go_num, rfl, by rw [HS2.out, List.map_append]; exact C.out.1.grow grI, by rw [C.out.2]; simp only [Sl.n] at hsn ⊢; omega, grI⟩
        case measure => simp [intOf]; omega
  · go_wp2_with fail
    go_ret
    have hkl : k = (S.list 8).length := by omega
    have hM := HM.out
    rw [hkl] at hM
    exact ⟨s, rfl, (hM.cells.grow grI).ints, fun q hq => by have := (hM.own q hq).1; rw [zaa] at this; omega, grI⟩
@[go_sem ↓] theorem ydy (ρ : Operand → Value) (dst : Option Tmp) (parts : Array (Nat × Operand)) (ty : TypeId) (pos : String) (after : Array Edge) (guard : Option (Nat × Bool)) :
 execOp ρ { dst, op := .build 73 parts, type := ty, pos, after, guard } = za0 73 (parts.map fun (i, x) => (i, ρ x)) := rfl
@[go_sem ↓] theorem yhf (ρ : Operand → Value) (dst : Option Tmp) (x : Operand) (ty : TypeId) (pos : String) (after : Array Edge) (guard : Option (Nat × Bool)) :
 execOp ρ { dst, op := .load 73 x, type := ty, pos, after, guard } = za3 73 (ρ x) := rfl
@[go_sem ↓] theorem yf4 (ρ : Operand → Value) (dst : Option Tmp) (x y : Operand) (ty : TypeId) (pos : String) (after : Array Edge) (guard : Option (Nat × Bool)) :
 execOp ρ { dst, op := .store 73 x y, type := ty, pos, after, guard } = zaz 73 (ρ x) (ρ y) := rfl
@[go_sem] theorem z8f (w : World) (b o : Nat) (h : o + 4 ≤ (w.blk b).size) : (za3 73 (.pointer (some ⟨b, o, none⟩))).run Tryz.prog w = .ok (.value (.agg (sub (w.blk b) o 4))) w :=
 zaw w b o 73 4 (by kernel_rfl) (by kernel_rfl) h (by omega)
@[go_sem] theorem z51 (w : World) (b : Nat) (cs : Array Value) (h : (w.blk b).size = 4) (hc : cs.size = 4) (h1 : zai cs = true) (hf : w.free b = true) : (zaz 73 (.pointer (some ⟨b, 0, none⟩)) (.agg cs)).run Tryz.prog w = .ok .skip (w.setRow b cs) :=
 zax w b 73 4 _ (by kernel_rfl) h hc (by omega) hf h1
def b4R (a b c d : Bool) : Array Value := #[.bool a, .bool b, .bool c, .bool d]
@[go_sem] theorem z5x (w : World) (a b c d : Bool) : (za0 73 #[(0, .bool a), (1, .bool b), (2, .bool c), (3, .bool d)]).run Tryz.prog w = .ok (.value (.agg (b4R a b c d))) w := by kernel_rfl
@[go_sem] theorem yf9 (a b c d : Bool) : (b4R a b c d).size = 4 := by simp [b4R]
@[go_sem] theorem b4_0 (a b c d : Bool) : (b4R a b c d)[0]? = some (.bool a) := rfl
@[go_sem] theorem b4_1 (a b c d : Bool) : (b4R a b c d)[1]? = some (.bool b) := rfl
@[go_sem] theorem b4_2 (a b c d : Bool) : (b4R a b c d)[2]? = some (.bool c) := rfl
@[go_sem] theorem b4_3 (a b c d : Bool) : (b4R a b c d)[3]? = some (.bool d) := rfl
@[go_sem] theorem b4_e0 (a b c d : Bool) (h : 0 < (b4R a b c d).size) : (b4R a b c d)[0]'h = .bool a := by simp [b4R]
@[go_sem] theorem b4_e1 (a b c d : Bool) (h : 1 < (b4R a b c d).size) : (b4R a b c d)[1]'h = .bool b := by simp [b4R]
@[go_sem] theorem b4_e2 (a b c d : Bool) (h : 2 < (b4R a b c d).size) : (b4R a b c d)[2]'h = .bool c := by simp [b4R]
@[go_sem] theorem b4_e3 (a b c d : Bool) (h : 3 < (b4R a b c d).size) : (b4R a b c d)[3]'h = .bool d := by simp [b4R]
@[go_sem] theorem yhy (a b c d : Bool) : zai (b4R a b c d) = true := by
 simp only [zai, b4R, List.all_toArray, List.all_cons, List.all_nil, Bool.and_true]
 rfl
@[go_sem] theorem yhx (a b c d : Bool) : sub (b4R a b c d) 0 4 = b4R a b c d := rfl
@[go_sem] theorem yd0 (t : TypeId) (fr : Nat × Nat) : Obj.cells #[Value.bool false, Value.bool false, Value.bool false, Value.bool false] t fr = .cells (b4R false false false false) t fr := rfl
set_option maxRecDepth 100000 in
set_option maxHeartbeats 8000000 in
theorem z4o (S : St) (V : SV) (w : World) (h : RS S V w) (x : Ctx) :
 Calls Tryz.prog 12 #[.agg (stA V S.num), .int .i64 0, .agg (ctR x)] w fun e w' => ∃ s : Sl, e = .returned s.val ∧ Ints w' s (groupN S 0 x.ctl x.src) ∧ (∀ q, s.owns q → w.heap.size ≤ q) ∧ Grow w w' := by
 have hL := (h.rep.list 8 (by decide)).len
 have hSL := h.right.smallN.list 8 (by decide)
 have hbe : groupN S 0 x.ctl x.src = zav S 0 x.ctl x.src (S.list 8).length := by unfold groupN zav; rw [if_neg (by rw [(zbi S).2 h.right]; simp), List.take_length]
 rw [hbe]
 have HH := Lib.hid h
 have hON := h.rep.objs.len
 clear h hbe
 go_enter Tryz.func12, Tryz.ntmps12
 go_wp2_with (go_at_call 32; refine ((HH.out.grow grI).check).mono ?_; rintro e w' ⟨rfl, n0, rfl⟩)
 go_loopw [7, 27] (fun v i wr => ∃ (k : Nat) (s : Sl), k ≤ (S.list 8).length ∧ i = .int .i64 k ∧ v = s.val ∧ Made ((w.alloc (.cells (stA V S.num) 29)).alloc (.cells (ctR x) 39)).heap.size wr s 1 ((zav S 0 x.ctl x.src k).map I) ∧ s.n ≤ k ∧ Grow ((w.alloc (.cells (stA V S.num) 29)).alloc (.cells (ctR x) 39)) wr) (fun _ i _ => (S.list 8).length - (intOf i).toNat)
 case atStart => exact ⟨0, .nil, by omega, rfl, rfl, Made.nil _ _ _, by simp [Sl.n], grI⟩
 case round =>
  obtain ⟨k, s, hk, rfl, rfl, hM, hsn, hG⟩ := hrel
  obtain ⟨x9, rfl⟩ := hG
  have HM := Lib.hid hM
  clear hM
  by_cases hlt : k < (S.list 8).length
  · obtain ⟨hlb, hlc⟩ := (HH.out.rep.list 8 (by decide)).at k hlt
    have HS := Lib.hid (zfy S 0 x.ctl x.src k hlt)
    obtain ⟨o1, o2, _, _⟩ := HH.out.right.zon.ok 8 (by decide) (gt (S.list 8) k) (by rw [zcw _ _ hlt]; exact List.getElem_mem hlt)
    generalize gt (S.list 8) k = id at *
    obtain ⟨d, rfl⟩ := Int.eq_ofNat_of_zero_le o1
    have hd : d < S.objs.length := by omega
    obtain ⟨hob, how, hosz, hosub, hoc⟩ := HH.out.rep.objs.at (by omega) d hd
    have hoc2 := hoc 2 (by omega)
    have hgr : zum S 0 x.ctl x.src (d : Int) = true := by unfold zum; rfl
    rw [hgr] at HS
    clear hgr
    clear hoc how hosz hosub
    have HIs := Lib.hid (fun W (g : Grow w W) => zm9 S V W (HH.out.grow g) d)
    generalize gt (rowAt S.objs d) 2 = ctl at *
    generalize hmi : (ctl == x.ctl) = mi at *
    generalize hne : ((d : Int) != x.src) = ne at *
    generalize hcr : zam S (d : Int) = cr at *
    clear hcr
    cases mi <;> cases ne <;> cases cr
    · have HS2 : Hid (zav S 0 x.ctl x.src (k + 1) = zav S 0 x.ctl x.src k) := by rw [Hid, HS.out]; simp
      clear HS
      go_wp2_with fail
      refine zab (by kernel_rfl) (by kernel_rfl) ?_; (repeat (go_big_quiet_step ( fail ))); refine wpQuiet_nil ?_; rintro _ ⟨nx, rfl⟩
      go_wp2_with (first | (go_at_call 33; refine (HIs.out _ grI).mono ?_; rintro e' w' ⟨rfl, nx, rfl⟩))
      go_roundw
      case rel => exact ⟨k + 1, s, by omega, by go_num, rfl, by rw [HS2.out]; exact HM.out.grow grI, by omega, grI⟩
      case measure => simp [intOf]; omega
    · have HS2 : Hid (zav S 0 x.ctl x.src (k + 1) = zav S 0 x.ctl x.src k ++ [(d : Int)]) := by rw [Hid, HS.out]; simp
      clear HS
      go_wp2_with fail
      refine zab (by kernel_rfl) (by kernel_rfl) ?_; (repeat (go_big_quiet_step ( fail ))); refine wpQuiet_nil ?_; rintro _ ⟨nx, rfl⟩
      go_wp2_with (first | (go_at_call 33; refine (HIs.out _ grI).mono ?_; rintro e' w' ⟨rfl, nx, rfl⟩) | (at_builtin; refine zbc rfl _ _ 23 rfl 3 Tryz.t3 (.int .i64 0) 1 8 Tryz.underlying23 (by kernel_rfl) (by kernel_rfl) (by kernel_rfl) (by kernel_rfl) (by omega) rfl ((w.alloc (.cells (stA V S.num) 29)).alloc (.cells (ctR x) 39)) s (.mk _ 0 1 1) ((zav S 0 x.ctl x.src k).map I) [I (d : Int)] rfl rfl (HM.out.grow grI) grI (zdd _ _ _ (by first | (go_simp; done) | (go_simp; rfl))) (zau _) (zau [(d : Int)]) (by simp only [Sl.n] at hsn ⊢; omega) ?_; intro s2 y c1 _ c3 _; have C := Lib.hid (And.intro c1 c3); clear c1 c3))
      go_roundw
      case rel => exact ⟨k + 1, s2, by omega, by go_num, rfl, by rw [HS2.out, List.map_append]; exact C.out.1.grow grI, by rw [C.out.2]; simp only [Sl.n] at hsn ⊢; omega, grI⟩
      case measure => simp [intOf]; omega
    · have HS2 : Hid (zav S 0 x.ctl x.src (k + 1) = zav S 0 x.ctl x.src k) := by rw [Hid, HS.out]; simp
      clear HS
      go_wp2_with fail
      refine zab (by kernel_rfl) (by kernel_rfl) ?_; (repeat (go_big_quiet_step ( fail ))); refine wpQuiet_nil ?_; rintro _ ⟨nx, rfl⟩
      go_wp2_with (first | (go_at_call 33; refine (HIs.out _ grI).mono ?_; rintro e' w' ⟨rfl, nx, rfl⟩))
      go_roundw
      case rel => exact ⟨k + 1, s, by omega, by go_num, rfl, by rw [HS2.out]; exact HM.out.grow grI, by omega, grI⟩
      case measure => simp [intOf]; omega
    · have HS2 : Hid (zav S 0 x.ctl x.src (k + 1) = zav S 0 x.ctl x.src k ++ [(d : Int)]) := by rw [Hid, HS.out]; simp
      clear HS
      go_wp2_with fail
      refine zab (by kernel_rfl) (by kernel_rfl) ?_; (repeat (go_big_quiet_step ( fail ))); refine wpQuiet_nil ?_; rintro _ ⟨nx, rfl⟩
      go_wp2_with (first | (go_at_call 33; refine (HIs.out _ grI).mono ?_; rintro e' w' ⟨rfl, nx, rfl⟩) | (at_builtin; refine zbc rfl _ _ 23 rfl 3 Tryz.t3 (.int .i64 0) 1 8 Tryz.underlying23 (by kernel_rfl) (by kernel_rfl) (by kernel_rfl) (by kernel_rfl) (by omega) rfl ((w.alloc (.cells (stA V S.num) 29)).alloc (.cells (ctR x) 39)) s (.mk _ 0 1 1) ((zav S 0 x.ctl x.src k).map I) [I (d : Int)] rfl rfl (HM.out.grow grI) grI (zdd _ _ _ (by first | (go_simp; done) | (go_simp; rfl))) (zau _) (zau [(d : Int)]) (by simp only [Sl.n] at hsn ⊢; omega) ?_; intro s2 y c1 _ c3 _; have C := Lib.hid (And.intro c1 c3); clear c1 c3))
      go_roundw
      case rel => exact ⟨k + 1, s2, by omega, by go_num, rfl, by rw [HS2.out, List.map_append]; exact C.out.1.grow grI, by rw [C.out.2]; simp only [Sl.n] at hsn ⊢; omega, grI⟩
      case measure => simp [intOf]; omega
    · have HS2 : Hid (zav S 0 x.ctl x.src (k + 1) = zav S 0 x.ctl x.src k) := by rw [Hid, HS.out]; simp
      clear HS
      go_wp2_with fail
      refine zab (by kernel_rfl) (by kernel_rfl) ?_; (repeat (go_big_quiet_step ( fail ))); refine wpQuiet_nil ?_; rintro _ ⟨nx, rfl⟩
      go_wp2_with (first | (go_at_call 33; refine (HIs.out _ grI).mono ?_; rintro e' w' ⟨rfl, nx, rfl⟩))
      go_roundw
      case rel => exact ⟨k + 1, s, by omega, by go_num, rfl, by rw [HS2.out]; exact HM.out.grow grI, by omega, grI⟩
      case measure => simp [intOf]; omega
    · have HS2 : Hid (zav S 0 x.ctl x.src (k + 1) = zav S 0 x.ctl x.src k ++ [(d : Int)]) := by rw [Hid, HS.out]; simp
      clear HS
      go_wp2_with fail
      refine zab (by kernel_rfl) (by kernel_rfl) ?_; (repeat (go_big_quiet_step ( fail ))); refine wpQuiet_nil ?_; rintro _ ⟨nx, rfl⟩
      go_wp2_with (first | (go_at_call 33; refine (HIs.out _ grI).mono ?_; rintro e' w' ⟨rfl, nx, rfl⟩) | (at_builtin; refine zbc rfl _ _ 23 rfl 3 Tryz.t3 (.int .i64 0) 1 8 Tryz.underlying23 (by kernel_rfl) (by kernel_rfl) (by kernel_rfl) (by kernel_rfl) (by omega) rfl ((w.alloc (.cells (stA V S.num) 29)).alloc (.cells (ctR x) 39)) s (.mk _ 0 1 1) ((zav S 0 x.ctl x.src k).map I) [I (d : Int)] rfl rfl (HM.out.grow grI) grI (zdd _ _ _ (by first | (go_simp; done) | (go_simp; rfl))) (zau _) (zau [(d : Int)]) (by simp only [Sl.n] at hsn ⊢; omega) ?_; intro s2 y c1 _ c3 _; have C := Lib.hid (And.intro c1 c3); clear c1 c3))
      go_roundw
      case rel => exact ⟨k + 1, s2, by omega, by go_num, rfl, by rw [HS2.out, List.map_append]; exact C.out.1.grow grI, by rw [C.out.2]; simp only [Sl.n] at hsn ⊢; omega, grI⟩
      case measure => simp [intOf]; omega
    · have HS2 : Hid (zav S 0 x.ctl x.src (k + 1) = zav S 0 x.ctl x.src k) := by rw [Hid, HS.out]; simp
      clear HS
      go_wp2_with fail
      refine zab (by kernel_rfl) (by kernel_rfl) ?_; (repeat (go_big_quiet_step ( fail ))); refine wpQuiet_nil ?_; rintro _ ⟨nx, rfl⟩
      go_wp2_with (first | (go_at_call 33; refine (HIs.out _ grI).mono ?_; rintro e' w' ⟨rfl, nx, rfl⟩))
      go_roundw
      case rel => exact ⟨k + 1, s, by omega, by go_num, rfl, by rw [HS2.out]; exact HM.out.grow grI, by omega, grI⟩
      case measure => simp [intOf]; omega
    · have HS2 : Hid (zav S 0 x.ctl x.src (k + 1) = zav S 0 x.ctl x.src k ++ [(d : Int)]) := by rw [Hid, HS.out]; simp
      clear HS
      go_wp2_with fail
      refine zab (by kernel_rfl) (by kernel_rfl) ?_; (repeat (go_big_quiet_step ( fail ))); refine wpQuiet_nil ?_; rintro _ ⟨nx, rfl⟩
      go_wp2_with (first | (go_at_call 33; refine (HIs.out _ grI).mono ?_; rintro e' w' ⟨rfl, nx, rfl⟩) | (at_builtin; refine zbc rfl _ _ 23 rfl 3 Tryz.t3 (.int .i64 0) 1 8 Tryz.underlying23 (by kernel_rfl) (by kernel_rfl) (by kernel_rfl) (by kernel_rfl) (by omega) rfl ((w.alloc (.cells (stA V S.num) 29)).alloc (.cells (ctR x) 39)) s (.mk _ 0 1 1) ((zav S 0 x.ctl x.src k).map I) [I (d : Int)] rfl rfl (HM.out.grow grI) grI (zdd _ _ _ (by first | (go_simp; done) | (go_simp; rfl))) (zau _) (zau [(d : Int)]) (by simp only [Sl.n] at hsn ⊢; omega) ?_; intro s2 y c1 _ c3 _; have C := Lib.hid (And.intro c1 c3); clear c1 c3))
      go_roundw
      case rel => exact ⟨k + 1, s2, by omega, by go_num, rfl, by rw [HS2.out, List.map_append]; exact C.out.1.grow grI, by rw [C.out.2]; simp only [Sl.n] at hsn ⊢; omega, grI⟩
      case measure => simp [intOf]; omega
  · go_wp2_with fail
    go_ret
    have hkl : k = (S.list 8).length := by omega
    have hM := HM.out
    rw [hkl] at hM
    exact ⟨s, rfl, (hM.cells.grow grI).ints, fun q hq => by have := (hM.own q hq).1; rw [zaa, zaa] at this; omega, grI⟩
set_option maxRecDepth 100000 in
set_option maxHeartbeats 8000000 in
theorem z4p (S : St) (V : SV) (w : World) (h : RS S V w) (x : Ctx) :
 Calls Tryz.prog 12 #[.agg (stA V S.num), .int .i64 1, .agg (ctR x)] w fun e w' => ∃ s : Sl, e = .returned s.val ∧ Ints w' s (groupN S 1 x.ctl x.src) ∧ (∀ q, s.owns q → w.heap.size ≤ q) ∧ Grow w w' := by
 have hL := (h.rep.list 8 (by decide)).len
 have hSL := h.right.smallN.list 8 (by decide)
 have hbe : groupN S 1 x.ctl x.src = zav S 1 x.ctl x.src (S.list 8).length := by unfold groupN zav; rw [if_neg (by rw [(zbi S).2 h.right]; simp), List.take_length]
 rw [hbe]
 have HH := Lib.hid h
 have hON := h.rep.objs.len
 clear h hbe
 go_enter Tryz.func12, Tryz.ntmps12
 go_wp2_with (go_at_call 32; refine ((HH.out.grow grI).check).mono ?_; rintro e w' ⟨rfl, n0, rfl⟩)
 go_loopw [7, 27] (fun v i wr => ∃ (k : Nat) (s : Sl), k ≤ (S.list 8).length ∧ i = .int .i64 k ∧ v = s.val ∧ Made ((w.alloc (.cells (stA V S.num) 29)).alloc (.cells (ctR x) 39)).heap.size wr s 1 ((zav S 1 x.ctl x.src k).map I) ∧ s.n ≤ k ∧ Grow ((w.alloc (.cells (stA V S.num) 29)).alloc (.cells (ctR x) 39)) wr) (fun _ i _ => (S.list 8).length - (intOf i).toNat)
 case atStart => exact ⟨0, .nil, by omega, rfl, rfl, Made.nil _ _ _, by simp [Sl.n], grI⟩
 case round =>
  obtain ⟨k, s, hk, rfl, rfl, hM, hsn, hG⟩ := hrel
  obtain ⟨x9, rfl⟩ := hG
  have HM := Lib.hid hM
  clear hM
  by_cases hlt : k < (S.list 8).length
  · obtain ⟨hlb, hlc⟩ := (HH.out.rep.list 8 (by decide)).at k hlt
    have HS := Lib.hid (zfy S 1 x.ctl x.src k hlt)
    obtain ⟨o1, o2, _, _⟩ := HH.out.right.zon.ok 8 (by decide) (gt (S.list 8) k) (by rw [zcw _ _ hlt]; exact List.getElem_mem hlt)
    generalize gt (S.list 8) k = id at *
    obtain ⟨d, rfl⟩ := Int.eq_ofNat_of_zero_le o1
    have hd : d < S.objs.length := by omega
    obtain ⟨hob, how, hosz, hosub, hoc⟩ := HH.out.rep.objs.at (by omega) d hd
    have hoc2 := hoc 2 (by omega)
    have hgr : zum S 1 x.ctl x.src (d : Int) = (gt (rowAt S.objs d) 2 == x.ctl) := by unfold zum; rfl
    rw [hgr] at HS
    clear hgr
    clear hoc how hosz hosub
    have HIs := Lib.hid (fun W (g : Grow w W) => zm9 S V W (HH.out.grow g) d)
    generalize gt (rowAt S.objs d) 2 = ctl at *
    generalize hmi : (ctl == x.ctl) = mi at *
    generalize hne : ((d : Int) != x.src) = ne at *
    generalize hcr : zam S (d : Int) = cr at *
    clear hcr
    cases mi <;> cases ne <;> cases cr
    · have HS2 : Hid (zav S 1 x.ctl x.src (k + 1) = zav S 1 x.ctl x.src k) := by rw [Hid, HS.out]; simp
      clear HS
      go_wp2_with fail
      refine zab (by kernel_rfl) (by kernel_rfl) ?_; (repeat (go_big_quiet_step ( fail ))); refine wpQuiet_nil ?_; rintro _ ⟨nx, rfl⟩
      go_wp2_with fail
      go_roundw
      case rel => exact ⟨k + 1, s, by omega, by go_num, rfl, by rw [HS2.out]; exact HM.out.grow grI, by omega, grI⟩
      case measure => simp [intOf]; omega
    · have HS2 : Hid (zav S 1 x.ctl x.src (k + 1) = zav S 1 x.ctl x.src k) := by rw [Hid, HS.out]; simp
      clear HS
      go_wp2_with fail
      refine zab (by kernel_rfl) (by kernel_rfl) ?_; (repeat (go_big_quiet_step ( fail ))); refine wpQuiet_nil ?_; rintro _ ⟨nx, rfl⟩
      go_wp2_with fail
      go_roundw
      case rel => exact ⟨k + 1, s, by omega, by go_num, rfl, by rw [HS2.out]; exact HM.out.grow grI, by omega, grI⟩
      case measure => simp [intOf]; omega
    · have HS2 : Hid (zav S 1 x.ctl x.src (k + 1) = zav S 1 x.ctl x.src k) := by rw [Hid, HS.out]; simp
      clear HS
      go_wp2_with fail
      refine zab (by kernel_rfl) (by kernel_rfl) ?_; (repeat (go_big_quiet_step ( fail ))); refine wpQuiet_nil ?_; rintro _ ⟨nx, rfl⟩
      go_wp2_with fail
      go_roundw
      case rel => exact ⟨k + 1, s, by omega, by go_num, rfl, by rw [HS2.out]; exact HM.out.grow grI, by omega, grI⟩
      case measure => simp [intOf]; omega
    · have HS2 : Hid (zav S 1 x.ctl x.src (k + 1) = zav S 1 x.ctl x.src k) := by rw [Hid, HS.out]; simp
      clear HS
      go_wp2_with fail
      refine zab (by kernel_rfl) (by kernel_rfl) ?_; (repeat (go_big_quiet_step ( fail ))); refine wpQuiet_nil ?_; rintro _ ⟨nx, rfl⟩
      go_wp2_with fail
      go_roundw
      case rel => exact ⟨k + 1, s, by omega, by go_num, rfl, by rw [HS2.out]; exact HM.out.grow grI, by omega, grI⟩
      case measure => simp [intOf]; omega
    · have HS2 : Hid (zav S 1 x.ctl x.src (k + 1) = zav S 1 x.ctl x.src k) := by rw [Hid, HS.out]; simp
      clear HS
      go_wp2_with fail
      refine zab (by kernel_rfl) (by kernel_rfl) ?_; (repeat (go_big_quiet_step ( fail ))); refine wpQuiet_nil ?_; rintro _ ⟨nx, rfl⟩
      go_wp2_with (first | (go_at_call 33; refine (HIs.out _ grI).mono ?_; rintro e' w' ⟨rfl, nx, rfl⟩))
      go_roundw
      case rel => exact ⟨k + 1, s, by omega, by go_num, rfl, by rw [HS2.out]; exact HM.out.grow grI, by omega, grI⟩
      case measure => simp [intOf]; omega
    · have HS2 : Hid (zav S 1 x.ctl x.src (k + 1) = zav S 1 x.ctl x.src k ++ [(d : Int)]) := by rw [Hid, HS.out]; simp
      clear HS
      go_wp2_with fail
      refine zab (by kernel_rfl) (by kernel_rfl) ?_; (repeat (go_big_quiet_step ( fail ))); refine wpQuiet_nil ?_; rintro _ ⟨nx, rfl⟩
      go_wp2_with (first | (go_at_call 33; refine (HIs.out _ grI).mono ?_; rintro e' w' ⟨rfl, nx, rfl⟩) | (at_builtin; refine zbc rfl _ _ 23 rfl 3 Tryz.t3 (.int .i64 0) 1 8 Tryz.underlying23 (by kernel_rfl) (by kernel_rfl) (by kernel_rfl) (by kernel_rfl) (by omega) rfl ((w.alloc (.cells (stA V S.num) 29)).alloc (.cells (ctR x) 39)) s (.mk _ 0 1 1) ((zav S 1 x.ctl x.src k).map I) [I (d : Int)] rfl rfl (HM.out.grow grI) grI (zdd _ _ _ (by first | (go_simp; done) | (go_simp; rfl))) (zau _) (zau [(d : Int)]) (by simp only [Sl.n] at hsn ⊢; omega) ?_; intro s2 y c1 _ c3 _; have C := Lib.hid (And.intro c1 c3); clear c1 c3))
      go_roundw
      case rel => exact ⟨k + 1, s2, by omega, by go_num, rfl, by rw [HS2.out, List.map_append]; exact C.out.1.grow grI, by rw [C.out.2]; simp only [Sl.n] at hsn ⊢; omega, grI⟩
      case measure => simp [intOf]; omega
    · have HS2 : Hid (zav S 1 x.ctl x.src (k + 1) = zav S 1 x.ctl x.src k) := by rw [Hid, HS.out]; simp
      clear HS
      go_wp2_with fail
      refine zab (by kernel_rfl) (by kernel_rfl) ?_; (repeat (go_big_quiet_step ( fail ))); refine wpQuiet_nil ?_; rintro _ ⟨nx, rfl⟩
      go_wp2_with (first | (go_at_call 33; refine (HIs.out _ grI).mono ?_; rintro e' w' ⟨rfl, nx, rfl⟩))
      go_roundw
      case rel => exact ⟨k + 1, s, by omega, by go_num, rfl, by rw [HS2.out]; exact HM.out.grow grI, by omega, grI⟩
      case measure => simp [intOf]; omega
    · have HS2 : Hid (zav S 1 x.ctl x.src (k + 1) = zav S 1 x.ctl x.src k ++ [(d : Int)]) := by rw [Hid, HS.out]; simp
      clear HS
      go_wp2_with fail
      refine zab (by kernel_rfl) (by kernel_rfl) ?_; (repeat (go_big_quiet_step ( fail ))); refine wpQuiet_nil ?_; rintro _ ⟨nx, rfl⟩
      go_wp2_with (first | (go_at_call 33; refine (HIs.out _ grI).mono ?_; rintro e' w' ⟨rfl, nx, rfl⟩) | (at_builtin; refine zbc rfl _ _ 23 rfl 3 Tryz.t3 (.int .i64 0) 1 8 Tryz.underlying23 (by kernel_rfl) (by kernel_rfl) (by kernel_rfl) (by kernel_rfl) (by omega) rfl ((w.alloc (.cells (stA V S.num) 29)).alloc (.cells (ctR x) 39)) s (.mk _ 0 1 1) ((zav S 1 x.ctl x.src k).map I) [I (d : Int)] rfl rfl (HM.out.grow grI) grI (zdd _ _ _ (by first | (go_simp; done) | (go_simp; rfl))) (zau _) (zau [(d : Int)]) (by simp only [Sl.n] at hsn ⊢; omega) ?_; intro s2 y c1 _ c3 _; have C := Lib.hid (And.intro c1 c3); clear c1 c3))
      go_roundw
      case rel => exact ⟨k + 1, s2, by omega, by go_num, rfl, by rw [HS2.out, List.map_append]; exact C.out.1.grow grI, by rw [C.out.2]; simp only [Sl.n] at hsn ⊢; omega, grI⟩
      case measure => simp [intOf]; omega
  · go_wp2_with fail
    go_ret
    have hkl : k = (S.list 8).length := by omega
    have hM := HM.out
    rw [hkl] at hM
    exact ⟨s, rfl, (hM.cells.grow grI).ints, fun q hq => by have := (hM.own q hq).1; rw [zaa, zaa] at this; omega, grI⟩
set_option maxRecDepth 100000 in
set_option maxHeartbeats 8000000 in
theorem z4q (S : St) (V : SV) (w : World) (h : RS S V w) (x : Ctx) :
 Calls Tryz.prog 12 #[.agg (stA V S.num), .int .i64 2, .agg (ctR x)] w fun e w' => ∃ s : Sl, e = .returned s.val ∧ Ints w' s (groupN S 2 x.ctl x.src) ∧ (∀ q, s.owns q → w.heap.size ≤ q) ∧ Grow w w' := by
 have hL := (h.rep.list 8 (by decide)).len
 have hSL := h.right.smallN.list 8 (by decide)
 have hbe : groupN S 2 x.ctl x.src = zav S 2 x.ctl x.src (S.list 8).length := by unfold groupN zav; rw [if_neg (by rw [(zbi S).2 h.right]; simp), List.take_length]
 rw [hbe]
 have HH := Lib.hid h
 have hON := h.rep.objs.len
 clear h hbe
 go_enter Tryz.func12, Tryz.ntmps12
 go_wp2_with (go_at_call 32; refine ((HH.out.grow grI).check).mono ?_; rintro e w' ⟨rfl, n0, rfl⟩)
 go_loopw [7, 27] (fun v i wr => ∃ (k : Nat) (s : Sl), k ≤ (S.list 8).length ∧ i = .int .i64 k ∧ v = s.val ∧ Made ((w.alloc (.cells (stA V S.num) 29)).alloc (.cells (ctR x) 39)).heap.size wr s 1 ((zav S 2 x.ctl x.src k).map I) ∧ s.n ≤ k ∧ Grow ((w.alloc (.cells (stA V S.num) 29)).alloc (.cells (ctR x) 39)) wr) (fun _ i _ => (S.list 8).length - (intOf i).toNat)
 case atStart => exact ⟨0, .nil, by omega, rfl, rfl, Made.nil _ _ _, by simp [Sl.n], grI⟩
 case round =>
  obtain ⟨k, s, hk, rfl, rfl, hM, hsn, hG⟩ := hrel
  obtain ⟨x9, rfl⟩ := hG
  have HM := Lib.hid hM
  clear hM
  by_cases hlt : k < (S.list 8).length
  · obtain ⟨hlb, hlc⟩ := (HH.out.rep.list 8 (by decide)).at k hlt
    have HS := Lib.hid (zfy S 2 x.ctl x.src k hlt)
    obtain ⟨o1, o2, _, _⟩ := HH.out.right.zon.ok 8 (by decide) (gt (S.list 8) k) (by rw [zcw _ _ hlt]; exact List.getElem_mem hlt)
    generalize gt (S.list 8) k = id at *
    obtain ⟨d, rfl⟩ := Int.eq_ofNat_of_zero_le o1
    have hd : d < S.objs.length := by omega
    obtain ⟨hob, how, hosz, hosub, hoc⟩ := HH.out.rep.objs.at (by omega) d hd
    have hoc2 := hoc 2 (by omega)
    have hgr : zum S 2 x.ctl x.src (d : Int) = (!(gt (rowAt S.objs d) 2 == x.ctl)) := by unfold zum; rfl
    rw [hgr] at HS
    clear hgr
    clear hoc how hosz hosub
    have HIs := Lib.hid (fun W (g : Grow w W) => zm9 S V W (HH.out.grow g) d)
    generalize gt (rowAt S.objs d) 2 = ctl at *
    generalize hmi : (ctl == x.ctl) = mi at *
    generalize hne : ((d : Int) != x.src) = ne at *
    generalize hcr : zam S (d : Int) = cr at *
    clear hcr
    cases mi <;> cases ne <;> cases cr
    · have HS2 : Hid (zav S 2 x.ctl x.src (k + 1) = zav S 2 x.ctl x.src k) := by rw [Hid, HS.out]; simp
      clear HS
      go_wp2_with fail
      refine zab (by kernel_rfl) (by kernel_rfl) ?_; (repeat (go_big_quiet_step ( fail ))); refine wpQuiet_nil ?_; rintro _ ⟨nx, rfl⟩
      go_wp2_with (first | (go_at_call 33; refine (HIs.out _ grI).mono ?_; rintro e' w' ⟨rfl, nx, rfl⟩))
      go_roundw
      case rel => exact ⟨k + 1, s, by omega, by go_num, rfl, by rw [HS2.out]; exact HM.out.grow grI, by omega, grI⟩
      case measure => simp [intOf]; omega
    · have HS2 : Hid (zav S 2 x.ctl x.src (k + 1) = zav S 2 x.ctl x.src k ++ [(d : Int)]) := by rw [Hid, HS.out]; simp
      clear HS
      go_wp2_with fail
      refine zab (by kernel_rfl) (by kernel_rfl) ?_; (repeat (go_big_quiet_step ( fail ))); refine wpQuiet_nil ?_; rintro _ ⟨nx, rfl⟩
      go_wp2_with (first | (go_at_call 33; refine (HIs.out _ grI).mono ?_; rintro e' w' ⟨rfl, nx, rfl⟩) | (at_builtin; refine zbc rfl _ _ 23 rfl 3 Tryz.t3 (.int .i64 0) 1 8 Tryz.underlying23 (by kernel_rfl) (by kernel_rfl) (by kernel_rfl) (by kernel_rfl) (by omega) rfl ((w.alloc (.cells (stA V S.num) 29)).alloc (.cells (ctR x) 39)) s (.mk _ 0 1 1) ((zav S 2 x.ctl x.src k).map I) [I (d : Int)] rfl rfl (HM.out.grow grI) grI (zdd _ _ _ (by first | (go_simp; done) | (go_simp; rfl))) (zau _) (zau [(d : Int)]) (by simp only [Sl.n] at hsn ⊢; omega) ?_; intro s2 y c1 _ c3 _; have C := Lib.hid (And.intro c1 c3); clear c1 c3))
      go_roundw
      case rel => exact ⟨k + 1, s2, by omega, by go_num, rfl, by rw [HS2.out, List.map_append]; exact C.out.1.grow grI, by rw [C.out.2]; simp only [Sl.n] at hsn ⊢; omega, grI⟩
      case measure => simp [intOf]; omega
    · have HS2 : Hid (zav S 2 x.ctl x.src (k + 1) = zav S 2 x.ctl x.src k) := by rw [Hid, HS.out]; simp
      clear HS
      go_wp2_with fail
      refine zab (by kernel_rfl) (by kernel_rfl) ?_; (repeat (go_big_quiet_step ( fail ))); refine wpQuiet_nil ?_; rintro _ ⟨nx, rfl⟩
      go_wp2_with (first | (go_at_call 33; refine (HIs.out _ grI).mono ?_; rintro e' w' ⟨rfl, nx, rfl⟩))
      go_roundw
      case rel => exact ⟨k + 1, s, by omega, by go_num, rfl, by rw [HS2.out]; exact HM.out.grow grI, by omega, grI⟩
      case measure => simp [intOf]; omega
    · have HS2 : Hid (zav S 2 x.ctl x.src (k + 1) = zav S 2 x.ctl x.src k ++ [(d : Int)]) := by rw [Hid, HS.out]; simp
      clear HS
      go_wp2_with fail
      refine zab (by kernel_rfl) (by kernel_rfl) ?_; (repeat (go_big_quiet_step ( fail ))); refine wpQuiet_nil ?_; rintro _ ⟨nx, rfl⟩
      go_wp2_with (first | (go_at_call 33; refine (HIs.out _ grI).mono ?_; rintro e' w' ⟨rfl, nx, rfl⟩) | (at_builtin; refine zbc rfl _ _ 23 rfl 3 Tryz.t3 (.int .i64 0) 1 8 Tryz.underlying23 (by kernel_rfl) (by kernel_rfl) (by kernel_rfl) (by kernel_rfl) (by omega) rfl ((w.alloc (.cells (stA V S.num) 29)).alloc (.cells (ctR x) 39)) s (.mk _ 0 1 1) ((zav S 2 x.ctl x.src k).map I) [I (d : Int)] rfl rfl (HM.out.grow grI) grI (zdd _ _ _ (by first | (go_simp; done) | (go_simp; rfl))) (zau _) (zau [(d : Int)]) (by simp only [Sl.n] at hsn ⊢; omega) ?_; intro s2 y c1 _ c3 _; have C := Lib.hid (And.intro c1 c3); clear c1 c3))
      go_roundw
      case rel => exact ⟨k + 1, s2, by omega, by go_num, rfl, by rw [HS2.out, List.map_append]; exact C.out.1.grow grI, by rw [C.out.2]; simp only [Sl.n] at hsn ⊢; omega, grI⟩
      case measure => simp [intOf]; omega
    · have HS2 : Hid (zav S 2 x.ctl x.src (k + 1) = zav S 2 x.ctl x.src k) := by rw [Hid, HS.out]; simp
      clear HS
      go_wp2_with fail
      refine zab (by kernel_rfl) (by kernel_rfl) ?_; (repeat (go_big_quiet_step ( fail ))); refine wpQuiet_nil ?_; rintro _ ⟨nx, rfl⟩
      go_wp2_with fail
      go_roundw
      case rel => exact ⟨k + 1, s, by omega, by go_num, rfl, by rw [HS2.out]; exact HM.out.grow grI, by omega, grI⟩
      case measure => simp [intOf]; omega
    · have HS2 : Hid (zav S 2 x.ctl x.src (k + 1) = zav S 2 x.ctl x.src k) := by rw [Hid, HS.out]; simp
      clear HS
      go_wp2_with fail
      refine zab (by kernel_rfl) (by kernel_rfl) ?_; (repeat (go_big_quiet_step ( fail ))); refine wpQuiet_nil ?_; rintro _ ⟨nx, rfl⟩
      go_wp2_with fail
      go_roundw
      case rel => exact ⟨k + 1, s, by omega, by go_num, rfl, by rw [HS2.out]; exact HM.out.grow grI, by omega, grI⟩
      case measure => simp [intOf]; omega
    · have HS2 : Hid (zav S 2 x.ctl x.src (k + 1) = zav S 2 x.ctl x.src k) := by rw [Hid, HS.out]; simp
      clear HS
      go_wp2_with fail
      refine zab (by kernel_rfl) (by kernel_rfl) ?_; (repeat (go_big_quiet_step ( fail ))); refine wpQuiet_nil ?_; rintro _ ⟨nx, rfl⟩
      go_wp2_with fail
      go_roundw
      case rel => exact ⟨k + 1, s, by omega, by go_num, rfl, by rw [HS2.out]; exact HM.out.grow grI, by omega, grI⟩
      case measure => simp [intOf]; omega
    · have HS2 : Hid (zav S 2 x.ctl x.src (k + 1) = zav S 2 x.ctl x.src k) := by rw [Hid, HS.out]; simp
      clear HS
      go_wp2_with fail
      refine zab (by kernel_rfl) (by kernel_rfl) ?_; (repeat (go_big_quiet_step ( fail ))); refine wpQuiet_nil ?_; rintro _ ⟨nx, rfl⟩
      go_wp2_with fail
      go_roundw
      case rel => exact ⟨k + 1, s, by omega, by go_num, rfl, by rw [HS2.out]; exact HM.out.grow grI, by omega, grI⟩
      case measure => simp [intOf]; omega
  · go_wp2_with fail
    go_ret
    have hkl : k = (S.list 8).length := by omega
    have hM := HM.out
    rw [hkl] at hM
    exact ⟨s, rfl, (hM.cells.grow grI).ints, fun q hq => by have := (hM.own q hq).1; rw [zaa, zaa] at this; omega, grI⟩
set_option maxRecDepth 100000 in
set_option maxHeartbeats 8000000 in
theorem z4r (S : St) (V : SV) (w : World) (h : RS S V w) (x : Ctx) :
 Calls Tryz.prog 12 #[.agg (stA V S.num), .int .i64 3, .agg (ctR x)] w fun e w' => ∃ s : Sl, e = .returned s.val ∧ Ints w' s (groupN S 3 x.ctl x.src) ∧ (∀ q, s.owns q → w.heap.size ≤ q) ∧ Grow w w' := by
 have hL := (h.rep.list 8 (by decide)).len
 have hSL := h.right.smallN.list 8 (by decide)
 have hbe : groupN S 3 x.ctl x.src = zav S 3 x.ctl x.src (S.list 8).length := by unfold groupN zav; rw [if_neg (by rw [(zbi S).2 h.right]; simp), List.take_length]
 rw [hbe]
 have HH := Lib.hid h
 have hON := h.rep.objs.len
 clear h hbe
 go_enter Tryz.func12, Tryz.ntmps12
 go_wp2_with (go_at_call 32; refine ((HH.out.grow grI).check).mono ?_; rintro e w' ⟨rfl, n0, rfl⟩)
 go_loopw [7, 27] (fun v i wr => ∃ (k : Nat) (s : Sl), k ≤ (S.list 8).length ∧ i = .int .i64 k ∧ v = s.val ∧ Made ((w.alloc (.cells (stA V S.num) 29)).alloc (.cells (ctR x) 39)).heap.size wr s 1 ((zav S 3 x.ctl x.src k).map I) ∧ s.n ≤ k ∧ Grow ((w.alloc (.cells (stA V S.num) 29)).alloc (.cells (ctR x) 39)) wr) (fun _ i _ => (S.list 8).length - (intOf i).toNat)
 case atStart => exact ⟨0, .nil, by omega, rfl, rfl, Made.nil _ _ _, by simp [Sl.n], grI⟩
 case round =>
  obtain ⟨k, s, hk, rfl, rfl, hM, hsn, hG⟩ := hrel
  obtain ⟨x9, rfl⟩ := hG
  have HM := Lib.hid hM
  clear hM
  by_cases hlt : k < (S.list 8).length
  · obtain ⟨hlb, hlc⟩ := (HH.out.rep.list 8 (by decide)).at k hlt
    have HS := Lib.hid (zfy S 3 x.ctl x.src k hlt)
    obtain ⟨o1, o2, _, _⟩ := HH.out.right.zon.ok 8 (by decide) (gt (S.list 8) k) (by rw [zcw _ _ hlt]; exact List.getElem_mem hlt)
    generalize gt (S.list 8) k = id at *
    obtain ⟨d, rfl⟩ := Int.eq_ofNat_of_zero_le o1
    have hd : d < S.objs.length := by omega
    obtain ⟨hob, how, hosz, hosub, hoc⟩ := HH.out.rep.objs.at (by omega) d hd
    have hoc2 := hoc 2 (by omega)
    have hgr : zum S 3 x.ctl x.src (d : Int) = (gt (rowAt S.objs d) 2 == x.ctl && (d : Int) != x.src) := by unfold zum; rfl
    rw [hgr] at HS
    clear hgr
    clear hoc how hosz hosub
    have HIs := Lib.hid (fun W (g : Grow w W) => zm9 S V W (HH.out.grow g) d)
    generalize gt (rowAt S.objs d) 2 = ctl at *
    generalize hmi : (ctl == x.ctl) = mi at *
    generalize hne : ((d : Int) != x.src) = ne at *
    generalize hcr : zam S (d : Int) = cr at *
    clear hcr
    cases mi <;> cases ne <;> cases cr
    · have HS2 : Hid (zav S 3 x.ctl x.src (k + 1) = zav S 3 x.ctl x.src k) := by rw [Hid, HS.out]; simp
      clear HS
      go_wp2_with fail
      refine zab (by kernel_rfl) (by kernel_rfl) ?_; (repeat (go_big_quiet_step ( fail ))); refine wpQuiet_nil ?_; rintro _ ⟨nx, rfl⟩
      go_wp2_with fail
      go_roundw
      case rel => exact ⟨k + 1, s, by omega, by go_num, rfl, by rw [HS2.out]; exact HM.out.grow grI, by omega, grI⟩
      case measure => simp [intOf]; omega
    · have HS2 : Hid (zav S 3 x.ctl x.src (k + 1) = zav S 3 x.ctl x.src k) := by rw [Hid, HS.out]; simp
      clear HS
      go_wp2_with fail
      refine zab (by kernel_rfl) (by kernel_rfl) ?_; (repeat (go_big_quiet_step ( fail ))); refine wpQuiet_nil ?_; rintro _ ⟨nx, rfl⟩
      go_wp2_with fail
      go_roundw
      case rel => exact ⟨k + 1, s, by omega, by go_num, rfl, by rw [HS2.out]; exact HM.out.grow grI, by omega, grI⟩
      case measure => simp [intOf]; omega
    · have HS2 : Hid (zav S 3 x.ctl x.src (k + 1) = zav S 3 x.ctl x.src k) := by rw [Hid, HS.out]; simp
      clear HS
      go_wp2_with fail
      refine zab (by kernel_rfl) (by kernel_rfl) ?_; (repeat (go_big_quiet_step ( fail ))); refine wpQuiet_nil ?_; rintro _ ⟨nx, rfl⟩
      go_wp2_with fail
      go_roundw
      case rel => exact ⟨k + 1, s, by omega, by go_num, rfl, by rw [HS2.out]; exact HM.out.grow grI, by omega, grI⟩
      case measure => simp [intOf]; omega
    · have HS2 : Hid (zav S 3 x.ctl x.src (k + 1) = zav S 3 x.ctl x.src k) := by rw [Hid, HS.out]; simp
      clear HS
      go_wp2_with fail
      refine zab (by kernel_rfl) (by kernel_rfl) ?_; (repeat (go_big_quiet_step ( fail ))); refine wpQuiet_nil ?_; rintro _ ⟨nx, rfl⟩
      go_wp2_with fail
      go_roundw
      case rel => exact ⟨k + 1, s, by omega, by go_num, rfl, by rw [HS2.out]; exact HM.out.grow grI, by omega, grI⟩
      case measure => simp [intOf]; omega
    · have HS2 : Hid (zav S 3 x.ctl x.src (k + 1) = zav S 3 x.ctl x.src k) := by rw [Hid, HS.out]; simp
      clear HS
      go_wp2_with fail
      refine zab (by kernel_rfl) (by kernel_rfl) ?_; (repeat (go_big_quiet_step ( fail ))); refine wpQuiet_nil ?_; rintro _ ⟨nx, rfl⟩
      go_wp2_with fail
      go_roundw
      case rel => exact ⟨k + 1, s, by omega, by go_num, rfl, by rw [HS2.out]; exact HM.out.grow grI, by omega, grI⟩
      case measure => simp [intOf]; omega
    · have HS2 : Hid (zav S 3 x.ctl x.src (k + 1) = zav S 3 x.ctl x.src k) := by rw [Hid, HS.out]; simp
      clear HS
      go_wp2_with fail
      refine zab (by kernel_rfl) (by kernel_rfl) ?_; (repeat (go_big_quiet_step ( fail ))); refine wpQuiet_nil ?_; rintro _ ⟨nx, rfl⟩
      go_wp2_with fail
      go_roundw
      case rel => exact ⟨k + 1, s, by omega, by go_num, rfl, by rw [HS2.out]; exact HM.out.grow grI, by omega, grI⟩
      case measure => simp [intOf]; omega
    · have HS2 : Hid (zav S 3 x.ctl x.src (k + 1) = zav S 3 x.ctl x.src k) := by rw [Hid, HS.out]; simp
      clear HS
      go_wp2_with fail
      refine zab (by kernel_rfl) (by kernel_rfl) ?_; (repeat (go_big_quiet_step ( fail ))); refine wpQuiet_nil ?_; rintro _ ⟨nx, rfl⟩
      go_wp2_with (first | (go_at_call 33; refine (HIs.out _ grI).mono ?_; rintro e' w' ⟨rfl, nx, rfl⟩))
      go_roundw
      case rel => exact ⟨k + 1, s, by omega, by go_num, rfl, by rw [HS2.out]; exact HM.out.grow grI, by omega, grI⟩
      case measure => simp [intOf]; omega
    · have HS2 : Hid (zav S 3 x.ctl x.src (k + 1) = zav S 3 x.ctl x.src k ++ [(d : Int)]) := by rw [Hid, HS.out]; simp
      clear HS
      go_wp2_with fail
      refine zab (by kernel_rfl) (by kernel_rfl) ?_; (repeat (go_big_quiet_step ( fail ))); refine wpQuiet_nil ?_; rintro _ ⟨nx, rfl⟩
      go_wp2_with (first | (go_at_call 33; refine (HIs.out _ grI).mono ?_; rintro e' w' ⟨rfl, nx, rfl⟩) | (at_builtin; refine zbc rfl _ _ 23 rfl 3 Tryz.t3 (.int .i64 0) 1 8 Tryz.underlying23 (by kernel_rfl) (by kernel_rfl) (by kernel_rfl) (by kernel_rfl) (by omega) rfl ((w.alloc (.cells (stA V S.num) 29)).alloc (.cells (ctR x) 39)) s (.mk _ 0 1 1) ((zav S 3 x.ctl x.src k).map I) [I (d : Int)] rfl rfl (HM.out.grow grI) grI (zdd _ _ _ (by first | (go_simp; done) | (go_simp; rfl))) (zau _) (zau [(d : Int)]) (by simp only [Sl.n] at hsn ⊢; omega) ?_; intro s2 y c1 _ c3 _; have C := Lib.hid (And.intro c1 c3); clear c1 c3))
      go_roundw
      case rel => exact ⟨k + 1, s2, by omega, by go_num, rfl, by rw [HS2.out, List.map_append]; exact C.out.1.grow grI, by rw [C.out.2]; simp only [Sl.n] at hsn ⊢; omega, grI⟩
      case measure => simp [intOf]; omega
  · go_wp2_with fail
    go_ret
    have hkl : k = (S.list 8).length := by omega
    have hM := HM.out
    rw [hkl] at hM
    exact ⟨s, rfl, (hM.cells.grow grI).ints, fun q hq => by have := (hM.own q hq).1; rw [zaa, zaa] at this; omega, grI⟩
end Go.Proofs.YthfalocligkamaaGreatDoor
namespace Go.Proofs.YthfalocligkamaaGreatDoor
open Go Go.RowKit Go.Shelf
theorem zqq (S : St) (n m p : Int) (hp : ¬ (p = 0 ∨ p = 1)) : holdsB S n m p = false := by unfold holdsB; rw [if_pos (Or.inl hp)]
theorem zqp {S : St} (h : Right S) (n m p : Int) (hp : p = 0 ∨ p = 1) : holdsB S n m p = if n = 0 then decide (S.num (p.toNat * 9) ≤ m) else if n = 1 then decide (m ≤ ((beastsN S p).length : Int)) else if n = 2 then decide (m ≤ ((S.list (3 - p.toNat)).length : Int)) else false := by
 unfold holdsB
 rw [if_neg (by rintro (h1 | h1); exact h1 hp; exact h1 ((zbi S).2 h))]
set_option maxRecDepth 100000 in
set_option maxHeartbeats 8000000 in
theorem zud (S : St) (V : SV) (w : World) (h : RS S V w) (op n m who : Int) (a : Option Addr) (k c : Nat) (p : Int) :
 Calls Tryz.prog 13 #[.agg (stA V S.num), .agg (exR op n m who a k c), .int .i64 p] w fun e w' => e = .returned (.bool (holdsB S n m p)) ∧ Grow w w' := by
 have HH := Lib.hid h
 have HP := Lib.hid (fun W => zgr W p)
 have HB := Lib.hid (fun W (g : Grow w W) => zpw S V W (h.grow g) p)
 by_cases hp : p = 0 ∨ p = 1
 · have HO := Lib.hid (zqp h.right n m p hp)
   rw [decide_eq_true hp] at HP
   have HF := Lib.hid (fun W => zwf W p (by omega) (by omega))
   have hln := (h.rep.list (3 - p.toNat) (by omega)).len
   have hl4 : (S.list (3 - p.toNat)).length ≤ 400 := h.right.smallN.list (3 - p.toNat) (by omega)
   have hbl : (beastsN S p).length ≤ 400 := by
    unfold beastsN
    split
    · simp
    · exact Nat.le_trans (List.length_filter_le _ _) (h.right.smallN.list 8 (by omega))
   clear h
   by_cases n0 : n = 0
   · subst n0
     rw [if_pos rfl] at HO
     rcases hp with rfl | rfl
     all_goals
      generalize hb : holdsB S 0 m _ = B at *
      go_enter Tryz.func13, Tryz.ntmps13
      go_wp2_with (first | (go_at_call 27; refine (HP.out _).mono ?_; rintro e' w' ⟨rfl, nx, rfl⟩) | (go_at_call 32; refine ((HH.out.grow grI).check).mono ?_; rintro e w' ⟨rfl, n0, rfl⟩))
      refine zab (by kernel_rfl) (by kernel_rfl) ?_; (repeat (go_big_quiet_step ( fail ))); refine wpQuiet_nil ?_; rintro _ ⟨nx, rfl⟩
      go_wp2_with fail
      go_ret
      exact ⟨by rw [HO.out]; rfl, grI⟩
   by_cases n1 : n = 1
   · subst n1
     rw [if_neg n0, if_pos rfl] at HO
     clear hp hln hl4 n0
     go_enter Tryz.func13, Tryz.ntmps13
     go_wp2_with (first | (go_at_call 27; refine (HP.out _).mono ?_; rintro e' w' ⟨rfl, nx, rfl⟩) | (go_at_call 32; refine ((HH.out.grow grI).check).mono ?_; rintro e w' ⟨rfl, n0, rfl⟩))
     go_region_held3 (fun W => W.blk w.heap.size = stA V S.num ∧ W.cell? ⟨w.heap.size + 1, 2, none⟩ = some (I m)) (simp [go_sem, *]) (first | (go_at_call 34; refine (HB.out _ grI).mono ?_; rintro e' w' ⟨s1, rfl, hI, hs, nB, rfl⟩; have hbn := hI.len; clear hI hs))
     all_goals
      go_wp2_with fail
      go_ret
      exact ⟨by rw [HO.out]; rfl, grI⟩
   by_cases n2 : n = 2
   · subst n2
     rw [if_neg n0, if_neg n1, if_pos rfl] at HO
     clear n0 n1 HB hbl
     rcases hp with rfl | rfl
     all_goals
      go_enter Tryz.func13, Tryz.ntmps13
      go_wp2_with (first | (go_at_call 27; refine (HP.out _).mono ?_; rintro e' w' ⟨rfl, nx, rfl⟩) | (go_at_call 32; refine ((HH.out.grow grI).check).mono ?_; rintro e w' ⟨rfl, n0, rfl⟩))
      refine zab (by kernel_rfl) (by kernel_rfl) ?_; (repeat (go_big_quiet_step ( (go_at_call 35; first | refine Calls.grow2 (HF.out _) | refine Calls.grow (HF.out _)) ))); refine wpQuiet_nil ?_; rintro _ ⟨nx, rfl⟩
      go_wp2_with fail
      go_ret
      exact ⟨by rw [HO.out, ← hln]; rfl, grI⟩
   · rw [if_neg n0, if_neg n1, if_neg n2] at HO
     have b0 : (n == 0) = false := by simpa using n0
     have b1 : (n == 1) = false := by simpa using n1
     have b2 : (n == 2) = false := by simpa using n2
     clear n0 n1 n2 HB hbl hp hln hl4
     go_enter Tryz.func13, Tryz.ntmps13
     go_wp2_with (first | (go_at_call 27; refine (HP.out _).mono ?_; rintro e' w' ⟨rfl, nx, rfl⟩) | (go_at_call 32; refine ((HH.out.grow grI).check).mono ?_; rintro e w' ⟨rfl, n0, rfl⟩))
     go_ret
     exact ⟨by rw [HO.out]; rfl, grI⟩
 · rw [decide_eq_false hp] at HP
   rw [zqq S n m p hp]
   clear h HB hp
   go_enter Tryz.func13, Tryz.ntmps13
   go_wp2_with (first | (go_at_call 27; refine (HP.out _).mono ?_; rintro e' w' ⟨rfl, nx, rfl⟩))
   go_ret
   exact ⟨rfl, grI⟩
end Go.Proofs.YthfalocligkamaaGreatDoor
