/- The walks of effect's small functions: which numbers are in a set. -/
import Derived.Test.YthfalocligkamaaGreatDoorMEx4
import Derived.Test.YthfalocligkamaaGreatDoorMEx1
namespace Go.Proofs.YthfalocligkamaaGreatDoor
open Go Go.RowKit Go.Shelf
theorem zvi (w : World) (i : Int) (h0 : 0 ≤ i) (h1 : i < 64) : Calls Tryz.prog 99 #[.int .i64 i] w fun e w' => e = .returned (.bool true) ∧ Grow w w' := by
 go_enter Tryz.func99, Tryz.ntmps99
 go_wp2_with fail
 go_ret
 exact ⟨rfl, grI⟩
def z9b (x : Int) (i : Int) : Int := bits .or .u64 x (2 ^ i.toNat)
theorem z4l (w : World) (x i : Int) (h : i = 0 ∨ i = 1 ∨ i = 2 ∨ i = 3 ∨ i = 4 ∨ i = 5) : Calls Tryz.prog 131 #[.int .u64 x, .int .i64 i] w fun e w' => e = .returned (.int .u64 (z9b x i)) ∧ Grow w w' := by
 have HI := Lib.hid (fun W => zvi W i (by omega) (by omega))
 rcases h with rfl | rfl | rfl | rfl | rfl | rfl
 all_goals
  go_enter Tryz.func131, Tryz.ntmps131
  go_wp2_with (go_at_call 99; refine (HI.out _).mono ?_; rintro e' w' ⟨rfl, nx, rfl⟩)
  go_ret
  exact ⟨rfl, grI⟩
def yg3 (x i : Int) : Bool := x / 2 ^ i.toNat % 2 == 1
set_option maxHeartbeats 8000000 in
theorem zqf (w : World) (x i : Int) (h : i = 0 ∨ i = 1 ∨ i = 2 ∨ i = 3 ∨ i = 4 ∨ i = 5) (hx : x = 0 ∨ x = 1 ∨ x = 4 ∨ x = 8 ∨ x = 14 ∨ x = 16 ∨ x = 19 ∨ x = 34) : Calls Tryz.prog 67 #[.int .u64 x, .int .i64 i] w fun e w' => e = .returned (.bool (yg3 x i)) ∧ Grow w w' := by
 have HI := Lib.hid (fun W => zvi W i (by omega) (by omega))
 rcases h with rfl | rfl | rfl | rfl | rfl | rfl
 all_goals
  rcases hx with rfl | rfl | rfl | rfl | rfl | rfl | rfl | rfl
  all_goals
   go_enter Tryz.func67, Tryz.ntmps67
   go_wp2_with (go_at_call 99; refine (HI.out _).mono ?_; rintro e' w' ⟨rfl, nx, rfl⟩)
   go_ret
   exact ⟨rfl, grI⟩
theorem zgk (w : World) (n most : Int) (sg : Bool) (h : 0 ≤ most ∧ most ≤ 1000) : Calls Tryz.prog 100 #[.int .i64 n, .int .i64 most, .bool sg] w fun e w' => e = .returned (.bool (inW n most sg)) ∧ Grow w w' := by
 obtain ⟨m0, m1⟩ := h
 have hv : inW n most sg = (decide ((if sg = true then -most else 0) ≤ n) && decide (n ≤ most)) := by unfold inW; rw [Bool.decide_and]
 have HV := Lib.hid hv
 clear hv
 cases sg
 · rw [if_neg (by decide)] at HV
   cases h1 : decide (0 ≤ n) <;> cases h2 : decide (n ≤ most)
   all_goals
    rw [h1, h2] at HV
    go_enter Tryz.func100, Tryz.ntmps100
    go_wp2_with fail
    go_ret
    exact ⟨by rw [HV.out]; rfl, grI⟩
 · rw [if_pos rfl] at HV
   cases h1 : decide (-most ≤ n) <;> cases h2 : decide (n ≤ most)
   all_goals
    rw [h1, h2] at HV
    go_enter Tryz.func100, Tryz.ntmps100
    go_wp2_with fail
    go_ret
    exact ⟨by rw [HV.out]; rfl, grI⟩
def esetN (l : List Int) (k : Nat) : Int := (l.take k).foldl z9b 0
theorem zsg (l : List Int) (k : Nat) (h : k < l.length) : esetN l (k + 1) = z9b (esetN l k) (gt l k) := by
 unfold esetN
 rw [List.take_succ_eq_append_getElem h, zcw _ _ h, List.foldl_append]; rfl
set_option maxRecDepth 100000 in
theorem z07 (w : World) (s : Sl) (l : List Int) (R : Ints w s l) (hl : l.length ≤ 8) (hin : ∀ k, k < l.length → gt l k = 0 ∨ gt l k = 1 ∨ gt l k = 2 ∨ gt l k = 3 ∨ gt l k = 4 ∨ gt l k = 5) :
 Calls Tryz.prog 98 #[s.val] w fun e w' => e = .returned (.int .u64 (esetN l l.length)) ∧ Grow w w' := by
 have hn := R.len
 have HR := Lib.hid R
 have HIN := Lib.hid hin
 clear R hin
 go_enter Tryz.func98, Tryz.ntmps98
 go_wp2_with fail
 go_loopw [3, 8] (fun v i wr => ∃ k : Nat, k ≤ l.length ∧ i = .int .i64 k ∧ v = .int .u64 (esetN l k) ∧ Grow w wr) (fun _ i _ => l.length - (intOf i).toNat)
 case atStart => exact ⟨0, by omega, rfl, rfl, grI⟩
 case round =>
  obtain ⟨k, hk, rfl, rfl, hG⟩ := hrel
  obtain ⟨x, rfl⟩ := hG
  by_cases hlt : k < l.length
  · obtain ⟨hat1, hat2⟩ := HR.out.at k hlt
    have HS := Lib.hid (zsg l k hlt)
    have HW := Lib.hid (fun W => z4l W (esetN l k) (gt l k) (HIN.out k hlt))
    rw [← HS.out] at HW
    generalize gt l k = id at *
    generalize esetN l k = z at *
    go_wp2_with (go_at_call 131; refine (HW.out _).mono ?_; rintro e' w' ⟨rfl, nx, rfl⟩)
    go_roundw
    case rel => exact ⟨k + 1, by omega, by go_num, rfl, grI⟩
    case measure => simp [intOf]; omega
  · have hke : k = l.length := by omega
    subst hke
    go_wp2_with fail
    go_ret
    exact ⟨rfl, grI⟩
end Go.Proofs.YthfalocligkamaaGreatDoor
namespace Go.Proofs.YthfalocligkamaaGreatDoor
open Go Go.RowKit Go.Shelf
def shR (sg : Bool) (n m wh tg lo hi : Int) : Array Value := #[.bool sg, I n, I m, .int .u64 wh, .int .u64 tg, I lo, I hi]
@[go_sem] theorem yfk (sg : Bool) (n m wh tg lo hi : Int) : (shR sg n m wh tg lo hi).size = 7 := by simp [shR]
@[go_sem] theorem yhn (sg : Bool) (n m wh tg lo hi : Int) : zai (shR sg n m wh tg lo hi) = true := by
 simp only [zai, shR, List.all_toArray, List.all_cons, List.all_nil, Bool.and_true]
 rfl
@[go_sem] theorem yhm (sg : Bool) (n m wh tg lo hi : Int) : sub (shR sg n m wh tg lo hi) 0 7 = shR sg n m wh tg lo hi := rfl
@[go_sem] theorem shR_0 (sg : Bool) (n m wh tg lo hi : Int) : (shR sg n m wh tg lo hi)[0]? = some (.bool sg) := rfl
@[go_sem] theorem yi9 (sg : Bool) (n m wh tg lo hi : Int) (h : 0 < (shR sg n m wh tg lo hi).size) : (shR sg n m wh tg lo hi)[0]'h = .bool sg := by simp [shR]
@[go_sem] theorem shR_1 (sg : Bool) (n m wh tg lo hi : Int) : (shR sg n m wh tg lo hi)[1]? = some (I n) := rfl
@[go_sem] theorem yja (sg : Bool) (n m wh tg lo hi : Int) (h : 1 < (shR sg n m wh tg lo hi).size) : (shR sg n m wh tg lo hi)[1]'h = I n := by simp [shR]
@[go_sem] theorem shR_2 (sg : Bool) (n m wh tg lo hi : Int) : (shR sg n m wh tg lo hi)[2]? = some (I m) := rfl
@[go_sem] theorem yjb (sg : Bool) (n m wh tg lo hi : Int) (h : 2 < (shR sg n m wh tg lo hi).size) : (shR sg n m wh tg lo hi)[2]'h = I m := by simp [shR]
@[go_sem] theorem shR_3 (sg : Bool) (n m wh tg lo hi : Int) : (shR sg n m wh tg lo hi)[3]? = some (.int .u64 wh) := rfl
@[go_sem] theorem yjc (sg : Bool) (n m wh tg lo hi : Int) (h : 3 < (shR sg n m wh tg lo hi).size) : (shR sg n m wh tg lo hi)[3]'h = .int .u64 wh := by simp [shR]
@[go_sem] theorem shR_4 (sg : Bool) (n m wh tg lo hi : Int) : (shR sg n m wh tg lo hi)[4]? = some (.int .u64 tg) := rfl
@[go_sem] theorem yjd (sg : Bool) (n m wh tg lo hi : Int) (h : 4 < (shR sg n m wh tg lo hi).size) : (shR sg n m wh tg lo hi)[4]'h = .int .u64 tg := by simp [shR]
@[go_sem] theorem shR_5 (sg : Bool) (n m wh tg lo hi : Int) : (shR sg n m wh tg lo hi)[5]? = some (I lo) := rfl
@[go_sem] theorem yje (sg : Bool) (n m wh tg lo hi : Int) (h : 5 < (shR sg n m wh tg lo hi).size) : (shR sg n m wh tg lo hi)[5]'h = I lo := by simp [shR]
@[go_sem] theorem shR_6 (sg : Bool) (n m wh tg lo hi : Int) : (shR sg n m wh tg lo hi)[6]? = some (I hi) := rfl
@[go_sem] theorem yjf (sg : Bool) (n m wh tg lo hi : Int) (h : 6 < (shR sg n m wh tg lo hi).size) : (shR sg n m wh tg lo hi)[6]'h = I hi := by simp [shR]
@[go_sem] theorem yjg (sg : Bool) (n m wh tg lo hi : Int) (v : Bool) : (shR sg n m wh tg lo hi).setIfInBounds 0 (.bool v) = shR v n m wh tg lo hi := rfl
@[go_sem] theorem yjh (sg : Bool) (n m wh tg lo hi : Int) (v : Int) : (shR sg n m wh tg lo hi).setIfInBounds 1 (.int .i64 v) = shR sg v m wh tg lo hi := rfl
@[go_sem] theorem yji (sg : Bool) (n m wh tg lo hi : Int) (v : Int) : (shR sg n m wh tg lo hi).setIfInBounds 2 (.int .i64 v) = shR sg n v wh tg lo hi := rfl
@[go_sem] theorem yjj (sg : Bool) (n m wh tg lo hi : Int) (v : Int) : (shR sg n m wh tg lo hi).setIfInBounds 3 (.int .u64 v) = shR sg n m v tg lo hi := rfl
@[go_sem] theorem yjk (sg : Bool) (n m wh tg lo hi : Int) (v : Int) : (shR sg n m wh tg lo hi).setIfInBounds 4 (.int .u64 v) = shR sg n m wh v lo hi := rfl
@[go_sem] theorem yjl (sg : Bool) (n m wh tg lo hi : Int) (v : Int) : (shR sg n m wh tg lo hi).setIfInBounds 5 (.int .i64 v) = shR sg n m wh tg v hi := rfl
@[go_sem] theorem yjm (sg : Bool) (n m wh tg lo hi : Int) (v : Int) : (shR sg n m wh tg lo hi).setIfInBounds 6 (.int .i64 v) = shR sg n m wh tg lo v := rfl
@[go_sem ↓] theorem z7s (ρ : Operand → Value) (dst : Option Tmp) (x : Operand) (ty : TypeId) (pos : String) (after : Array Edge) (guard : Option (Nat × Bool)) :
 execOp ρ { dst, op := .load 109 x, type := ty, pos, after, guard } = za3 109 (ρ x) := rfl
@[go_sem ↓] theorem z56 (ρ : Operand → Value) (dst : Option Tmp) (x y : Operand) (ty : TypeId) (pos : String) (after : Array Edge) (guard : Option (Nat × Bool)) :
 execOp ρ { dst, op := .store 109 x y, type := ty, pos, after, guard } = zaz 109 (ρ x) (ρ y) := rfl
@[go_sem] theorem zjy (w : World) (b o : Nat) (h : o + 7 ≤ (w.blk b).size) : (za3 109 (.pointer (some ⟨b, o, none⟩))).run Tryz.prog w = .ok (.value (.agg (sub (w.blk b) o 7))) w :=
 zaw w b o 109 7 (by kernel_rfl) (by kernel_rfl) h (by omega)
@[go_sem] theorem zu7 (w : World) (b : Nat) (cs : Array Value) (h : (w.blk b).size = 7) (hc : cs.size = 7) (h1 : zai cs = true) (hf : w.free b = true) : (zaz 109 (.pointer (some ⟨b, 0, none⟩)) (.agg cs)).run Tryz.prog w = .ok .skip (w.setRow b cs) :=
 zax w b 109 7 _ (by kernel_rfl) h hc (by omega) hf h1
@[go_sem ↓] theorem z45 (ρ : Operand → Value) (dst : Option Tmp) (parts : Array (Nat × Operand)) (ty : TypeId) (pos : String) (after : Array Edge) (guard : Option (Nat × Bool)) :
 execOp ρ { dst, op := .build 109 parts, type := ty, pos, after, guard } = za0 109 (parts.map fun (i, x) => (i, ρ x)) := rfl
theorem zkd (w : World) (b : Nat) (h : (w.blk b).size = 7) : (loadVar 109 ⟨b, 0, none⟩).run Tryz.prog w = .ok (.agg (sub (w.blk b) 0 7)) w := by
 have := zjy w b 0 (by omega)
 unfold za3 at this
 rw [Sem.run_bind] at this
 simp only [Instr.loadAt, Instr.sureAddr, Sem.run_bind, Sem.run_pure, Result.andThen_ok] at this
 cases hr : (loadVar 109 ⟨b, 0, none⟩).run Tryz.prog w with
 | ok v w' => rw [hr] at this; simp at this; rw [this.1, this.2]
 | halt x w' => rw [hr] at this; simp [Result.andThen] at this
theorem zgd {fn : Func} {p : Tmp} (h : fn.results = #[.cell p 109]) (tmps : Array Value) (w : World) (b : Nat) (hp : tmps.getD p undef = .pointer (some ⟨b, 0, none⟩)) (h1 : (w.blk b).size = 7) :
 (results fn tmps).run Tryz.prog w = .ok (.agg (sub (w.blk b) 0 7)) w := by
 unfold results
 rw [h]
 have e1 := zkd w b h1
 have hp' : tmps[p]?.getD undef = .pointer (some ⟨b, 0, none⟩) := by simpa using hp
 simp [asAddr, hp', e1]
@[go_sem] theorem zut (w : World) : (za0 109 #[(1, .int .i64 99), (2, .int .i64 99)]).run Tryz.prog w = .ok (.value (.agg (shR false 99 99 0 0 0 0))) w := by kernel_rfl
@[go_sem] theorem z49 (t : TypeId) (fr : Nat × Nat) : Obj.cells #[Value.bool false, Value.int .i64 0, Value.int .i64 0, .int .u64 0, .int .u64 0, Value.int .i64 0, Value.int .i64 0] t fr = .cells (shR false 0 0 0 0 0 0) t fr := rfl
theorem zyf (W : World) (q n : Nat) (l : List Int) (v : Int) (hn : l.length = n) (hq : q = W.heap.size) (hl : l.length ≤ 8) (hin : ∀ k, k < l.length → gt l k = 0 ∨ gt l k = 1 ∨ gt l k = 2 ∨ gt l k = 3 ∨ gt l k = 4 ∨ gt l k = 5) (hv : esetN l l.length = v) :
 Calls Tryz.prog 98 #[.slice (some ⟨q, 0, none⟩) n n] (W.alloc (.cells (cellsOf l) 3)) fun e w' => e = .returned (.int .u64 v) ∧ Grow (W.alloc (.cells (cellsOf l) 3)) w' := by
 rw [← hv]
 exact z07 _ (.mk q 0 n n) l (zha hq hn (Grow.refl _)) hl hin
theorem yhl (W : World) (q : Nat) (hq : q = W.heap.size) : Calls Tryz.prog 98 #[.slice (some ⟨q, 0, none⟩) 1 1] (W.alloc (.cells (cellsOf [0]) 3)) fun e w' => e = .returned (.int .u64 1) ∧ Grow (W.alloc (.cells (cellsOf [0]) 3)) w' :=
 zyf W q 1 [0] 1 rfl hq (by decide) (by decide) (by decide +kernel)
theorem z8j (W : World) (q : Nat) (hq : q = W.heap.size) : Calls Tryz.prog 98 #[.slice (some ⟨q, 0, none⟩) 3 3] (W.alloc (.cells (cellsOf [0, 1, 4]) 3)) fun e w' => e = .returned (.int .u64 19) ∧ Grow (W.alloc (.cells (cellsOf [0, 1, 4]) 3)) w' :=
 zyf W q 3 [0, 1, 4] 19 rfl hq (by decide) (by decide) (by decide +kernel)
theorem z8k (W : World) (q : Nat) (hq : q = W.heap.size) : Calls Tryz.prog 98 #[.slice (some ⟨q, 0, none⟩) 3 3] (W.alloc (.cells (cellsOf [1, 2, 3]) 3)) fun e w' => e = .returned (.int .u64 14) ∧ Grow (W.alloc (.cells (cellsOf [1, 2, 3]) 3)) w' :=
 zyf W q 3 [1, 2, 3] 14 rfl hq (by decide) (by decide) (by decide +kernel)
@[go_sem] theorem z8d (w : World) (a c d : Int) : (zdh 23 3 #[(0, .int .i64 a), (1, .int .i64 c), (2, .int .i64 d)]).run Tryz.prog w = .ok (.value (.slice (some ⟨w.heap.size, 0, none⟩) 3 3)) (w.alloc (.cells (cellsOf [a, c, d]) 3)) := by kernel_rfl
set_option maxRecDepth 100000 in
set_option maxHeartbeats 4000000 in
theorem of_1 (w : World) : Calls Tryz.prog 66 #[.int .i64 1] w fun e w' => e = .returned (.agg (shR false 99 99 19 14 0 0)) ∧ Grow w w' := by
 go_enter Tryz.func66, Tryz.ntmps66
 go_wp2_with fail
 refine (z8j _ _ (by simp only [zaa])).mono ?_
 rintro e' w' ⟨rfl, nx, rfl⟩
 go_wp2_with fail
 refine (z8k _ _ (by simp only [zaa, zac])).mono ?_
 rintro e' w' ⟨rfl, nx, rfl⟩
 go_wp2_with fail
 refine bodyPost_ret (zgd rfl _ _ _ rfl ?_) rfl ?_
 · go_simp
 · exact ⟨by go_simp, grI⟩
set_option maxRecDepth 100000 in
set_option maxHeartbeats 4000000 in
theorem yhh (w : World) : Calls Tryz.prog 66 #[.int .i64 20] w fun e w' => e = .returned (.agg (shR false 3 99 1 0 1 1)) ∧ Grow w w' := by
 go_enter Tryz.func66, Tryz.ntmps66
 go_wp2_with fail
 refine (yhl _ _ (by simp only [zaa])).mono ?_
 rintro e' w' ⟨rfl, nx, rfl⟩
 go_wp2_with fail
 refine bodyPost_ret (zgd rfl _ _ _ rfl ?_) rfl ?_
 · go_simp
 · exact ⟨by go_simp, grI⟩
end Go.Proofs.YthfalocligkamaaGreatDoor
namespace Go.Proofs.YthfalocligkamaaGreatDoor
open Go Go.RowKit Go.Shelf
@[go_sem] theorem z5z (w : World) (sg : Bool) (n m wh tg lo hi : Int) : (Instr.field 109 (.agg (shR sg n m wh tg lo hi)) 3).run Tryz.prog w = .ok (.int .u64 wh) w := by kernel_rfl
set_option maxRecDepth 100000 in
set_option maxHeartbeats 8000000 in
theorem zic (w : World) (op n m who : Int) (a : Option Addr) (k c : Nat) (sg : Bool) (N M wh tg lo hi : Int) (hN : 0 ≤ N ∧ N ≤ 1000) (hM : 0 ≤ M ∧ M ≤ 1000) :
 Calls Tryz.prog 68 #[.agg (exR op n m who a k c), .agg (shR sg N M wh tg lo hi)] w fun e w' => e = .returned (.bool (inW n N sg && inW m M sg && inW who 4 false && (if op = 23 ∨ op = 25 then decide (n ≤ 255) else if op = 14 then decide (112 ≤ m ∧ m ≤ 119) else true))) ∧ Grow w w' := by
 have H1 := Lib.hid (fun W => zgk W n N sg hN)
 have H2 := Lib.hid (fun W => zgk W m M sg hM)
 have H3 := Lib.hid (fun W => zgk W who 4 false (by omega))
 cases e1 : inW n N sg
 · rw [e1] at H1
   rw [Bool.false_and, Bool.false_and, Bool.false_and]
   clear H2 H3 e1 hN hM
   go_enter Tryz.func68, Tryz.ntmps68
   go_wp2_with (go_at_call 100; refine (H1.out _).mono ?_; rintro e' w' ⟨rfl, nx, rfl⟩)
   go_ret
   exact ⟨rfl, grI⟩
 rw [e1] at H1
 clear e1
 cases e2 : inW m M sg
 · rw [e2] at H2
   rw [Bool.and_false, Bool.false_and, Bool.false_and]
   clear H3 e2 hN hM
   go_enter Tryz.func68, Tryz.ntmps68
   go_wp2_with fail
   refine (H1.out _).mono ?_
   rintro e' w' ⟨rfl, nx, rfl⟩
   go_wp2_with fail
   refine (H2.out _).mono ?_
   rintro e' w' ⟨rfl, nx, rfl⟩
   go_wp2_with fail
   go_ret
   exact ⟨rfl, grI⟩
 rw [e2] at H2
 cases e3 : inW who 4 false
 · rw [e3] at H3
   rw [Bool.and_false, Bool.false_and]
   clear e3 e2 hN hM
   go_enter Tryz.func68, Tryz.ntmps68
   go_wp2_with fail
   refine (H1.out _).mono ?_
   rintro e' w' ⟨rfl, nx, rfl⟩
   go_wp2_with fail
   refine (H2.out _).mono ?_
   rintro e' w' ⟨rfl, nx, rfl⟩
   go_wp2_with fail
   refine (H3.out _).mono ?_
   rintro e' w' ⟨rfl, nx, rfl⟩
   go_wp2_with fail
   go_ret
   exact ⟨rfl, grI⟩
 rw [e3] at H3
 rw [Bool.and_true, Bool.and_true, Bool.true_and]
 clear e3 e2 hN hM
 by_cases h23 : op = 23 ∨ op = 25
 · rw [if_pos h23]
   rcases h23 with rfl | rfl
   all_goals
    go_enter Tryz.func68, Tryz.ntmps68
    go_wp2_with fail
    refine (H1.out _).mono ?_
    rintro e' w' ⟨rfl, nx, rfl⟩
    go_wp2_with fail
    refine (H2.out _).mono ?_
    rintro e' w' ⟨rfl, nx, rfl⟩
    go_wp2_with fail
    refine (H3.out _).mono ?_
    rintro e' w' ⟨rfl, nx, rfl⟩
    go_wp2_with fail
    go_ret
    exact ⟨rfl, grI⟩
 · rw [if_neg h23]
   have b23 : (op == 23) = false := by simpa using fun h => h23 (Or.inl h)
   have b25 : (op == 25) = false := by simpa using fun h => h23 (Or.inr h)
   clear h23
   by_cases h14 : op = 14
   · subst h14
     rw [if_pos rfl, Bool.decide_and]
     cases d1 : decide (112 ≤ m) <;> cases d2 : decide (m ≤ 119)
     all_goals
      go_enter Tryz.func68, Tryz.ntmps68
      go_wp2_with fail
      refine (H1.out _).mono ?_
      rintro e' w' ⟨rfl, nx, rfl⟩
      go_wp2_with fail
      refine (H2.out _).mono ?_
      rintro e' w' ⟨rfl, nx, rfl⟩
      go_wp2_with fail
      refine (H3.out _).mono ?_
      rintro e' w' ⟨rfl, nx, rfl⟩
      go_wp2_with fail
      go_ret
      exact ⟨rfl, grI⟩
   · rw [if_neg h14]
     have b14 : (op == 14) = false := by simpa using h14
     clear h14
     go_enter Tryz.func68, Tryz.ntmps68
     go_wp2_with fail
     refine (H1.out _).mono ?_
     rintro e' w' ⟨rfl, nx, rfl⟩
     go_wp2_with fail
     refine (H2.out _).mono ?_
     rintro e' w' ⟨rfl, nx, rfl⟩
     go_wp2_with fail
     refine (H3.out _).mono ?_
     rintro e' w' ⟨rfl, nx, rfl⟩
     go_wp2_with fail
     go_ret
     exact ⟨rfl, grI⟩
end Go.Proofs.YthfalocligkamaaGreatDoor
namespace Go.Proofs.YthfalocligkamaaGreatDoor
open Go Go.RowKit Go.Shelf
theorem zwb (w : World) : Calls Tryz.prog 69 #[.int .i64 1] w fun e w' => e = .returned (.bool true) ∧ Grow w w' := by
 go_enter Tryz.func69, Tryz.ntmps69
 go_wp2_with fail
 go_ret
 exact ⟨rfl, grI⟩
set_option maxRecDepth 100000 in
set_option maxHeartbeats 4000000 in
theorem yao (w : World) : Calls Tryz.prog 47 #[.agg (exR 1 2 0 2 none 0 0), .int .i64 1, .int .i64 2] w fun r w' => r = .returned .nilIface ∧ Grow w w' := by
 have HO := Lib.hid (fun W => of_1 W)
 have HW := Lib.hid (fun W => zqf W 14 1 (by omega) (by omega))
 rw [show yg3 14 1 = true by decide] at HW
 have HNB : Hid (∀ W, Calls Tryz.prog 68 #[.agg (exR 1 2 0 2 none 0 0), .agg (shR false 99 99 19 14 0 0)] W fun e w' => e = .returned (.bool true) ∧ Grow W w') := fun W => zic W 1 2 0 2 none 0 0 false 99 99 19 14 0 0 (by omega) (by omega)
 go_enter Tryz.func47, Tryz.ntmps47
 go_wp2_with (first | (go_at_call 66; refine (HO.out _).mono ?_; rintro e' w' ⟨rfl, nx, rfl⟩) | (go_at_call 68; refine (HNB.out _).mono ?_; rintro e' w' ⟨rfl, nx, rfl⟩) | (go_at_call 67; refine (HW.out _).mono ?_; rintro e' w' ⟨rfl, nx, rfl⟩))
 go_loopw [97] (fun i wr => i = .int .i64 0 ∧ Grow w wr) (fun i _ => 0)
 case atStart => exact ⟨rfl, grI⟩
 case round =>
  obtain ⟨rfl, hG⟩ := hrel
  have HG := Lib.hid hG
  clear hG
  go_wp2_with fail
  go_ret
  exact ⟨rfl, HG.out.trans grI⟩
set_option maxRecDepth 100000 in
set_option maxHeartbeats 4000000 in
theorem yap (w : World) (z : Nat) (hz : z < w.heap.size) (hb : w.blk z = exR 1 2 0 2 none 0 0) (hc : ∀ i, w.cell? ⟨z, i, none⟩ = (exR 1 2 0 2 none 0 0)[i]?) :
 Calls Tryz.prog 47 #[.agg (exR 20 0 0 0 (some ⟨z, 0, none⟩) 1 1), .int .i64 0, .int .i64 1] w fun r w' => r = .returned .nilIface ∧ Grow w w' := by
 have HO := Lib.hid (fun W => yhh W)
 have HW := Lib.hid (fun W => zqf W 1 0 (by omega) (by omega))
 rw [show yg3 1 0 = true by decide] at HW
 have HNB : Hid (∀ W, Calls Tryz.prog 68 #[.agg (exR 20 0 0 0 (some ⟨z, 0, none⟩) 1 1), .agg (shR false 3 99 1 0 1 1)] W fun e w' => e = .returned (.bool true) ∧ Grow W w') := fun W => zic W 20 0 0 0 _ 1 1 false 3 99 1 0 1 1 (by omega) (by omega)
 have HSi : Hid (∀ W, Calls Tryz.prog 69 #[.int .i64 1] W fun e w' => e = .returned (.bool true) ∧ Grow W w') := fun W => zwb W
 have HIH := Lib.hid (fun W => yao W)
 have hop := hc 0
 have hB : Boxd w z (exR 1 2 0 2 none 0 0) := ⟨hb, hc, hz⟩
 have HBZ := Lib.hid hB
 clear hB
 go_enter Tryz.func47, Tryz.ntmps47
 go_wp2_with (first | (go_at_call 66; refine (HO.out _).mono ?_; rintro e' w' ⟨rfl, nx, rfl⟩) | (go_at_call 68; refine (HNB.out _).mono ?_; rintro e' w' ⟨rfl, nx, rfl⟩) | (go_at_call 67; refine (HW.out _).mono ?_; rintro e' w' ⟨rfl, nx, rfl⟩) | (go_at_call 69; refine (HSi.out _).mono ?_; rintro e' w' ⟨rfl, nx, rfl⟩))
 go_loopw [97] (fun i wr => ∃ k : Nat, k ≤ 1 ∧ i = .int .i64 k ∧ Hid (Boxd wr w.heap.size (exR 20 0 0 0 (some ⟨z, 0, none⟩) 1 1)) ∧ Grow w wr) (fun i _ => 1 - (intOf i).toNat)
 case atStart => exact ⟨0, by omega, rfl, (Boxd.new w _ 32).grow grI, grI⟩
 case round =>
  obtain ⟨k, hk, rfl, HB, hG⟩ := hrel
  have HG := Lib.hid hG
  obtain ⟨x1, x2, x3⟩ := HB.out
  obtain ⟨y1, y2, y3⟩ := HBZ.out.grow hG
  clear hG hb hc hz hop
  by_cases hlt : k < 1
  · obtain rfl : k = 0 := by omega
    go_wp2_with (go_at_call 47; refine (HIH.out _).mono ?_; rintro e' w' ⟨rfl, nx, rfl⟩)
    clear x1 x2 y1 y2 y3
    go_roundw
    case rel => exact ⟨1, by omega, by go_num, HB.out.grow grI, HG.out.trans grI⟩
    case measure => simp [intOf]
  · obtain rfl : k = 1 := by omega
    go_wp2_with fail
    go_ret
    exact ⟨rfl, HG.out.trans grI⟩
set_option maxRecDepth 100000 in
set_option maxHeartbeats 4000000 in
theorem zv0 (w : World) (z : Nat) (hz : z < w.heap.size) (hb : w.blk z = exR 1 2 0 2 none 0 0) (hc : ∀ i, w.cell? ⟨z, i, none⟩ = (exR 1 2 0 2 none 0 0)[i]?) :
 Calls Tryz.prog 21 #[.agg (exR 20 0 0 0 (some ⟨z, 0, none⟩) 1 1), .int .i64 0] w fun r w' => r = .returned .nilIface ∧ Grow w w' := by
 have hB : Boxd w z (exR 1 2 0 2 none 0 0) := ⟨hb, hc, hz⟩
 have HC := Lib.hid (fun W (g : Grow w W) => by obtain ⟨a1, a2, a3⟩ := hB.grow g; exact yap W z a3 a1 a2)
 clear hz hb hc hB
 go_enter Tryz.func21, Tryz.ntmps21
 go_wp2_with (go_at_call 47; refine (HC.out _ grI).mono ?_; rintro e' w' ⟨rfl, nx, rfl⟩)
 go_ret
 exact ⟨rfl, grI⟩
end Go.Proofs.YthfalocligkamaaGreatDoor
