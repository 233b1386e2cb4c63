/- The walks of effect's small functions: which numbers are in a set. -/
import Derived.Test.YthfalocligkamaaGreatDoorMEx4
namespace Go.Proofs.YthfalocligkamaaGreatDoor
open Go Go.RowKit Go.Shelf
theorem zus (w : World) (i : Int) (h0 : 0 ≤ i) (h1 : i < 64) : Calls Tryz.prog 99 #[.int .i64 i] w fun e w' => e = .returned (.bool true) ∧ Grow w w' := by
 go_enter Tryz.func99, Tryz.ntmps99
 go_wp2_with fail
 go_ret
 exact ⟨rfl, grI⟩
def z8q (x : Int) (i : Int) : Int := bits .or .u64 x (2 ^ i.toNat)
theorem z3w (w : World) (x i : Int) (h : i = 0 ∨ i = 1 ∨ i = 2 ∨ i = 3 ∨ i = 4 ∨ i = 5) : Calls Tryz.prog 131 #[.int .u64 x, .int .i64 i] w fun e w' => e = .returned (.int .u64 (z8q x i)) ∧ Grow w w' := by
 have HI := Lib.hid (fun W => zus W i (by omega) (by omega))
 rcases h with rfl | rfl | rfl | rfl | rfl | rfl
 all_goals
  go_enter Tryz.func131, Tryz.ntmps131
  go_wp2_with (go_at_call 99; refine (HI.out _).mono ?_; rintro e' w' ⟨rfl, nx, rfl⟩)
  go_ret
  exact ⟨rfl, grI⟩
def hasN (x i : Int) : Bool := x / 2 ^ i.toNat % 2 == 1
set_option maxHeartbeats 8000000 in
theorem zc1 (w : World) (x i : Int) (h : i = 0 ∨ i = 1 ∨ i = 2 ∨ i = 3 ∨ i = 4 ∨ i = 5) (hx : x = 0 ∨ x = 1 ∨ x = 4 ∨ x = 8 ∨ x = 14 ∨ x = 16 ∨ x = 19 ∨ x = 34) : Calls Tryz.prog 67 #[.int .u64 x, .int .i64 i] w fun e w' => e = .returned (.bool (hasN x i)) ∧ Grow w w' := by
 have HI := Lib.hid (fun W => zus W i (by omega) (by omega))
 rcases h with rfl | rfl | rfl | rfl | rfl | rfl
 all_goals
  rcases hx with rfl | rfl | rfl | rfl | rfl | rfl | rfl | rfl
  all_goals
   go_enter Tryz.func67, Tryz.ntmps67
   go_wp2_with (go_at_call 99; refine (HI.out _).mono ?_; rintro e' w' ⟨rfl, nx, rfl⟩)
   go_ret
   exact ⟨rfl, grI⟩
theorem zgb (w : World) (n most : Int) (sg : Bool) (h : 0 ≤ most ∧ most ≤ 1000) : Calls Tryz.prog 100 #[.int .i64 n, .int .i64 most, .bool sg] w fun e w' => e = .returned (.bool (inW n most sg)) ∧ Grow w w' := by
 obtain ⟨m0, m1⟩ := h
 have hv : inW n most sg = (decide ((if sg = true then -most else 0) ≤ n) && decide (n ≤ most)) := by unfold inW; rw [Bool.decide_and]
 have HV := Lib.hid hv
 clear hv
 cases sg
 · rw [if_neg (by decide)] at HV
   cases h1 : decide (0 ≤ n) <;> cases h2 : decide (n ≤ most)
   all_goals
    rw [h1, h2] at HV
    go_enter Tryz.func100, Tryz.ntmps100
    go_wp2_with fail
    go_ret
    exact ⟨by rw [HV.out]; rfl, grI⟩
 · rw [if_pos rfl] at HV
   cases h1 : decide (-most ≤ n) <;> cases h2 : decide (n ≤ most)
   all_goals
    rw [h1, h2] at HV
    go_enter Tryz.func100, Tryz.ntmps100
    go_wp2_with fail
    go_ret
    exact ⟨by rw [HV.out]; rfl, grI⟩
def setN (l : List Int) (k : Nat) : Int := (l.take k).foldl z8q 0
theorem zxj (l : List Int) (k : Nat) (h : k < l.length) : setN l (k + 1) = z8q (setN l k) (gt l k) := by
 unfold setN
 rw [List.take_succ_eq_append_getElem h, zc7 _ _ h, List.foldl_append]; rfl
set_option maxRecDepth 100000 in
theorem z0f (w : World) (s : Sl) (l : List Int) (R : Ints w s l) (hl : l.length ≤ 8) (hin : ∀ k, k < l.length → gt l k = 0 ∨ gt l k = 1 ∨ gt l k = 2 ∨ gt l k = 3 ∨ gt l k = 4 ∨ gt l k = 5) :
 Calls Tryz.prog 98 #[s.val] w fun e w' => e = .returned (.int .u64 (setN l l.length)) ∧ Grow w w' := by
 have hn := R.len
 have HR := Lib.hid R
 have HIN := Lib.hid hin
 clear R hin
 go_enter Tryz.func98, Tryz.ntmps98
 go_wp2_with fail
 go_loopw [3, 8] (fun v i wr => ∃ k : Nat, k ≤ l.length ∧ i = .int .i64 k ∧ v = .int .u64 (setN l k) ∧ Grow w wr) (fun _ i _ => l.length - (intOf i).toNat)
 case atStart => exact ⟨0, by omega, rfl, rfl, grI⟩
 case round =>
  obtain ⟨k, hk, rfl, rfl, hG⟩ := hrel
  obtain ⟨x, rfl⟩ := hG
  by_cases hlt : k < l.length
  · obtain ⟨hat1, hat2⟩ := HR.out.at k hlt
    have HS := Lib.hid (zxj l k hlt)
    have HW := Lib.hid (fun W => z3w W (setN l k) (gt l k) (HIN.out k hlt))
    rw [← HS.out] at HW
    generalize gt l k = id at *
    generalize setN l k = z at *
    go_wp2_with (go_at_call 131; refine (HW.out _).mono ?_; rintro e' w' ⟨rfl, nx, rfl⟩)
    go_roundw
    case rel => exact ⟨k + 1, by omega, by go_num, rfl, grI⟩
    case measure => simp [intOf]; omega
  · have hke : k = l.length := by omega
    subst hke
    go_wp2_with fail
    go_ret
    exact ⟨rfl, grI⟩
end Go.Proofs.YthfalocligkamaaGreatDoor
namespace Go.Proofs.YthfalocligkamaaGreatDoor
open Go Go.RowKit Go.Shelf
def shR (sg : Bool) (n m wh tg lo hi : Int) : Array Value := #[.bool sg, I n, I m, .int .u64 wh, .int .u64 tg, I lo, I hi]
@[go_sem] theorem yen (sg : Bool) (n m wh tg lo hi : Int) : (shR sg n m wh tg lo hi).size = 7 := by simp [shR]
@[go_sem] theorem ygz (sg : Bool) (n m wh tg lo hi : Int) : zai (shR sg n m wh tg lo hi) = true := by
 simp only [zai, shR, List.all_toArray, List.all_cons, List.all_nil, Bool.and_true]
 rfl
@[go_sem] theorem ygy (sg : Bool) (n m wh tg lo hi : Int) : sub (shR sg n m wh tg lo hi) 0 7 = shR sg n m wh tg lo hi := rfl
@[go_sem] theorem shR_0 (sg : Bool) (n m wh tg lo hi : Int) : (shR sg n m wh tg lo hi)[0]? = some (.bool sg) := rfl
@[go_sem] theorem yil (sg : Bool) (n m wh tg lo hi : Int) (h : 0 < (shR sg n m wh tg lo hi).size) : (shR sg n m wh tg lo hi)[0]'h = .bool sg := by simp [shR]
@[go_sem] theorem shR_1 (sg : Bool) (n m wh tg lo hi : Int) : (shR sg n m wh tg lo hi)[1]? = some (I n) := rfl
@[go_sem] theorem yim (sg : Bool) (n m wh tg lo hi : Int) (h : 1 < (shR sg n m wh tg lo hi).size) : (shR sg n m wh tg lo hi)[1]'h = I n := by simp [shR]
@[go_sem] theorem shR_2 (sg : Bool) (n m wh tg lo hi : Int) : (shR sg n m wh tg lo hi)[2]? = some (I m) := rfl
@[go_sem] theorem yin (sg : Bool) (n m wh tg lo hi : Int) (h : 2 < (shR sg n m wh tg lo hi).size) : (shR sg n m wh tg lo hi)[2]'h = I m := by simp [shR]
@[go_sem] theorem shR_3 (sg : Bool) (n m wh tg lo hi : Int) : (shR sg n m wh tg lo hi)[3]? = some (.int .u64 wh) := rfl
@[go_sem] theorem yio (sg : Bool) (n m wh tg lo hi : Int) (h : 3 < (shR sg n m wh tg lo hi).size) : (shR sg n m wh tg lo hi)[3]'h = .int .u64 wh := by simp [shR]
@[go_sem] theorem shR_4 (sg : Bool) (n m wh tg lo hi : Int) : (shR sg n m wh tg lo hi)[4]? = some (.int .u64 tg) := rfl
@[go_sem] theorem yip (sg : Bool) (n m wh tg lo hi : Int) (h : 4 < (shR sg n m wh tg lo hi).size) : (shR sg n m wh tg lo hi)[4]'h = .int .u64 tg := by simp [shR]
@[go_sem] theorem shR_5 (sg : Bool) (n m wh tg lo hi : Int) : (shR sg n m wh tg lo hi)[5]? = some (I lo) := rfl
@[go_sem] theorem yiq (sg : Bool) (n m wh tg lo hi : Int) (h : 5 < (shR sg n m wh tg lo hi).size) : (shR sg n m wh tg lo hi)[5]'h = I lo := by simp [shR]
@[go_sem] theorem shR_6 (sg : Bool) (n m wh tg lo hi : Int) : (shR sg n m wh tg lo hi)[6]? = some (I hi) := rfl
@[go_sem] theorem yir (sg : Bool) (n m wh tg lo hi : Int) (h : 6 < (shR sg n m wh tg lo hi).size) : (shR sg n m wh tg lo hi)[6]'h = I hi := by simp [shR]
@[go_sem] theorem yis (sg : Bool) (n m wh tg lo hi : Int) (v : Bool) : (shR sg n m wh tg lo hi).setIfInBounds 0 (.bool v) = shR v n m wh tg lo hi := rfl
@[go_sem] theorem yit (sg : Bool) (n m wh tg lo hi : Int) (v : Int) : (shR sg n m wh tg lo hi).setIfInBounds 1 (.int .i64 v) = shR sg v m wh tg lo hi := rfl
@[go_sem] theorem yiu (sg : Bool) (n m wh tg lo hi : Int) (v : Int) : (shR sg n m wh tg lo hi).setIfInBounds 2 (.int .i64 v) = shR sg n v wh tg lo hi := rfl
@[go_sem] theorem yiv (sg : Bool) (n m wh tg lo hi : Int) (v : Int) : (shR sg n m wh tg lo hi).setIfInBounds 3 (.int .u64 v) = shR sg n m v tg lo hi := rfl
@[go_sem] theorem yiw (sg : Bool) (n m wh tg lo hi : Int) (v : Int) : (shR sg n m wh tg lo hi).setIfInBounds 4 (.int .u64 v) = shR sg n m wh v lo hi := rfl
@[go_sem] theorem yix (sg : Bool) (n m wh tg lo hi : Int) (v : Int) : (shR sg n m wh tg lo hi).setIfInBounds 5 (.int .i64 v) = shR sg n m wh tg v hi := rfl
@[go_sem] theorem yiy (sg : Bool) (n m wh tg lo hi : Int) (v : Int) : (shR sg n m wh tg lo hi).setIfInBounds 6 (.int .i64 v) = shR sg n m wh tg lo v := rfl
@[go_sem ↓] theorem z67 (ρ : Operand → Value) (dst : Option Tmp) (x : Operand) (ty : TypeId) (pos : String) (after : Array Edge) (guard : Option (Nat × Bool)) :
 execOp ρ { dst, op := .load 109 x, type := ty, pos, after, guard } = za1 109 (ρ x) := rfl
@[go_sem ↓] theorem z5j (ρ : Operand → Value) (dst : Option Tmp) (x y : Operand) (ty : TypeId) (pos : String) (after : Array Edge) (guard : Option (Nat × Bool)) :
 execOp ρ { dst, op := .store 109 x y, type := ty, pos, after, guard } = zay 109 (ρ x) (ρ y) := rfl
@[go_sem] theorem zjw (w : World) (b o : Nat) (h : o + 7 ≤ (w.blk b).size) : (za1 109 (.pointer (some ⟨b, o, none⟩))).run Tryz.prog w = .ok (.value (.agg (sub (w.blk b) o 7))) w :=
 zau w b o 109 7 (by kernel_rfl) (by kernel_rfl) h (by omega)
@[go_sem] theorem zui (w : World) (b : Nat) (cs : Array Value) (h : (w.blk b).size = 7) (hc : cs.size = 7) (h1 : zai cs = true) (hf : w.free b = true) : (zay 109 (.pointer (some ⟨b, 0, none⟩)) (.agg cs)).run Tryz.prog w = .ok .skip (w.setRow b cs) :=
 zav w b 109 7 _ (by kernel_rfl) h hc (by omega) hf h1
@[go_sem ↓] theorem z4i (ρ : Operand → Value) (dst : Option Tmp) (parts : Array (Nat × Operand)) (ty : TypeId) (pos : String) (after : Array Edge) (guard : Option (Nat × Bool)) :
 execOp ρ { dst, op := .build 109 parts, type := ty, pos, after, guard } = za2 109 (parts.map fun (i, x) => (i, ρ x)) := rfl
theorem zkh (w : World) (b : Nat) (h : (w.blk b).size = 7) : (loadVar 109 ⟨b, 0, none⟩).run Tryz.prog w = .ok (.agg (sub (w.blk b) 0 7)) w := by
 have := zjw w b 0 (by omega)
 unfold za1 at this
 rw [Sem.run_bind] at this
 simp only [Instr.loadAt, Instr.sureAddr, Sem.run_bind, Sem.run_pure, Result.andThen_ok] at this
 cases hr : (loadVar 109 ⟨b, 0, none⟩).run Tryz.prog w with
 | ok v w' => rw [hr] at this; simp at this; rw [this.1, this.2]
 | halt x w' => rw [hr] at this; simp [Result.andThen] at this
theorem zal {fn : Func} {p : Tmp} (h : fn.results = #[.cell p 109]) (tmps : Array Value) (w : World) (b : Nat) (hp : tmps.getD p undef = .pointer (some ⟨b, 0, none⟩)) (h1 : (w.blk b).size = 7) :
 (results fn tmps).run Tryz.prog w = .ok (.agg (sub (w.blk b) 0 7)) w := by
 unfold results
 rw [h]
 have e1 := zkh w b h1
 have hp' : tmps[p]?.getD undef = .pointer (some ⟨b, 0, none⟩) := by simpa using hp
 simp [asAddr, hp', e1]
@[go_sem] theorem zt4 (w : World) : (za2 109 #[(1, .int .i64 99), (2, .int .i64 99)]).run Tryz.prog w = .ok (.value (.agg (shR false 99 99 0 0 0 0))) w := by kernel_rfl
@[go_sem] theorem z4m (t : TypeId) (fr : Nat × Nat) : Obj.cells #[Value.bool false, Value.int .i64 0, Value.int .i64 0, .int .u64 0, .int .u64 0, Value.int .i64 0, Value.int .i64 0] t fr = .cells (shR false 0 0 0 0 0 0) t fr := rfl
def ofN (op : Int) : Int := if op = 20 then 3 else if op = 22 then 2 else 99
def ofM (op : Int) : Int := if op = 15 then 5 else 99
def whN (op : Int) : Int := if op = 0 ∨ op = 21 ∨ op = 22 ∨ op = 20 then 1 else if op = 1 then 19 else if op = 9 then 0 else if op = 6 ∨ op = 7 ∨ op = 8 ∨ op = 10 ∨ op = 11 ∨ op = 12 ∨ op = 13 ∨ op = 23 ∨ op = 24 ∨ op = 25 then 8 else 19
def tgN (op : Int) : Int := if op = 0 ∨ op = 21 ∨ op = 22 ∨ op = 20 then 0 else if op = 1 then 14 else if op = 9 then 16 else if op = 6 ∨ op = 7 ∨ op = 8 ∨ op = 10 ∨ op = 11 ∨ op = 12 ∨ op = 13 ∨ op = 23 ∨ op = 24 ∨ op = 25 then 34 else 4
theorem zjy (W : World) (q n : Nat) (l : List Int) (v : Int) (hn : l.length = n) (hq : q = W.heap.size) (hl : l.length ≤ 8) (hin : ∀ k, k < l.length → gt l k = 0 ∨ gt l k = 1 ∨ gt l k = 2 ∨ gt l k = 3 ∨ gt l k = 4 ∨ gt l k = 5) (hv : setN l l.length = v) :
 Calls Tryz.prog 98 #[.slice (some ⟨q, 0, none⟩) n n] (W.alloc (.cells (cellsOf l) 3)) fun e w' => e = .returned (.int .u64 v) ∧ Grow (W.alloc (.cells (cellsOf l) 3)) w' := by
 rw [← hv]
 exact z0f _ (.mk q 0 n n) l (zg0 hq hn (Grow.refl _)) hl hin
theorem z2n (W : World) (q : Nat) (hq : q = W.heap.size) : Calls Tryz.prog 98 #[.slice (some ⟨q, 0, none⟩) 1 1] (W.alloc (.cells (cellsOf [0]) 3)) fun e w' => e = .returned (.int .u64 1) ∧ Grow (W.alloc (.cells (cellsOf [0]) 3)) w' :=
 zjy W q 1 [0] 1 rfl hq (by decide) (by decide) (by decide +kernel)
theorem zdm (W : World) (q : Nat) (hq : q = W.heap.size) : Calls Tryz.prog 98 #[.slice (some ⟨q, 0, none⟩) 3 3] (W.alloc (.cells (cellsOf [0, 1, 4]) 3)) fun e w' => e = .returned (.int .u64 19) ∧ Grow (W.alloc (.cells (cellsOf [0, 1, 4]) 3)) w' :=
 zjy W q 3 [0, 1, 4] 19 rfl hq (by decide) (by decide) (by decide +kernel)
theorem z71 (W : World) (q : Nat) (hq : q = W.heap.size) : Calls Tryz.prog 98 #[.slice (some ⟨q, 0, none⟩) 3 3] (W.alloc (.cells (cellsOf [1, 2, 3]) 3)) fun e w' => e = .returned (.int .u64 14) ∧ Grow (W.alloc (.cells (cellsOf [1, 2, 3]) 3)) w' :=
 zjy W q 3 [1, 2, 3] 14 rfl hq (by decide) (by decide) (by decide +kernel)
theorem ygx (W : World) (q : Nat) (hq : q = W.heap.size) : Calls Tryz.prog 98 #[.slice (some ⟨q, 0, none⟩) 1 1] (W.alloc (.cells (cellsOf [4]) 3)) fun e w' => e = .returned (.int .u64 16) ∧ Grow (W.alloc (.cells (cellsOf [4]) 3)) w' :=
 zjy W q 1 [4] 16 rfl hq (by decide) (by decide) (by decide +kernel)
theorem zkp (W : World) (q : Nat) (hq : q = W.heap.size) : Calls Tryz.prog 98 #[.slice (some ⟨q, 0, none⟩) 1 1] (W.alloc (.cells (cellsOf [3]) 3)) fun e w' => e = .returned (.int .u64 8) ∧ Grow (W.alloc (.cells (cellsOf [3]) 3)) w' :=
 zjy W q 1 [3] 8 rfl hq (by decide) (by decide) (by decide +kernel)
theorem zf8 (W : World) (q : Nat) (hq : q = W.heap.size) : Calls Tryz.prog 98 #[.slice (some ⟨q, 0, none⟩) 2 2] (W.alloc (.cells (cellsOf [1, 5]) 3)) fun e w' => e = .returned (.int .u64 34) ∧ Grow (W.alloc (.cells (cellsOf [1, 5]) 3)) w' :=
 zjy W q 2 [1, 5] 34 rfl hq (by decide) (by decide) (by decide +kernel)
theorem zjz (W : World) (q : Nat) (hq : q = W.heap.size) : Calls Tryz.prog 98 #[.slice (some ⟨q, 0, none⟩) 1 1] (W.alloc (.cells (cellsOf [2]) 3)) fun e w' => e = .returned (.int .u64 4) ∧ Grow (W.alloc (.cells (cellsOf [2]) 3)) w' :=
 zjy W q 1 [2] 4 rfl hq (by decide) (by decide) (by decide +kernel)
@[go_sem] theorem z7t (w : World) (a c d : Int) : (zc9 23 3 #[(0, .int .i64 a), (1, .int .i64 c), (2, .int .i64 d)]).run Tryz.prog w = .ok (.value (.slice (some ⟨w.heap.size, 0, none⟩) 3 3)) (w.alloc (.cells (cellsOf [a, c, d]) 3)) := by kernel_rfl
set_option maxRecDepth 100000 in
set_option maxHeartbeats 4000000 in
theorem of_0 (w : World) : Calls Tryz.prog 66 #[.int .i64 0] w fun e w' => e = .returned (.agg (shR false 99 99 1 0 0 0)) ∧ Grow w w' := by
 go_enter Tryz.func66, Tryz.ntmps66
 go_wp2_with fail
 refine (z2n _ _ (by simp only [zaa])).mono ?_
 rintro e' w' ⟨rfl, nx, rfl⟩
 go_wp2_with fail
 refine bodyPost_ret (zal rfl _ _ _ rfl ?_) rfl ?_
 · go_simp
 · exact ⟨by go_simp, grI⟩
set_option maxRecDepth 100000 in
set_option maxHeartbeats 4000000 in
theorem of_1 (w : World) : Calls Tryz.prog 66 #[.int .i64 1] w fun e w' => e = .returned (.agg (shR false 99 99 19 14 0 0)) ∧ Grow w w' := by
 go_enter Tryz.func66, Tryz.ntmps66
 go_wp2_with fail
 refine (zdm _ _ (by simp only [zaa])).mono ?_
 rintro e' w' ⟨rfl, nx, rfl⟩
 go_wp2_with fail
 refine (z71 _ _ (by simp only [zaa, zac])).mono ?_
 rintro e' w' ⟨rfl, nx, rfl⟩
 go_wp2_with fail
 refine bodyPost_ret (zal rfl _ _ _ rfl ?_) rfl ?_
 · go_simp
 · exact ⟨by go_simp, grI⟩
set_option maxRecDepth 100000 in
set_option maxHeartbeats 4000000 in
theorem of_2 (w : World) : Calls Tryz.prog 66 #[.int .i64 2] w fun e w' => e = .returned (.agg (shR false 99 99 19 4 0 0)) ∧ Grow w w' := by
 go_enter Tryz.func66, Tryz.ntmps66
 go_wp2_with fail
 refine (zdm _ _ (by simp only [zaa])).mono ?_
 rintro e' w' ⟨rfl, nx, rfl⟩
 go_wp2_with fail
 refine (zjz _ _ (by simp only [zaa, zac])).mono ?_
 rintro e' w' ⟨rfl, nx, rfl⟩
 go_wp2_with fail
 refine bodyPost_ret (zal rfl _ _ _ rfl ?_) rfl ?_
 · go_simp
 · exact ⟨by go_simp, grI⟩
set_option maxRecDepth 100000 in
set_option maxHeartbeats 4000000 in
theorem of_3 (w : World) : Calls Tryz.prog 66 #[.int .i64 3] w fun e w' => e = .returned (.agg (shR false 99 99 19 4 0 0)) ∧ Grow w w' := by
 go_enter Tryz.func66, Tryz.ntmps66
 go_wp2_with fail
 refine (zdm _ _ (by simp only [zaa])).mono ?_
 rintro e' w' ⟨rfl, nx, rfl⟩
 go_wp2_with fail
 refine (zjz _ _ (by simp only [zaa, zac])).mono ?_
 rintro e' w' ⟨rfl, nx, rfl⟩
 go_wp2_with fail
 refine bodyPost_ret (zal rfl _ _ _ rfl ?_) rfl ?_
 · go_simp
 · exact ⟨by go_simp, grI⟩
set_option maxRecDepth 100000 in
set_option maxHeartbeats 4000000 in
theorem of_4 (w : World) : Calls Tryz.prog 66 #[.int .i64 4] w fun e w' => e = .returned (.agg (shR false 99 99 19 4 0 0)) ∧ Grow w w' := by
 go_enter Tryz.func66, Tryz.ntmps66
 go_wp2_with fail
 refine (zdm _ _ (by simp only [zaa])).mono ?_
 rintro e' w' ⟨rfl, nx, rfl⟩
 go_wp2_with fail
 refine (zjz _ _ (by simp only [zaa, zac])).mono ?_
 rintro e' w' ⟨rfl, nx, rfl⟩
 go_wp2_with fail
 refine bodyPost_ret (zal rfl _ _ _ rfl ?_) rfl ?_
 · go_simp
 · exact ⟨by go_simp, grI⟩
set_option maxRecDepth 100000 in
set_option maxHeartbeats 4000000 in
theorem of_5 (w : World) : Calls Tryz.prog 66 #[.int .i64 5] w fun e w' => e = .returned (.agg (shR false 99 99 19 4 0 0)) ∧ Grow w w' := by
 go_enter Tryz.func66, Tryz.ntmps66
 go_wp2_with fail
 refine (zdm _ _ (by simp only [zaa])).mono ?_
 rintro e' w' ⟨rfl, nx, rfl⟩
 go_wp2_with fail
 refine (zjz _ _ (by simp only [zaa, zac])).mono ?_
 rintro e' w' ⟨rfl, nx, rfl⟩
 go_wp2_with fail
 refine bodyPost_ret (zal rfl _ _ _ rfl ?_) rfl ?_
 · go_simp
 · exact ⟨by go_simp, grI⟩
set_option maxRecDepth 100000 in
set_option maxHeartbeats 4000000 in
theorem of_6 (w : World) : Calls Tryz.prog 66 #[.int .i64 6] w fun e w' => e = .returned (.agg (shR false 99 99 8 34 0 0)) ∧ Grow w w' := by
 go_enter Tryz.func66, Tryz.ntmps66
 go_wp2_with fail
 refine (zkp _ _ (by simp only [zaa])).mono ?_
 rintro e' w' ⟨rfl, nx, rfl⟩
 go_wp2_with fail
 refine (zf8 _ _ (by simp only [zaa, zac])).mono ?_
 rintro e' w' ⟨rfl, nx, rfl⟩
 go_wp2_with fail
 refine bodyPost_ret (zal rfl _ _ _ rfl ?_) rfl ?_
 · go_simp
 · exact ⟨by go_simp, grI⟩
set_option maxRecDepth 100000 in
set_option maxHeartbeats 4000000 in
theorem of_7 (w : World) : Calls Tryz.prog 66 #[.int .i64 7] w fun e w' => e = .returned (.agg (shR false 99 99 8 34 0 0)) ∧ Grow w w' := by
 go_enter Tryz.func66, Tryz.ntmps66
 go_wp2_with fail
 refine (zkp _ _ (by simp only [zaa])).mono ?_
 rintro e' w' ⟨rfl, nx, rfl⟩
 go_wp2_with fail
 refine (zf8 _ _ (by simp only [zaa, zac])).mono ?_
 rintro e' w' ⟨rfl, nx, rfl⟩
 go_wp2_with fail
 refine bodyPost_ret (zal rfl _ _ _ rfl ?_) rfl ?_
 · go_simp
 · exact ⟨by go_simp, grI⟩
set_option maxRecDepth 100000 in
set_option maxHeartbeats 4000000 in
theorem of_8 (w : World) : Calls Tryz.prog 66 #[.int .i64 8] w fun e w' => e = .returned (.agg (shR false 99 99 8 34 0 0)) ∧ Grow w w' := by
 go_enter Tryz.func66, Tryz.ntmps66
 go_wp2_with fail
 refine (zkp _ _ (by simp only [zaa])).mono ?_
 rintro e' w' ⟨rfl, nx, rfl⟩
 go_wp2_with fail
 refine (zf8 _ _ (by simp only [zaa, zac])).mono ?_
 rintro e' w' ⟨rfl, nx, rfl⟩
 go_wp2_with fail
 refine bodyPost_ret (zal rfl _ _ _ rfl ?_) rfl ?_
 · go_simp
 · exact ⟨by go_simp, grI⟩
set_option maxRecDepth 100000 in
set_option maxHeartbeats 4000000 in
theorem of_9 (w : World) : Calls Tryz.prog 66 #[.int .i64 9] w fun e w' => e = .returned (.agg (shR false 99 99 0 16 0 0)) ∧ Grow w w' := by
 go_enter Tryz.func66, Tryz.ntmps66
 go_wp2_with fail
 refine (ygx _ _ (by simp only [zaa])).mono ?_
 rintro e' w' ⟨rfl, nx, rfl⟩
 go_wp2_with fail
 refine bodyPost_ret (zal rfl _ _ _ rfl ?_) rfl ?_
 · go_simp
 · exact ⟨by go_simp, grI⟩
set_option maxRecDepth 100000 in
set_option maxHeartbeats 4000000 in
theorem ygf (w : World) : Calls Tryz.prog 66 #[.int .i64 10] w fun e w' => e = .returned (.agg (shR true 99 99 8 34 0 0)) ∧ Grow w w' := by
 go_enter Tryz.func66, Tryz.ntmps66
 go_wp2_with fail
 refine (zkp _ _ (by simp only [zaa])).mono ?_
 rintro e' w' ⟨rfl, nx, rfl⟩
 go_wp2_with fail
 refine (zf8 _ _ (by simp only [zaa, zac])).mono ?_
 rintro e' w' ⟨rfl, nx, rfl⟩
 go_wp2_with fail
 refine bodyPost_ret (zal rfl _ _ _ rfl ?_) rfl ?_
 · go_simp
 · exact ⟨by go_simp, grI⟩
set_option maxRecDepth 100000 in
set_option maxHeartbeats 4000000 in
theorem ygg (w : World) : Calls Tryz.prog 66 #[.int .i64 11] w fun e w' => e = .returned (.agg (shR false 99 99 8 34 0 0)) ∧ Grow w w' := by
 go_enter Tryz.func66, Tryz.ntmps66
 go_wp2_with fail
 refine (zkp _ _ (by simp only [zaa])).mono ?_
 rintro e' w' ⟨rfl, nx, rfl⟩
 go_wp2_with fail
 refine (zf8 _ _ (by simp only [zaa, zac])).mono ?_
 rintro e' w' ⟨rfl, nx, rfl⟩
 go_wp2_with fail
 refine bodyPost_ret (zal rfl _ _ _ rfl ?_) rfl ?_
 · go_simp
 · exact ⟨by go_simp, grI⟩
set_option maxRecDepth 100000 in
set_option maxHeartbeats 4000000 in
theorem ygh (w : World) : Calls Tryz.prog 66 #[.int .i64 12] w fun e w' => e = .returned (.agg (shR false 99 99 8 34 0 0)) ∧ Grow w w' := by
 go_enter Tryz.func66, Tryz.ntmps66
 go_wp2_with fail
 refine (zkp _ _ (by simp only [zaa])).mono ?_
 rintro e' w' ⟨rfl, nx, rfl⟩
 go_wp2_with fail
 refine (zf8 _ _ (by simp only [zaa, zac])).mono ?_
 rintro e' w' ⟨rfl, nx, rfl⟩
 go_wp2_with fail
 refine bodyPost_ret (zal rfl _ _ _ rfl ?_) rfl ?_
 · go_simp
 · exact ⟨by go_simp, grI⟩
set_option maxRecDepth 100000 in
set_option maxHeartbeats 4000000 in
theorem ygi (w : World) : Calls Tryz.prog 66 #[.int .i64 13] w fun e w' => e = .returned (.agg (shR false 99 99 8 34 0 0)) ∧ Grow w w' := by
 go_enter Tryz.func66, Tryz.ntmps66
 go_wp2_with fail
 refine (zkp _ _ (by simp only [zaa])).mono ?_
 rintro e' w' ⟨rfl, nx, rfl⟩
 go_wp2_with fail
 refine (zf8 _ _ (by simp only [zaa, zac])).mono ?_
 rintro e' w' ⟨rfl, nx, rfl⟩
 go_wp2_with fail
 refine bodyPost_ret (zal rfl _ _ _ rfl ?_) rfl ?_
 · go_simp
 · exact ⟨by go_simp, grI⟩
set_option maxRecDepth 100000 in
set_option maxHeartbeats 4000000 in
theorem ygj (w : World) : Calls Tryz.prog 66 #[.int .i64 14] w fun e w' => e = .returned (.agg (shR false 99 99 19 4 0 0)) ∧ Grow w w' := by
 go_enter Tryz.func66, Tryz.ntmps66
 go_wp2_with fail
 refine (zdm _ _ (by simp only [zaa])).mono ?_
 rintro e' w' ⟨rfl, nx, rfl⟩
 go_wp2_with fail
 refine (zjz _ _ (by simp only [zaa, zac])).mono ?_
 rintro e' w' ⟨rfl, nx, rfl⟩
 go_wp2_with fail
 refine bodyPost_ret (zal rfl _ _ _ rfl ?_) rfl ?_
 · go_simp
 · exact ⟨by go_simp, grI⟩
set_option maxRecDepth 100000 in
set_option maxHeartbeats 4000000 in
theorem ygk (w : World) : Calls Tryz.prog 66 #[.int .i64 15] w fun e w' => e = .returned (.agg (shR false 99 5 19 4 0 0)) ∧ Grow w w' := by
 go_enter Tryz.func66, Tryz.ntmps66
 go_wp2_with fail
 refine (zdm _ _ (by simp only [zaa])).mono ?_
 rintro e' w' ⟨rfl, nx, rfl⟩
 go_wp2_with fail
 refine (zjz _ _ (by simp only [zaa, zac])).mono ?_
 rintro e' w' ⟨rfl, nx, rfl⟩
 go_wp2_with fail
 refine bodyPost_ret (zal rfl _ _ _ rfl ?_) rfl ?_
 · go_simp
 · exact ⟨by go_simp, grI⟩
set_option maxRecDepth 100000 in
set_option maxHeartbeats 4000000 in
theorem ygl (w : World) : Calls Tryz.prog 66 #[.int .i64 16] w fun e w' => e = .returned (.agg (shR false 99 99 19 4 0 0)) ∧ Grow w w' := by
 go_enter Tryz.func66, Tryz.ntmps66
 go_wp2_with fail
 refine (zdm _ _ (by simp only [zaa])).mono ?_
 rintro e' w' ⟨rfl, nx, rfl⟩
 go_wp2_with fail
 refine (zjz _ _ (by simp only [zaa, zac])).mono ?_
 rintro e' w' ⟨rfl, nx, rfl⟩
 go_wp2_with fail
 refine bodyPost_ret (zal rfl _ _ _ rfl ?_) rfl ?_
 · go_simp
 · exact ⟨by go_simp, grI⟩
set_option maxRecDepth 100000 in
set_option maxHeartbeats 4000000 in
theorem ygm (w : World) : Calls Tryz.prog 66 #[.int .i64 17] w fun e w' => e = .returned (.agg (shR false 99 99 19 4 0 0)) ∧ Grow w w' := by
 go_enter Tryz.func66, Tryz.ntmps66
 go_wp2_with fail
 refine (zdm _ _ (by simp only [zaa])).mono ?_
 rintro e' w' ⟨rfl, nx, rfl⟩
 go_wp2_with fail
 refine (zjz _ _ (by simp only [zaa, zac])).mono ?_
 rintro e' w' ⟨rfl, nx, rfl⟩
 go_wp2_with fail
 refine bodyPost_ret (zal rfl _ _ _ rfl ?_) rfl ?_
 · go_simp
 · exact ⟨by go_simp, grI⟩
set_option maxRecDepth 100000 in
set_option maxHeartbeats 4000000 in
theorem ygn (w : World) : Calls Tryz.prog 66 #[.int .i64 18] w fun e w' => e = .returned (.agg (shR false 99 99 19 4 0 0)) ∧ Grow w w' := by
 go_enter Tryz.func66, Tryz.ntmps66
 go_wp2_with fail
 refine (zdm _ _ (by simp only [zaa])).mono ?_
 rintro e' w' ⟨rfl, nx, rfl⟩
 go_wp2_with fail
 refine (zjz _ _ (by simp only [zaa, zac])).mono ?_
 rintro e' w' ⟨rfl, nx, rfl⟩
 go_wp2_with fail
 refine bodyPost_ret (zal rfl _ _ _ rfl ?_) rfl ?_
 · go_simp
 · exact ⟨by go_simp, grI⟩
set_option maxRecDepth 100000 in
set_option maxHeartbeats 4000000 in
theorem ygo (w : World) : Calls Tryz.prog 66 #[.int .i64 19] w fun e w' => e = .returned (.agg (shR false 99 99 19 4 0 0)) ∧ Grow w w' := by
 go_enter Tryz.func66, Tryz.ntmps66
 go_wp2_with fail
 refine (zdm _ _ (by simp only [zaa])).mono ?_
 rintro e' w' ⟨rfl, nx, rfl⟩
 go_wp2_with fail
 refine (zjz _ _ (by simp only [zaa, zac])).mono ?_
 rintro e' w' ⟨rfl, nx, rfl⟩
 go_wp2_with fail
 refine bodyPost_ret (zal rfl _ _ _ rfl ?_) rfl ?_
 · go_simp
 · exact ⟨by go_simp, grI⟩
set_option maxRecDepth 100000 in
set_option maxHeartbeats 4000000 in
theorem ybq (w : World) : Calls Tryz.prog 66 #[.int .i64 20] w fun e w' => e = .returned (.agg (shR false 3 99 1 0 1 1)) ∧ Grow w w' := by
 go_enter Tryz.func66, Tryz.ntmps66
 go_wp2_with fail
 refine (z2n _ _ (by simp only [zaa])).mono ?_
 rintro e' w' ⟨rfl, nx, rfl⟩
 go_wp2_with fail
 refine bodyPost_ret (zal rfl _ _ _ rfl ?_) rfl ?_
 · go_simp
 · exact ⟨by go_simp, grI⟩
set_option maxRecDepth 100000 in
set_option maxHeartbeats 4000000 in
theorem ygp (w : World) : Calls Tryz.prog 66 #[.int .i64 21] w fun e w' => e = .returned (.agg (shR false 99 99 1 0 1 8)) ∧ Grow w w' := by
 go_enter Tryz.func66, Tryz.ntmps66
 go_wp2_with fail
 refine (z2n _ _ (by simp only [zaa])).mono ?_
 rintro e' w' ⟨rfl, nx, rfl⟩
 go_wp2_with fail
 refine bodyPost_ret (zal rfl _ _ _ rfl ?_) rfl ?_
 · go_simp
 · exact ⟨by go_simp, grI⟩
set_option maxRecDepth 100000 in
set_option maxHeartbeats 4000000 in
theorem ygq (w : World) : Calls Tryz.prog 66 #[.int .i64 22] w fun e w' => e = .returned (.agg (shR false 2 99 1 0 1 2)) ∧ Grow w w' := by
 go_enter Tryz.func66, Tryz.ntmps66
 go_wp2_with fail
 refine (z2n _ _ (by simp only [zaa])).mono ?_
 rintro e' w' ⟨rfl, nx, rfl⟩
 go_wp2_with fail
 refine bodyPost_ret (zal rfl _ _ _ rfl ?_) rfl ?_
 · go_simp
 · exact ⟨by go_simp, grI⟩
set_option maxRecDepth 100000 in
set_option maxHeartbeats 4000000 in
theorem ygr (w : World) : Calls Tryz.prog 66 #[.int .i64 23] w fun e w' => e = .returned (.agg (shR false 99 99 8 34 0 0)) ∧ Grow w w' := by
 go_enter Tryz.func66, Tryz.ntmps66
 go_wp2_with fail
 refine (zkp _ _ (by simp only [zaa])).mono ?_
 rintro e' w' ⟨rfl, nx, rfl⟩
 go_wp2_with fail
 refine (zf8 _ _ (by simp only [zaa, zac])).mono ?_
 rintro e' w' ⟨rfl, nx, rfl⟩
 go_wp2_with fail
 refine bodyPost_ret (zal rfl _ _ _ rfl ?_) rfl ?_
 · go_simp
 · exact ⟨by go_simp, grI⟩
set_option maxRecDepth 100000 in
set_option maxHeartbeats 4000000 in
theorem ygs (w : World) : Calls Tryz.prog 66 #[.int .i64 24] w fun e w' => e = .returned (.agg (shR true 99 99 8 34 0 0)) ∧ Grow w w' := by
 go_enter Tryz.func66, Tryz.ntmps66
 go_wp2_with fail
 refine (zkp _ _ (by simp only [zaa])).mono ?_
 rintro e' w' ⟨rfl, nx, rfl⟩
 go_wp2_with fail
 refine (zf8 _ _ (by simp only [zaa, zac])).mono ?_
 rintro e' w' ⟨rfl, nx, rfl⟩
 go_wp2_with fail
 refine bodyPost_ret (zal rfl _ _ _ rfl ?_) rfl ?_
 · go_simp
 · exact ⟨by go_simp, grI⟩
set_option maxRecDepth 100000 in
set_option maxHeartbeats 4000000 in
theorem ygt (w : World) : Calls Tryz.prog 66 #[.int .i64 25] w fun e w' => e = .returned (.agg (shR false 99 99 8 34 0 0)) ∧ Grow w w' := by
 go_enter Tryz.func66, Tryz.ntmps66
 go_wp2_with fail
 refine (zkp _ _ (by simp only [zaa])).mono ?_
 rintro e' w' ⟨rfl, nx, rfl⟩
 go_wp2_with fail
 refine (zf8 _ _ (by simp only [zaa, zac])).mono ?_
 rintro e' w' ⟨rfl, nx, rfl⟩
 go_wp2_with fail
 refine bodyPost_ret (zal rfl _ _ _ rfl ?_) rfl ?_
 · go_simp
 · exact ⟨by go_simp, grI⟩
set_option maxRecDepth 100000 in
set_option maxHeartbeats 4000000 in
theorem z1z (w : World) (op : Int) (h : ¬ (0 ≤ op ∧ op < 26)) : Calls Tryz.prog 66 #[.int .i64 op] w fun e w' => e = .returned (.agg (shR false 99 99 19 4 0 0)) ∧ Grow w w' := by
 have b0 : (op == 0) = false := by simp; omega
 have b1 : (op == 1) = false := by simp; omega
 have b6 : (op == 6) = false := by simp; omega
 have b7 : (op == 7) = false := by simp; omega
 have b8 : (op == 8) = false := by simp; omega
 have b9 : (op == 9) = false := by simp; omega
 have b10 : (op == 10) = false := by simp; omega
 have b11 : (op == 11) = false := by simp; omega
 have b12 : (op == 12) = false := by simp; omega
 have b13 : (op == 13) = false := by simp; omega
 have b15 : (op == 15) = false := by simp; omega
 have b20 : (op == 20) = false := by simp; omega
 have b21 : (op == 21) = false := by simp; omega
 have b22 : (op == 22) = false := by simp; omega
 have b23 : (op == 23) = false := by simp; omega
 have b24 : (op == 24) = false := by simp; omega
 have b25 : (op == 25) = false := by simp; omega
 clear h
 go_enter Tryz.func66, Tryz.ntmps66
 go_wp2_with fail
 refine (zdm _ _ (by simp only [zaa])).mono ?_
 rintro e' w' ⟨rfl, nx, rfl⟩
 go_wp2_with fail
 refine (zjz _ _ (by simp only [zaa, zac])).mono ?_
 rintro e' w' ⟨rfl, nx, rfl⟩
 go_wp2_with fail
 refine bodyPost_ret (zal rfl _ _ _ rfl ?_) rfl ?_
 · go_simp
 · exact ⟨by go_simp, grI⟩
theorem zhl (w : World) (op : Int) : Calls Tryz.prog 66 #[.int .i64 op] w fun e w' => e = .returned (.agg (shR (asks op).sg (ofN op) (ofM op) (whN op) (tgN op) (asks op).lo (asks op).hi)) ∧ Grow w w' := by
 have : op = 0 ∨ op = 1 ∨ op = 2 ∨ op = 3 ∨ op = 4 ∨ op = 5 ∨ op = 6 ∨ op = 7 ∨ op = 8 ∨ op = 9 ∨ op = 10 ∨ op = 11 ∨ op = 12 ∨ op = 13 ∨ op = 14 ∨ op = 15 ∨ op = 16 ∨ op = 17 ∨ op = 18 ∨ op = 19 ∨ op = 20 ∨ op = 21 ∨ op = 22 ∨ op = 23 ∨ op = 24 ∨ op = 25 ∨ ¬ (0 ≤ op ∧ op < 26) := by omega
 rcases this with rfl | rfl | rfl | rfl | rfl | rfl | rfl | rfl | rfl | rfl | rfl | rfl | rfl | rfl | rfl | rfl | rfl | rfl | rfl | rfl | rfl | rfl | rfl | rfl | rfl | rfl | h
 · have e : (shR false 99 99 1 0 0 0) = shR (asks 0).sg (ofN 0) (ofM 0) (whN 0) (tgN 0) (asks 0).lo (asks 0).hi := by simp [asks, ofN, ofM, whN, tgN]
   rw [← e]; exact of_0 w
 · have e : (shR false 99 99 19 14 0 0) = shR (asks 1).sg (ofN 1) (ofM 1) (whN 1) (tgN 1) (asks 1).lo (asks 1).hi := by simp [asks, ofN, ofM, whN, tgN]
   rw [← e]; exact of_1 w
 · have e : (shR false 99 99 19 4 0 0) = shR (asks 2).sg (ofN 2) (ofM 2) (whN 2) (tgN 2) (asks 2).lo (asks 2).hi := by simp [asks, ofN, ofM, whN, tgN]
   rw [← e]; exact of_2 w
 · have e : (shR false 99 99 19 4 0 0) = shR (asks 3).sg (ofN 3) (ofM 3) (whN 3) (tgN 3) (asks 3).lo (asks 3).hi := by simp [asks, ofN, ofM, whN, tgN]
   rw [← e]; exact of_3 w
 · have e : (shR false 99 99 19 4 0 0) = shR (asks 4).sg (ofN 4) (ofM 4) (whN 4) (tgN 4) (asks 4).lo (asks 4).hi := by simp [asks, ofN, ofM, whN, tgN]
   rw [← e]; exact of_4 w
 · have e : (shR false 99 99 19 4 0 0) = shR (asks 5).sg (ofN 5) (ofM 5) (whN 5) (tgN 5) (asks 5).lo (asks 5).hi := by simp [asks, ofN, ofM, whN, tgN]
   rw [← e]; exact of_5 w
 · have e : (shR false 99 99 8 34 0 0) = shR (asks 6).sg (ofN 6) (ofM 6) (whN 6) (tgN 6) (asks 6).lo (asks 6).hi := by simp [asks, ofN, ofM, whN, tgN]
   rw [← e]; exact of_6 w
 · have e : (shR false 99 99 8 34 0 0) = shR (asks 7).sg (ofN 7) (ofM 7) (whN 7) (tgN 7) (asks 7).lo (asks 7).hi := by simp [asks, ofN, ofM, whN, tgN]
   rw [← e]; exact of_7 w
 · have e : (shR false 99 99 8 34 0 0) = shR (asks 8).sg (ofN 8) (ofM 8) (whN 8) (tgN 8) (asks 8).lo (asks 8).hi := by simp [asks, ofN, ofM, whN, tgN]
   rw [← e]; exact of_8 w
 · have e : (shR false 99 99 0 16 0 0) = shR (asks 9).sg (ofN 9) (ofM 9) (whN 9) (tgN 9) (asks 9).lo (asks 9).hi := by simp [asks, ofN, ofM, whN, tgN]
   rw [← e]; exact of_9 w
 · have e : (shR true 99 99 8 34 0 0) = shR (asks 10).sg (ofN 10) (ofM 10) (whN 10) (tgN 10) (asks 10).lo (asks 10).hi := by simp [asks, ofN, ofM, whN, tgN]
   rw [← e]; exact ygf w
 · have e : (shR false 99 99 8 34 0 0) = shR (asks 11).sg (ofN 11) (ofM 11) (whN 11) (tgN 11) (asks 11).lo (asks 11).hi := by simp [asks, ofN, ofM, whN, tgN]
   rw [← e]; exact ygg w
 · have e : (shR false 99 99 8 34 0 0) = shR (asks 12).sg (ofN 12) (ofM 12) (whN 12) (tgN 12) (asks 12).lo (asks 12).hi := by simp [asks, ofN, ofM, whN, tgN]
   rw [← e]; exact ygh w
 · have e : (shR false 99 99 8 34 0 0) = shR (asks 13).sg (ofN 13) (ofM 13) (whN 13) (tgN 13) (asks 13).lo (asks 13).hi := by simp [asks, ofN, ofM, whN, tgN]
   rw [← e]; exact ygi w
 · have e : (shR false 99 99 19 4 0 0) = shR (asks 14).sg (ofN 14) (ofM 14) (whN 14) (tgN 14) (asks 14).lo (asks 14).hi := by simp [asks, ofN, ofM, whN, tgN]
   rw [← e]; exact ygj w
 · have e : (shR false 99 5 19 4 0 0) = shR (asks 15).sg (ofN 15) (ofM 15) (whN 15) (tgN 15) (asks 15).lo (asks 15).hi := by simp [asks, ofN, ofM, whN, tgN]
   rw [← e]; exact ygk w
 · have e : (shR false 99 99 19 4 0 0) = shR (asks 16).sg (ofN 16) (ofM 16) (whN 16) (tgN 16) (asks 16).lo (asks 16).hi := by simp [asks, ofN, ofM, whN, tgN]
   rw [← e]; exact ygl w
 · have e : (shR false 99 99 19 4 0 0) = shR (asks 17).sg (ofN 17) (ofM 17) (whN 17) (tgN 17) (asks 17).lo (asks 17).hi := by simp [asks, ofN, ofM, whN, tgN]
   rw [← e]; exact ygm w
 · have e : (shR false 99 99 19 4 0 0) = shR (asks 18).sg (ofN 18) (ofM 18) (whN 18) (tgN 18) (asks 18).lo (asks 18).hi := by simp [asks, ofN, ofM, whN, tgN]
   rw [← e]; exact ygn w
 · have e : (shR false 99 99 19 4 0 0) = shR (asks 19).sg (ofN 19) (ofM 19) (whN 19) (tgN 19) (asks 19).lo (asks 19).hi := by simp [asks, ofN, ofM, whN, tgN]
   rw [← e]; exact ygo w
 · have e : (shR false 3 99 1 0 1 1) = shR (asks 20).sg (ofN 20) (ofM 20) (whN 20) (tgN 20) (asks 20).lo (asks 20).hi := by simp [asks, ofN, ofM, whN, tgN]
   rw [← e]; exact ybq w
 · have e : (shR false 99 99 1 0 1 8) = shR (asks 21).sg (ofN 21) (ofM 21) (whN 21) (tgN 21) (asks 21).lo (asks 21).hi := by simp [asks, ofN, ofM, whN, tgN]
   rw [← e]; exact ygp w
 · have e : (shR false 2 99 1 0 1 2) = shR (asks 22).sg (ofN 22) (ofM 22) (whN 22) (tgN 22) (asks 22).lo (asks 22).hi := by simp [asks, ofN, ofM, whN, tgN]
   rw [← e]; exact ygq w
 · have e : (shR false 99 99 8 34 0 0) = shR (asks 23).sg (ofN 23) (ofM 23) (whN 23) (tgN 23) (asks 23).lo (asks 23).hi := by simp [asks, ofN, ofM, whN, tgN]
   rw [← e]; exact ygr w
 · have e : (shR true 99 99 8 34 0 0) = shR (asks 24).sg (ofN 24) (ofM 24) (whN 24) (tgN 24) (asks 24).lo (asks 24).hi := by simp [asks, ofN, ofM, whN, tgN]
   rw [← e]; exact ygs w
 · have e : (shR false 99 99 8 34 0 0) = shR (asks 25).sg (ofN 25) (ofM 25) (whN 25) (tgN 25) (asks 25).lo (asks 25).hi := by simp [asks, ofN, ofM, whN, tgN]
   rw [← e]; exact ygt w
 · have e : (shR false 99 99 19 4 0 0) = shR (asks op).sg (ofN op) (ofM op) (whN op) (tgN op) (asks op).lo (asks op).hi := by
    have c0 : op ≠ 0 := by omega
    have c1 : op ≠ 1 := by omega
    have c6 : op ≠ 6 := by omega
    have c7 : op ≠ 7 := by omega
    have c8 : op ≠ 8 := by omega
    have c9 : op ≠ 9 := by omega
    have c10 : op ≠ 10 := by omega
    have c11 : op ≠ 11 := by omega
    have c12 : op ≠ 12 := by omega
    have c13 : op ≠ 13 := by omega
    have c14 : op ≠ 14 := by omega
    have c15 : op ≠ 15 := by omega
    have c20 : op ≠ 20 := by omega
    have c21 : op ≠ 21 := by omega
    have c22 : op ≠ 22 := by omega
    have c23 : op ≠ 23 := by omega
    have c24 : op ≠ 24 := by omega
    have c25 : op ≠ 25 := by omega
    simp [asks, ofN, ofM, whN, tgN, c0, c1, c6, c7, c8, c9, c10, c11, c12, c13, c14, c15, c20, c21, c22, c23, c24, c25]
   rw [← e]; exact z1z w op h
end Go.Proofs.YthfalocligkamaaGreatDoor
