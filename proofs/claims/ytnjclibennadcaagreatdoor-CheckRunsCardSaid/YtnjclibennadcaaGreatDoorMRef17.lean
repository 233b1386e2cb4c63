/-
  The document's shapes: cards of objects, creatures, statics.
-/
import Derived.Test.YtnjclibennadcaaGreatDoorMRef08e
namespace Go.Proofs.YtnjclibennadcaaGreatDoor
open Go Go.RowKit

/-- The document's table, as it is walked elsewhere. -/
def Table08 : Prop := ∀ (w : World) (n : Nat), n < 120 → Calls Tryz.prog 96 #[.int .i64 (n : Int)] w fun r w' => Card08 w w' r (cardF n)
set_option maxRecDepth 100000 in
set_option maxHeartbeats 1000000 in
theorem k17_any (T8 : Table08) (S : St) (V : SV) (w : World) (R : RepSt w V S) (hR : Right S) (id : Nat) (hid : id < S.objs.length) :
    Calls Tryz.prog 133 #[.agg (stA V S.num), .int .i64 (id : Int)] w fun e w' => ∃ c : CdV, e = .returned (.agg c.arr) ∧ CardOk w' w.heap.size c (kindN S id) ∧ Grow w w' := by
  have hN := R.objs.len
  obtain ⟨hob, how, hosz, hosub, hocell⟩ := R.objs.at (by omega) id hid
  obtain ⟨k0, k1⟩ := hR.card hid
  obtain ⟨n, hn⟩ := Int.eq_ofNat_of_zero_le k0
  have hn120 : n < 120 := by omega
  have HK : Hid (kindN S id = cardN n) := by rw [Hid, kindN, hn, Int.toNat_natCast]
  have hc0 := hocell 0 (by omega)
  rw [Nat.add_zero, hn] at hc0
  have HT := Lib.hid T8
  clear hocell hosub hosz how R hR k0 k1 hn T8
  go_enter Tryz.func133, Tryz.ntmps133
  go_wp2_with (go_at_call 96; refine (HT.out _ n hn120).mono ?_; rintro e' w' ⟨c, rfl, hc, nx, rfl⟩; have HC := Lib.hid (hc.ok hn120); clear hc)
  refine bodyPost_ret (results_Card rfl _ _ _ rfl ?_) rfl ?_
  · go_simp
  · refine ⟨c, by go_simp, ?_, grI⟩
    rw [HK.out]
    exact HC.out.to (b := w.heap.size + 1) grI (Off.plus (Off.base _ _ _ _ (alloc_size' _ _).symm) _) (by first | (go_simp; done) | (go_simp; omega) | (simp only [Sl.b]; go_simp; omega)) (by first | (go_simp; done) | (go_simp; omega) | (simp only [Sl.b]; go_simp; omega)) grI
set_option maxRecDepth 100000 in
set_option maxHeartbeats 1000000 in
theorem is17_any (T8 : Table08) (S : St) (V : SV) (w : World) (R : RepSt w V S) (hR : Right S) (id : Int) :
    Calls Tryz.prog 132 #[.agg (stA V S.num), .int .i64 id] w fun e w' => e = .returned (.bool (creatureB S id)) ∧ Grow w w' := by
  have hN := R.objs.len
  have HR := Lib.hid R
  have HH := Lib.hid hR
  have HT := Lib.hid T8
  by_cases h0 : id < 0
  · have HB : Hid (creatureB S id = false) := by rw [Hid, creatureB]; simp; omega
    clear R hR T8
    go_enter Tryz.func132, Tryz.ntmps132
    go_wp2_with fail
    go_ret
    exact ⟨ret_bool HB.out.symm, grI⟩
  · by_cases h1 : (S.objs.length : Int) ≤ id
    · have HB : Hid (creatureB S id = false) := by rw [Hid, creatureB]; simp; omega
      clear R hR T8
      go_enter Tryz.func132, Tryz.ntmps132
      go_wp2_with fail
      go_ret
      exact ⟨ret_bool HB.out.symm, grI⟩
    · obtain ⟨d, rfl⟩ := Int.eq_ofNat_of_zero_le (show 0 ≤ id by omega)
      have hd : d < S.objs.length := by omega
      have hd' : (d : Int) < S.objs.length := by omega
      obtain ⟨hob, how, hosz, hosub, hocell⟩ := R.objs.at (by omega) d hd
      have hc3 := hocell 3 (by omega)
      have HB : Hid (creatureB S d = ((gt (rowAt S.objs d) 3 == 8) && ((kindN S d).kind == 1))) := by rw [Hid, creatureB]; simp [hd]
      clear hocell hosub R hR h1 h0 T8
      generalize rowAt S.objs d = row at *
      by_cases h3 : gt row 3 = 8
      · have HB2 : Hid (creatureB S d = ((kindN S d).kind == 1)) := by rw [Hid, HB.out]; simp [h3]
        go_enter Tryz.func132, Tryz.ntmps132
        go_wp2_with (go_at_call 133; refine (k17_any HT.out S V _ (HR.out.grow grI) HH.out d hd).mono ?_; rintro e' w' ⟨c, rfl, hc, nx, rfl⟩; have hck := hc.kind; clear hc)
        go_ret
        exact ⟨ret_bool HB2.out.symm, grI⟩
      · have HB2 : Hid (creatureB S d = false) := by rw [Hid, HB.out]; simp [h3]
        go_enter Tryz.func132, Tryz.ntmps132
        go_wp2_with fail
        go_ret
        exact ⟨ret_bool HB2.out.symm, grI⟩
/-! ### Statics -/
/-- The document's static: its cells. -/
structure S6 where
  src : Int
  ef : EfV
def S6.arr (a : S6) : Array Value := #[I a.src, I a.ef.op, I a.ef.n, I a.ef.m, I a.ef.who, a.ef.subs.val]
@[go_sem] theorem S6.size (a : S6) : a.arr.size = 6 := rfl
@[go_sem] theorem S6.one (a : S6) : oneCells a.arr = true := by
  have h := val_oneCell a.ef.subs
  simp only [oneCells, S6.arr, List.all_toArray, List.all_cons, List.all_nil, h, Bool.and_true]
  rfl
@[go_sem] theorem S6.all (a : S6) : sub a.arr 0 6 = a.arr := rfl
@[go_sem] theorem S6.get0 (c : S6) : c.arr[0]? = some (I c.src) := rfl
@[go_sem] theorem S6.get0' (c : S6) (h : 0 < c.arr.size) : c.arr[0]'h = I c.src := rfl
@[go_sem] theorem S6.get2 (c : S6) : c.arr[2]? = some (I c.ef.n) := rfl
@[go_sem] theorem S6.get2' (c : S6) (h : 2 < c.arr.size) : c.arr[2]'h = I c.ef.n := rfl
@[go_sem] theorem S6.get5 (c : S6) : c.arr[5]? = some c.ef.subs.val := rfl
@[go_sem] theorem S6.get5' (c : S6) (h : 5 < c.arr.size) : c.arr[5]'h = c.ef.subs.val := rfl
@[go_sem ↓] theorem load_Static17 (ρ : Operand → Value) (dst : Option Tmp) (x : Operand) (ty : TypeId) (pos : String) (after : Array Edge) (guard : Option (Nat × Bool)) :
    execOp ρ { dst, op := .load 157 x, type := ty, pos, after, guard } = ldRow 157 (ρ x) := rfl
@[go_sem ↓] theorem store_Static17 (ρ : Operand → Value) (dst : Option Tmp) (x y : Operand) (ty : TypeId) (pos : String) (after : Array Edge) (guard : Option (Nat × Bool)) :
    execOp ρ { dst, op := .store 157 x y, type := ty, pos, after, guard } = stRow 157 (ρ x) (ρ y) := rfl
@[go_sem] theorem run_load_Static17 (w : World) (b o : Nat) (h : o + 6 ≤ (w.blk b).size) : (ldRow 157 (.pointer (some ⟨b, o, none⟩))).run Tryz.prog w = .ok (.value (.agg (sub (w.blk b) o 6))) w :=
  run_ldSub w b o 157 6 (by kernel_rfl) (by kernel_rfl) h (by omega)
@[go_sem] theorem run_store_Static17 (w : World) (b : Nat) (cs : Array Value) (h : (w.blk b).size = 6) (hc : cs.size = 6) (h1 : oneCells cs = true) (hf : w.free b = true) : (stRow 157 (.pointer (some ⟨b, 0, none⟩)) (.agg cs)).run Tryz.prog w = .ok .skip (w.setRow b cs) :=
  run_stRow w b 157 6 _ (by kernel_rfl) h hc (by omega) hf h1
@[go_sem ↓] theorem build_static17 (ρ : Operand → Value) (dst : Option Tmp) (parts : Array (Nat × Operand)) (ty : TypeId) (pos : String) (after : Array Edge) (guard : Option (Nat × Bool)) :
    execOp ρ { dst, op := .build 157 parts, type := ty, pos, after, guard } = bdRow 157 (parts.map fun (i, x) => (i, ρ x)) := rfl
@[go_sem] theorem cells_static17 (t : TypeId) (fr : Nat × Nat) : Obj.cells #[Value.int .i64 0, Value.int .i64 0, Value.int .i64 0, Value.int .i64 0, Value.int .i64 0, .slice none 0 0] t fr = .cells (S6.arr ⟨0, ⟨0, 0, 0, 0, .nil⟩⟩) t fr := rfl
@[go_sem] theorem run_build_static17 (w : World) (a : Int) (e : EfV) : (bdRow 157 #[(0, .int .i64 a), (1, .agg e.arr)]).run Tryz.prog w = .ok (.value (.agg (S6.arr ⟨a, e⟩))) w := by
  obtain ⟨op, n, m, who, s⟩ := e; cases s <;> kernel_rfl
/-- A static of the document's list stands so in memory. -/
def StIs (w : World) (n : Nat) (x : S6) (t : StN) : Prop := x.src = t.src ∧ x.ef.n = t.grp ∧ n ≤ x.ef.subs.b ∧ ∃ who s, RowsV w x.ef.subs 5 [EfV.arr ⟨t.op, t.n, t.m, who, s⟩]
theorem StIs.grow {w w' : World} {n : Nat} {x : S6} {t : StN} (h : StIs w n x t) (g : Grow w w') : StIs w' n x t := by
  obtain ⟨h1, h2, h3, who, s, h4⟩ := h
  exact ⟨h1, h2, h3, who, s, h4.grow g⟩
inductive StsIs (w : World) (n : Nat) : List S6 → List StN → Prop
  | nil : StsIs w n [] []
  | snoc {l : List S6} {m : List StN} {x : S6} {t : StN} : StsIs w n l m → StIs w n x t → StsIs w n (l ++ [x]) (m ++ [t])
theorem StsIs.grow {w w' : World} {n : Nat} {l : List S6} {m : List StN} (h : StsIs w n l m) (g : Grow w w') : StsIs w' n l m := by
  induction h with
  | nil => exact .nil
  | snoc _ h ih => exact .snoc ih (h.grow g)
theorem StIs.kept {own : Nat → Prop} {w w' : World} {n : Nat} {x : S6} {t : StN} (h : StIs w n x t) (g : Kept own w w') (ho : ∀ b, n ≤ b → b < w.heap.size → ¬ own b) : StIs w' n x t := by
  obtain ⟨h1, h2, h3, who, s, h4⟩ := h
  have hb := (h4.at (by decide) (i := 0) (x := _) rfl).1
  exact ⟨h1, h2, h3, who, s, h4.kept g (ho _ h3 hb)⟩
theorem AbOk.kept {own : Nat → Prop} {w w' : World} {n : Nat} {a : AbV} {d : AbN} (h : AbOk w n a d) (g : Kept own w w') (ho : ∀ b, n ≤ b → b < w.heap.size → ¬ own b) : AbOk w' n a d := by
  refine ⟨h.1, fun h5 => ?_⟩
  obtain ⟨h1, h2, who, s, R⟩ := h.2 h5
  have hb := (R.at (by decide) (i := 0) (x := _) rfl).1
  exact ⟨h1, h2, who, s, R.kept g (ho _ h2 hb)⟩
theorem AbsOk.kept {own : Nat → Prop} {w w' : World} {n : Nat} {l : List AbV} {m : List AbN} (h : AbsOk w n l m) (g : Kept own w w') (ho : ∀ b, n ≤ b → b < w.heap.size → ¬ own b) : AbsOk w' n l m := by
  induction h with
  | nil => exact .nil
  | cons h _ ih => exact .cons (h.kept g ho) ih
theorem CardOk.kept {own : Nat → Prop} {w w' : World} {n : Nat} {c : CdV} {d : CardN} (h : CardOk w n c d) (g : Kept own w w') (ho : ∀ b, n ≤ b → b < w.heap.size → ¬ own b) : CardOk w' n c d := by
  obtain ⟨l, h1, h2, h3⟩ := h.abs
  refine ⟨h.kind, h.pw, h.tf, h.says, l, ?_, h2, h3.kept g ho⟩
  cases l with
  | nil => exact ⟨h1.len, h1.cap, fun x hx => by simp at hx, fun i j x hx => by simp at hx⟩
  | cons a l =>
    have hb := (h1.at (by decide) (i := 0) (x := a.arr) rfl).1
    rcases h2 with h2 | h2
    · cases h2
    · exact h1.kept g (ho _ h2 hb)
/-- An ability's static, if it is one. -/
def abS (S : St) (d : Nat) (m : List AbN) (k : Nat) : List StN := (usesTo m 5 k).map (statOf S d)
theorem abS_succ (S : St) (d : Nat) (k : Nat) : abS S d (kindN S d).abs (k + 1) = abS S d (kindN S d).abs k ++ (if (((kindN S d).abs.getD k ⟨0, 0, 0, 0, 0⟩).wh == 5) = true then [statOf S d k] else []) := by
  unfold abS
  rw [usesTo_succ, List.map_append]
  congr 1
  split <;> rfl
theorem abS_all (S : St) (d : Nat) : abS S d (kindN S d).abs (kindN S d).abs.length = statsOf S d := by
  unfold abS statsOf usesN
  rw [Int.toNat_natCast]
theorem CardOk.abK {own : Nat → Prop} {w wr : World} {n : Nat} {c : CdV} {d : CardN} (h : CardOk w n c d) (hk : Kept own w wr) (ho : ∀ b, n ≤ b → b < w.heap.size → ¬ own b) {i : Nat} (hi : i < d.abs.length) :
    ∃ a : AbV, c.abs.n = d.abs.length ∧ n ≤ c.abs.b ∧ c.abs.b < w.heap.size ∧ c.abs.o + i * 14 + 14 ≤ (wr.blk c.abs.b).size ∧ sub (wr.blk c.abs.b) (c.abs.o + i * 14) 14 = a.arr ∧ AbOk w n a (d.abs.getD i ⟨0, 0, 0, 0, 0⟩) ∧ ((d.abs.getD i ⟨0, 0, 0, 0, 0⟩).wh = 5 → a.ef.subs.b < w.heap.size) := by
  obtain ⟨a, q1, q2, q3, q4, _, q5⟩ := h.ab hi
  have hb : n ≤ c.abs.b := by
    obtain ⟨l, l1, l2, _⟩ := h.abs
    rcases l2 with rfl | l2
    · have := l1.len; simp at this; omega
    · exact l2
  have e := hk.blk c.abs.b q2 (ho _ hb q2)
  refine ⟨a, q1, hb, q2, by rw [e]; exact q3, by rw [e]; exact q4, q5, fun h5 => ?_⟩
  obtain ⟨_, _, who, s, R⟩ := q5.2 h5
  exact (R.at (by decide) (i := 0) (x := _) rfl).1
theorem StsIs.kept {own : Nat → Prop} {w w' : World} {n : Nat} {l : List S6} {m : List StN} (h : StsIs w n l m) (g : Kept own w w') (ho : ∀ x ∈ l, ¬ own x.ef.subs.b) : StsIs w' n l m := by
  induction h with
  | nil => exact .nil
  | snoc _ h ih =>
    refine .snoc (ih (fun x hx => ho x (by simp [hx]))) ?_
    obtain ⟨h1, h2, h3, who, s, h4⟩ := h
    exact ⟨h1, h2, h3, who, s, h4.kept g (ho _ (by simp))⟩
/-- The statics' effects stand in memory. -/
theorem StsIs.lt {w : World} {n : Nat} {l : List S6} {m : List StN} (h : StsIs w n l m) : ∀ x ∈ l, x.ef.subs.b < w.heap.size := by
  induction h with
  | nil => intro x hx; cases hx
  | snoc _ h ih =>
    intro x hx
    rcases List.mem_append.1 hx with hx | hx
    · exact ih x hx
    · obtain ⟨_, _, _, who, s, h4⟩ := h
      obtain rfl : x = _ := by simpa using hx
      exact (h4.at (by decide) (i := 0) (x := _) rfl).1
@[go_sem] theorem AbV.sub9 (a : AbV) : sub a.arr 9 5 = a.ef.arr := rfl
@[go_sem ↓] theorem bslice_statics17 (ρ : Operand → Value) (dst : Option Tmp) (n : Nat) (parts : Array (Nat × Operand)) (ty : TypeId) (pos : String) (after : Array Edge) (guard : Option (Nat × Bool)) :
    execOp ρ { dst, op := .buildSlice 154 n parts, type := ty, pos, after, guard } = bsRow 154 n (parts.map fun (i, x) => (i, ρ x)) := rfl
@[go_sem] theorem run_bs_static17 (w : World) (a : S6) : (bsRow 154 1 #[(0, .agg a.arr)]).run Tryz.prog w = .ok (.value (.slice (some ⟨w.heap.size, 0, none⟩) 1 1)) (w.alloc (.cells a.arr 157)) := by
  obtain ⟨i, op, n, m, who, s⟩ := a; cases s <;> kernel_rfl
@[go_sem] theorem run_bs_static17_0 (w : World) : (bsRow 154 0 #[]).run Tryz.prog w = .ok (.value (.slice (some ⟨w.heap.size, 0, none⟩) 0 0)) (w.alloc (.cells #[] 157)) := by kernel_rfl
@[go_sem] theorem field_card7 (w : World) (c : CdV) : (Instr.field 73 (.agg c.arr) 7).run Tryz.prog w = .ok c.abs.val w := by
  obtain ⟨a, b, f, c0, c1, c2, c3, c4, c5, p, t, s, l⟩ := c; cases l <;> kernel_rfl
set_option maxRecDepth 100000 in
set_option maxHeartbeats 4000000 in
theorem statics17_any (T8 : Table08) (S : St) (V : SV) (w : World) (R : RepSt w V S) (hR : Right S) (hS : Small S) :
    Calls Tryz.prog 134 #[.agg (stA V S.num)] w fun e w' => ∃ (s : Sl) (l : List S6), e = .returned s.val ∧ RowsV w' s 6 (l.map S6.arr) ∧ StsIs w' (w.heap.size + 1) l (staticsN S) ∧ Grow w w' := by
  have hN := R.objs.len
  have hL := (R.list 8 (by decide)).len
  have hSL := hS.list 8 (by decide)
  have HR := Lib.hid R
  have HH := Lib.hid hR
  have HT := Lib.hid T8
  clear R hR hS T8
  go_enter Tryz.func134, Tryz.ntmps134
  go_wp2_with fail
  go_loopw [3, 13] (fun v i wr => ∃ (k : Nat) (s : Sl) (l : List S6), k ≤ (S.list 8).length ∧ i = .int .i64 k ∧ v = s.val ∧ Hid (Made (w.alloc (.cells (stA V S.num) 29)).heap.size wr s 6 (flatV (l.map S6.arr)) ∧ StsIs wr (w.heap.size + 1) l (stTo S k) ∧ (∀ x ∈ l, ¬ s.owns x.ef.subs.b)) ∧ s.n ≤ 2 * k ∧ Grow (w.alloc (.cells (stA V S.num) 29)) wr) (fun _ i _ => (S.list 8).length - (intOf i).toNat)
  case atStart =>
    refine ⟨0, .mk (w.heap.size + 1) 0 0 0, [], by omega, rfl, rfl, ⟨⟨⟨rfl, Nat.le_refl _, fun j u hu => by simp [flatV] at hu⟩, ⟨Nat.zero_le _, fun j hj => by simp [Sl.c] at hj⟩, fun b hb => ?_⟩, ?_, fun x hx => by cases hx⟩, Nat.le_refl _, grI⟩
    · obtain rfl : b = w.heap.size + 1 := hb
      exact ⟨by simp only [alloc_size']; omega, by simp only [alloc_size']; omega⟩
    · unfold stTo; rw [List.take_zero]; exact .nil
  case round =>
    obtain ⟨k, s, l, hk, rfl, rfl, HM, hsn, hG⟩ := hrel
    obtain ⟨x, rfl⟩ := hG
    by_cases hlt : k < (S.list 8).length
    · obtain ⟨hlb, hlc⟩ := (HR.out.list 8 (by decide)).at k hlt
      obtain ⟨o1, o2, _, _⟩ := HH.out.zon.ok 8 (by decide) (gt (S.list 8) k) (by rw [gt_eq _ _ hlt]; exact List.getElem_mem hlt)
      have HST := Lib.hid (stTo_succ S k hlt)
      generalize hid : gt (S.list 8) k = id at *
      obtain ⟨d, rfl⟩ := Int.eq_ofNat_of_zero_le o1
      have hd : d < S.objs.length := by omega
      have HID := Lib.hid hid
      clear hid o1 o2
      go_wp2_with (go_at_call 133; refine (k17_any HT.out S V _ (HR.out.grow grI) HH.out d hd).mono ?_; rintro e' w1 ⟨c, rfl, hc, hg1⟩; have HC := Lib.hid (And.intro hc hg1); clear hc hg1)
      have hcn : c.abs.n = (kindN S d).abs.length := by
        obtain ⟨la, l1, _, l2⟩ := HC.out.1.abs
        rw [l1.len, List.length_map, l2.get.1]
      have hm2 : (kindN S d).abs.length ≤ 2 := kind_abs S d
      have HCN := Lib.hid hcn
      have g1 : Grow (w.alloc (.cells (stA V S.num) 29)) w1 := (Grow.plus (Grow.refl _) x).trans HC.out.2
      have HG1 := Lib.hid g1
      clear g1 hcn
      go_loopw [3, 22] (fun v i wr => ∃ (j : Nat) (s : Sl) (l : List S6), j ≤ (kindN S d).abs.length ∧ i = .int .i64 j ∧ v = s.val ∧ Hid (Made (w.alloc (.cells (stA V S.num) 29)).heap.size wr s 6 (flatV (l.map S6.arr)) ∧ StsIs wr (w.heap.size + 1) l (stTo S k ++ abS S d (kindN S d).abs j) ∧ (∀ x ∈ l, ¬ s.owns x.ef.subs.b) ∧
        (∀ b, s.owns b → b < ((w.alloc (.cells (stA V S.num) 29)).plus x).heap.size ∨ w1.heap.size ≤ b) ∧ Kept (fun b => w.heap.size + 1 ≤ b ∧ (b < ((w.alloc (.cells (stA V S.num) 29)).plus x).heap.size ∨ w1.heap.size ≤ b)) w1 wr) ∧ s.n ≤ 2 * k + j ∧ Grow (w.alloc (.cells (stA V S.num) 29)) wr) (fun _ i _ => (kindN S d).abs.length - (intOf i).toNat)
      case atStart =>
        have g2 : Grow ((w.alloc (.cells (stA V S.num) 29)).plus x) w1 := HC.out.2
        refine ⟨0, s, l, by omega, rfl, rfl, ⟨HM.out.1.grow g2, ?_, HM.out.2.2, fun b hb => .inl (HM.out.1.own b hb).2, Kept.refl _ _⟩, by omega, HG1.out⟩
        have := HM.out.2.1.grow g2
        rw [show abS S d (kindN S d).abs 0 = [] from rfl, List.append_nil]
        exact this
      case round =>
        obtain ⟨j, s, l, hj, rfl, rfl, HM2, hsn2, hG⟩ := hrel
        obtain ⟨y, rfl⟩ := hG
        clear HM hsn
        by_cases hjt : j < (kindN S d).abs.length
        · obtain ⟨a, q1, q2, q3, q4, q5, q6, q7⟩ := HC.out.1.abK HM2.out.2.2.2.2 (fun b h1 h2 h3 => by omega) hjt
          have hsz1 := HC.out.2.size
          have hsz2 := HM2.out.2.2.2.2.size
          simp only [plus_size, alloc_size'] at q2 hsz1 hsz2
          have r1 : w.heap.size + 1 ≤ c.abs.b := by omega
          have r2 : ¬ c.abs.b < w.heap.size + 1 := by omega
          have r3 : c.abs.b < w.heap.size + 1 + y.objs.size := by omega
          have hin : (j : Int) < c.abs.n := by omega
          clear q1
          have hin' : (j : Int) < (kindN S d).abs.length := by omega
          have q4' : c.abs.o + j * 14 + 14 ≤ (blkFar (w.alloc (.cells (stA V S.num) 29)) y c.abs.b).size := q4
          have q5' : sub (blkFar (w.alloc (.cells (stA V S.num) 29)) y c.abs.b) (c.abs.o + j * 14) 14 = a.arr := q5
          have HS := Lib.hid (abS_succ S d j)
          have HQ := Lib.hid (And.intro q6 (And.intro q7 (And.intro q3 (And.intro hsz1 hsz2))))
          generalize hbn : (kindN S d).abs.getD j ⟨0, 0, 0, 0, 0⟩ = bn at *
          have hwh : a.wh = bn.wh := q6.1
          clear q4 q5 q6 q7 hsz1 hsz2
          cases h5 : (bn.wh == 5) with
          | false =>
            have h5' : ¬ a.wh = 5 := by rw [hwh]; simpa using h5
            rw [h5, if_neg (by simp)] at HS
            clear hwh
            go_wp2_with fail
            go_roundw
            case rel =>
              refine ⟨j + 1, s, l, by omega, by go_num, rfl, ⟨HM2.out.1.grow grI, ?_, HM2.out.2.2.1, HM2.out.2.2.2.1, HM2.out.2.2.2.2.alloc _⟩, by omega, grI⟩
              rw [HS.out, List.append_nil]
              exact HM2.out.2.1.grow grI
            case measure => simp [intOf]; omega
          | true =>
            have h5' : a.wh = 5 := by rw [hwh]; simpa using h5
            rw [h5, if_pos rfl] at HS
            clear hwh
            go_wp2_with ((at_builtin; refine wpList_made rfl _ _ 154 rfl 157 Tryz.t157 (.agg (S6.arr ⟨0, ⟨0, 0, 0, 0, .nil⟩⟩)) 6 64 Tryz.underlying154 (by kernel_rfl) (by kernel_rfl) (by kernel_rfl) (by kernel_rfl) (by omega) rfl (w.alloc (.cells (stA V S.num) 29)) s (.mk _ 0 1 1) (flatV (l.map S6.arr)) (flatV [S6.arr ⟨d, a.ef⟩]) rfl rfl (HM2.out.1.grow grI) grI (RowsV.one (x := S6.arr _) (by go_simp) (by go_simp) (by go_simp)).cells (flatV_one (fun x hx => by obtain ⟨a, _, rfl⟩ := List.mem_map.1 hx; exact S6.one a)) (flatV_one (by simp [S6.one])) (by show s.n + 1 ≤ 4194304; omega) ?_; intro s3 y3 c1 c2 c3 c4; have C := Lib.hid (And.intro c1 (And.intro c2 (And.intro c3 c4))); clear c1 c2 c3 c4))
            go_roundw
            case rel =>
              have hb3 : s3.n = s.n + 1 := C.out.2.2.1
              have gm : Grow ((w.alloc (.cells (stA V S.num) 29)).plus y) ((((w.alloc (.cells (stA V S.num) 29)).plus y).alloc (.cells a.arr 67)).alloc (.cells (S6.arr ⟨d, a.ef⟩) 157)) := grI
              have hst := (HM2.out.2.1.grow gm).kept C.out.2.1 (fun x hx => HM2.out.2.2.1 x hx)
              obtain ⟨v1, v2, who, s', v3⟩ := HQ.out.1.2 (by simpa using h5)
              have v4 := HQ.out.2.1 (by simpa using h5)
              have hxs : ((w.alloc (.cells (stA V S.num) 29)).plus x).heap.size ≤ a.ef.subs.b := v2
              have ns : ¬ s.owns a.ef.subs.b := fun hh => by rcases HM2.out.2.2.2.1 _ hh with hh | hh <;> omega
              have v5 := ((v3.kept HM2.out.2.2.2.2 (fun hh => by omega)).grow gm).kept C.out.2.1 ns
              have hso : statOf S d (j : Int) = ⟨d, gt (rowAt S.objs d) 2, bn.grp, bn.op, bn.n, bn.m⟩ := by rw [statOf, Int.toNat_natCast, hbn]
              have hsz2 := HM2.out.2.2.2.2.size
              have hsm := gm.size
              refine ⟨j + 1, s3, l ++ [⟨d, a.ef⟩], by omega, by go_num, rfl, ⟨by rw [List.map_append, flatV_append]; exact C.out.1, ?_, fun z hz hh => ?_, fun b hh => ?_, ?_⟩, by omega, grI⟩
              · rw [HS.out, hso, ← List.append_assoc]
                refine .snoc hst ⟨rfl, v1, ?_, who, s', v5⟩
                simp only [plus_size, alloc_size'] at hxs
                show w.heap.size + 1 ≤ a.ef.subs.b
                omega
              · rcases List.mem_append.1 hz with hz | hz
                · have h1 := HM2.out.2.1.lt z hz
                  rcases C.out.2.2.2 _ hh with h2 | h2
                  · exact HM2.out.2.2.1 z hz h2
                  · omega
                · obtain rfl : z = ⟨d, a.ef⟩ := by simpa using hz
                  rcases C.out.2.2.2 _ hh with h2 | h2
                  · exact ns h2
                  · have h3 : ((((w.alloc (.cells (stA V S.num) 29)).plus y).alloc (.cells a.arr 67)).alloc (.cells (S6.arr ⟨d, a.ef⟩) 157)).heap.size ≤ a.ef.subs.b := h2
                    omega
              · rcases C.out.2.2.2 _ hh with h2 | h2
                · exact HM2.out.2.2.2.1 b h2
                · exact .inr (by omega)
              · exact (HM2.out.2.2.2.2.trans (o2 := fun _ => False) (Grow.kept _ gm) (fun _ _ h => h.elim)).trans (o2 := s.owns) C.out.2.1 (fun b _ hb => ⟨by have := (HM2.out.1.own b hb).1; simp only [alloc_size'] at this; exact this, HM2.out.2.2.2.1 b hb⟩)
            case measure => simp [intOf]; omega
        · have hnn : ¬ (j : Int) < c.abs.n := by have := HCN.out; omega
          go_wp2_with fail
          go_roundw
          case rel =>
            refine ⟨k + 1, s, l, by omega, by go_num, rfl, ⟨HM2.out.1.grow grI, ?_, HM2.out.2.2.1⟩, by omega, grI⟩
            have := HM2.out.2.1.grow (w' := (w.alloc (.cells (stA V S.num) 29)).plus y) (Grow.refl _)
            rw [show j = (kindN S d).abs.length by omega, abS_all] at this
            rw [HST.out]
            exact this
          case measure => simp [intOf]; omega
    · go_wp2_with fail
      go_ret
      refine ⟨s, l, rfl, Cells.rowsV (HM.out.1.cells.grow grI) (by decide) (fun x hx => by obtain ⟨a, _, rfl⟩ := List.mem_map.1 hx; exact S6.size a), ?_, grI⟩
      have := HM.out.2.1.grow (w' := (w.alloc (.cells (stA V S.num) 29)).plus x) (Grow.refl _)
      rw [stTo, List.take_of_length_le (by omega)] at this
      exact this
end Go.Proofs.YtnjclibennadcaaGreatDoor
