/-
  The document's shapes: cards of objects, creatures, statics.
  The document's shapes: who is of a static's group, and how strong a creature is.
  The document's shape of a creature is that of the program: three passes over the statics, and one.
-/
import Derived.Test.YtnjdkkgkaafdbaaGreatDoorMRef08c
import Derived.Test.YtnjdkkgkaafdbaaGreatDoorMMix
namespace Go.Proofs.YtnjdkkgkaafdbaaGreatDoor
open Go Go.RowKit

/-- The document's table, as it is walked elsewhere. -/
def Table08 : Prop := ∀ (w : World) (n : Nat), n < 120 → Calls Tryz.prog 111 #[.int .i64 (n : Int)] w fun r w' => Card08 w w' r (cardF n)
set_option maxRecDepth 100000 in
set_option maxHeartbeats 1000000 in
theorem k17_any (T8 : Table08) (S : St) (V : SV) (w : World) (R : RepSt w V S) (hR : Right S) (id : Nat) (hid : id < S.objs.length) :
    Calls Tryz.prog 78 #[.agg (stA V S.num), .int .i64 (id : Int)] w fun e w' => ∃ c : CdV, e = .returned (.agg c.arr) ∧ CardOk w' w.heap.size c (kindN S id) ∧ Grow w w' := by
  have hN := R.objs.len
  obtain ⟨hob, how, hosz, hosub, hocell⟩ := R.objs.at (by omega) id hid
  obtain ⟨k0, k1⟩ := hR.card hid
  obtain ⟨n, hn⟩ := Int.eq_ofNat_of_zero_le k0
  have hn120 : n < 120 := by omega
  have HK : Hid (kindN S id = cardN n) := by rw [Hid, kindN, hn, Int.toNat_natCast]
  have hc0 := hocell 0 (by omega)
  rw [Nat.add_zero, hn] at hc0
  have HT := Lib.hid T8
  clear hocell hosub hosz how R hR k0 k1 hn T8
  go_enter Tryz.func78, Tryz.ntmps78
  go_wp2_with (go_at_call 111; refine (HT.out _ n hn120).mono ?_; rintro e' w' ⟨c, rfl, hc, nx, rfl⟩; have HC := Lib.hid (hc.ok hn120); clear hc)
  refine bodyPost_ret (results_Card rfl _ _ _ rfl ?_) rfl ?_
  · go_simp
  · refine ⟨c, by go_simp, ?_, grI⟩
    rw [HK.out]
    exact HC.out.to (b := w.heap.size + 1) grI (Off.plus (Off.base _ _ _ _ (alloc_size' _ _).symm) _) (by first | (go_simp; done) | (go_simp; omega) | (simp only [Sl.b]; go_simp; omega)) (by first | (go_simp; done) | (go_simp; omega) | (simp only [Sl.b]; go_simp; omega)) grI
set_option maxRecDepth 100000 in
set_option maxHeartbeats 1000000 in
theorem is17_any (T8 : Table08) (S : St) (V : SV) (w : World) (R : RepSt w V S) (hR : Right S) (id : Int) :
    Calls Tryz.prog 77 #[.agg (stA V S.num), .int .i64 id] w fun e w' => e = .returned (.bool (creatureB S id)) ∧ Grow w w' := by
  have hN := R.objs.len
  have HR := Lib.hid R
  have HH := Lib.hid hR
  have HT := Lib.hid T8
  by_cases h0 : id < 0
  · have HB : Hid (creatureB S id = false) := by rw [Hid, creatureB]; simp; omega
    clear R hR T8
    go_enter Tryz.func77, Tryz.ntmps77
    go_wp2_with fail
    go_ret
    exact ⟨ret_bool HB.out.symm, grI⟩
  · by_cases h1 : (S.objs.length : Int) ≤ id
    · have HB : Hid (creatureB S id = false) := by rw [Hid, creatureB]; simp; omega
      clear R hR T8
      go_enter Tryz.func77, Tryz.ntmps77
      go_wp2_with fail
      go_ret
      exact ⟨ret_bool HB.out.symm, grI⟩
    · obtain ⟨d, rfl⟩ := Int.eq_ofNat_of_zero_le (show 0 ≤ id by omega)
      have hd : d < S.objs.length := by omega
      have hd' : (d : Int) < S.objs.length := by omega
      obtain ⟨hob, how, hosz, hosub, hocell⟩ := R.objs.at (by omega) d hd
      have hc3 := hocell 3 (by omega)
      have HB : Hid (creatureB S d = ((gt (rowAt S.objs d) 3 == 8) && ((kindN S d).kind == 1))) := by rw [Hid, creatureB]; simp [hd]
      clear hocell hosub R hR h1 h0 T8
      generalize rowAt S.objs d = row at *
      by_cases h3 : gt row 3 = 8
      · have HB2 : Hid (creatureB S d = ((kindN S d).kind == 1)) := by rw [Hid, HB.out]; simp [h3]
        go_enter Tryz.func77, Tryz.ntmps77
        go_wp2_with (go_at_call 78; refine (k17_any HT.out S V _ (HR.out.grow grI) HH.out d hd).mono ?_; rintro e' w' ⟨c, rfl, hc, nx, rfl⟩; have hck := hc.kind; clear hc)
        go_ret
        exact ⟨ret_bool HB2.out.symm, grI⟩
      · have HB2 : Hid (creatureB S d = false) := by rw [Hid, HB.out]; simp [h3]
        go_enter Tryz.func77, Tryz.ntmps77
        go_wp2_with fail
        go_ret
        exact ⟨ret_bool HB2.out.symm, grI⟩
/-! ### Statics -/
/-- The document's static: its cells. -/
structure S6 where
  src : Int
  ef : EfV
def S6.arr (a : S6) : Array Value := #[I a.src, I a.ef.op, I a.ef.n, I a.ef.m, I a.ef.who, a.ef.subs.val]
@[go_sem] theorem S6.size (a : S6) : a.arr.size = 6 := rfl
@[go_sem] theorem S6.one (a : S6) : oneCells a.arr = true := by
  have h := val_oneCell a.ef.subs
  simp only [oneCells, S6.arr, List.all_toArray, List.all_cons, List.all_nil, h, Bool.and_true]
  rfl
@[go_sem] theorem S6.all (a : S6) : sub a.arr 0 6 = a.arr := rfl
@[go_sem] theorem S6.get0 (c : S6) : c.arr[0]? = some (I c.src) := rfl
@[go_sem] theorem S6.get0' (c : S6) (h : 0 < c.arr.size) : c.arr[0]'h = I c.src := rfl
@[go_sem] theorem S6.get2 (c : S6) : c.arr[2]? = some (I c.ef.n) := rfl
@[go_sem] theorem S6.get2' (c : S6) (h : 2 < c.arr.size) : c.arr[2]'h = I c.ef.n := rfl
@[go_sem] theorem S6.get5 (c : S6) : c.arr[5]? = some c.ef.subs.val := rfl
@[go_sem] theorem S6.get5' (c : S6) (h : 5 < c.arr.size) : c.arr[5]'h = c.ef.subs.val := rfl
@[go_sem ↓] theorem load_Static17 (ρ : Operand → Value) (dst : Option Tmp) (x : Operand) (ty : TypeId) (pos : String) (after : Array Edge) (guard : Option (Nat × Bool)) :
    execOp ρ { dst, op := .load 120 x, type := ty, pos, after, guard } = ldRow 120 (ρ x) := rfl
@[go_sem ↓] theorem store_Static17 (ρ : Operand → Value) (dst : Option Tmp) (x y : Operand) (ty : TypeId) (pos : String) (after : Array Edge) (guard : Option (Nat × Bool)) :
    execOp ρ { dst, op := .store 120 x y, type := ty, pos, after, guard } = stRow 120 (ρ x) (ρ y) := rfl
@[go_sem] theorem run_load_Static17 (w : World) (b o : Nat) (h : o + 6 ≤ (w.blk b).size) : (ldRow 120 (.pointer (some ⟨b, o, none⟩))).run Tryz.prog w = .ok (.value (.agg (sub (w.blk b) o 6))) w :=
  run_ldSub w b o 120 6 (by kernel_rfl) (by kernel_rfl) h (by omega)
@[go_sem] theorem run_store_Static17 (w : World) (b : Nat) (cs : Array Value) (h : (w.blk b).size = 6) (hc : cs.size = 6) (h1 : oneCells cs = true) (hf : w.free b = true) : (stRow 120 (.pointer (some ⟨b, 0, none⟩)) (.agg cs)).run Tryz.prog w = .ok .skip (w.setRow b cs) :=
  run_stRow w b 120 6 _ (by kernel_rfl) h hc (by omega) hf h1
@[go_sem ↓] theorem build_static17 (ρ : Operand → Value) (dst : Option Tmp) (parts : Array (Nat × Operand)) (ty : TypeId) (pos : String) (after : Array Edge) (guard : Option (Nat × Bool)) :
    execOp ρ { dst, op := .build 120 parts, type := ty, pos, after, guard } = bdRow 120 (parts.map fun (i, x) => (i, ρ x)) := rfl
@[go_sem] theorem cells_static17 (t : TypeId) (fr : Nat × Nat) : Obj.cells #[Value.int .i64 0, Value.int .i64 0, Value.int .i64 0, Value.int .i64 0, Value.int .i64 0, .slice none 0 0] t fr = .cells (S6.arr ⟨0, ⟨0, 0, 0, 0, .nil⟩⟩) t fr := rfl
@[go_sem] theorem run_build_static17 (w : World) (a : Int) (e : EfV) : (bdRow 120 #[(0, .int .i64 a), (1, .agg e.arr)]).run Tryz.prog w = .ok (.value (.agg (S6.arr ⟨a, e⟩))) w := by
  obtain ⟨op, n, m, who, s⟩ := e; cases s <;> kernel_rfl
/-- A static of the document's list stands so in memory. -/
def StIs (w : World) (n : Nat) (x : S6) (t : StN) : Prop := x.src = t.src ∧ x.ef.n = t.grp ∧ n ≤ x.ef.subs.b ∧ ∃ who s, RowsV w x.ef.subs 5 [EfV.arr ⟨t.op, t.n, t.m, who, s⟩]
theorem StIs.grow {w w' : World} {n : Nat} {x : S6} {t : StN} (h : StIs w n x t) (g : Grow w w') : StIs w' n x t := by
  obtain ⟨h1, h2, h3, who, s, h4⟩ := h
  exact ⟨h1, h2, h3, who, s, h4.grow g⟩
inductive StsIs (w : World) (n : Nat) : List S6 → List StN → Prop
  | nil : StsIs w n [] []
  | snoc {l : List S6} {m : List StN} {x : S6} {t : StN} : StsIs w n l m → StIs w n x t → StsIs w n (l ++ [x]) (m ++ [t])
theorem StsIs.grow {w w' : World} {n : Nat} {l : List S6} {m : List StN} (h : StsIs w n l m) (g : Grow w w') : StsIs w' n l m := by
  induction h with
  | nil => exact .nil
  | snoc _ h ih => exact .snoc ih (h.grow g)
theorem StIs.kept {own : Nat → Prop} {w w' : World} {n : Nat} {x : S6} {t : StN} (h : StIs w n x t) (g : Kept own w w') (ho : ∀ b, n ≤ b → b < w.heap.size → ¬ own b) : StIs w' n x t := by
  obtain ⟨h1, h2, h3, who, s, h4⟩ := h
  have hb := (h4.at (by decide) (i := 0) (x := _) rfl).1
  exact ⟨h1, h2, h3, who, s, h4.kept g (ho _ h3 hb)⟩
theorem AbOk.kept {own : Nat → Prop} {w w' : World} {n : Nat} {a : AbV} {d : AbN} (h : AbOk w n a d) (g : Kept own w w') (ho : ∀ b, n ≤ b → b < w.heap.size → ¬ own b) : AbOk w' n a d := by
  refine ⟨h.1, fun h5 => ?_⟩
  obtain ⟨h1, h2, who, s, R⟩ := h.2 h5
  have hb := (R.at (by decide) (i := 0) (x := _) rfl).1
  exact ⟨h1, h2, who, s, R.kept g (ho _ h2 hb)⟩
theorem AbsOk.kept {own : Nat → Prop} {w w' : World} {n : Nat} {l : List AbV} {m : List AbN} (h : AbsOk w n l m) (g : Kept own w w') (ho : ∀ b, n ≤ b → b < w.heap.size → ¬ own b) : AbsOk w' n l m := by
  induction h with
  | nil => exact .nil
  | cons h _ ih => exact .cons (h.kept g ho) ih
theorem CardOk.kept {own : Nat → Prop} {w w' : World} {n : Nat} {c : CdV} {d : CardN} (h : CardOk w n c d) (g : Kept own w w') (ho : ∀ b, n ≤ b → b < w.heap.size → ¬ own b) : CardOk w' n c d := by
  obtain ⟨l, h1, h2, h3⟩ := h.abs
  refine ⟨h.kind, h.pw, h.tf, h.says, l, ?_, h2, h3.kept g ho⟩
  cases l with
  | nil => exact ⟨h1.len, h1.cap, fun x hx => by simp at hx, fun i j x hx => by simp at hx⟩
  | cons a l =>
    have hb := (h1.at (by decide) (i := 0) (x := a.arr) rfl).1
    rcases h2 with h2 | h2
    · cases h2
    · exact h1.kept g (ho _ h2 hb)
/-- An ability's static, if it is one. -/
def abS (S : St) (d : Nat) (m : List AbN) (k : Nat) : List StN := (usesTo m 5 k).map (statOf S d)
theorem abS_succ (S : St) (d : Nat) (k : Nat) : abS S d (kindN S d).abs (k + 1) = abS S d (kindN S d).abs k ++ (if (((kindN S d).abs.getD k ⟨0, 0, 0, 0, 0⟩).wh == 5) = true then [statOf S d k] else []) := by
  unfold abS
  rw [usesTo_succ, List.map_append]
  congr 1
  split <;> rfl
theorem abS_all (S : St) (d : Nat) : abS S d (kindN S d).abs (kindN S d).abs.length = statsOf S d := by
  unfold abS statsOf usesN
  rw [Int.toNat_natCast]
theorem CardOk.abK {own : Nat → Prop} {w wr : World} {n : Nat} {c : CdV} {d : CardN} (h : CardOk w n c d) (hk : Kept own w wr) (ho : ∀ b, n ≤ b → b < w.heap.size → ¬ own b) {i : Nat} (hi : i < d.abs.length) :
    ∃ a : AbV, c.abs.n = d.abs.length ∧ n ≤ c.abs.b ∧ c.abs.b < w.heap.size ∧ c.abs.o + i * 14 + 14 ≤ (wr.blk c.abs.b).size ∧ sub (wr.blk c.abs.b) (c.abs.o + i * 14) 14 = a.arr ∧ AbOk w n a (d.abs.getD i ⟨0, 0, 0, 0, 0⟩) ∧ ((d.abs.getD i ⟨0, 0, 0, 0, 0⟩).wh = 5 → a.ef.subs.b < w.heap.size) := by
  obtain ⟨a, q1, q2, q3, q4, _, q5⟩ := h.ab hi
  have hb : n ≤ c.abs.b := by
    obtain ⟨l, l1, l2, _⟩ := h.abs
    rcases l2 with rfl | l2
    · have := l1.len; simp at this; omega
    · exact l2
  have e := hk.blk c.abs.b q2 (ho _ hb q2)
  refine ⟨a, q1, hb, q2, by rw [e]; exact q3, by rw [e]; exact q4, q5, fun h5 => ?_⟩
  obtain ⟨_, _, who, s, R⟩ := q5.2 h5
  exact (R.at (by decide) (i := 0) (x := _) rfl).1
theorem StsIs.kept {own : Nat → Prop} {w w' : World} {n : Nat} {l : List S6} {m : List StN} (h : StsIs w n l m) (g : Kept own w w') (ho : ∀ x ∈ l, ¬ own x.ef.subs.b) : StsIs w' n l m := by
  induction h with
  | nil => exact .nil
  | snoc _ h ih =>
    refine .snoc (ih (fun x hx => ho x (by simp [hx]))) ?_
    obtain ⟨h1, h2, h3, who, s, h4⟩ := h
    exact ⟨h1, h2, h3, who, s, h4.kept g (ho _ (by simp))⟩
/-- The statics' effects stand in memory. -/
theorem StsIs.lt {w : World} {n : Nat} {l : List S6} {m : List StN} (h : StsIs w n l m) : ∀ x ∈ l, x.ef.subs.b < w.heap.size := by
  induction h with
  | nil => intro x hx; cases hx
  | snoc _ h ih =>
    intro x hx
    rcases List.mem_append.1 hx with hx | hx
    · exact ih x hx
    · obtain ⟨_, _, _, who, s, h4⟩ := h
      obtain rfl : x = _ := by simpa using hx
      exact (h4.at (by decide) (i := 0) (x := _) rfl).1
@[go_sem] theorem AbV.sub9 (a : AbV) : sub a.arr 9 5 = a.ef.arr := rfl
@[go_sem ↓] theorem bslice_statics17 (ρ : Operand → Value) (dst : Option Tmp) (n : Nat) (parts : Array (Nat × Operand)) (ty : TypeId) (pos : String) (after : Array Edge) (guard : Option (Nat × Bool)) :
    execOp ρ { dst, op := .buildSlice 114 n parts, type := ty, pos, after, guard } = bsRow 114 n (parts.map fun (i, x) => (i, ρ x)) := rfl
@[go_sem] theorem run_bs_static17 (w : World) (a : S6) : (bsRow 114 1 #[(0, .agg a.arr)]).run Tryz.prog w = .ok (.value (.slice (some ⟨w.heap.size, 0, none⟩) 1 1)) (w.alloc (.cells a.arr 120)) := by
  obtain ⟨i, op, n, m, who, s⟩ := a; cases s <;> kernel_rfl
@[go_sem] theorem run_bs_static17_0 (w : World) : (bsRow 114 0 #[]).run Tryz.prog w = .ok (.value (.slice (some ⟨w.heap.size, 0, none⟩) 0 0)) (w.alloc (.cells #[] 120)) := by kernel_rfl
@[go_sem] theorem field_card7 (w : World) (c : CdV) : (Instr.field 111 (.agg c.arr) 7).run Tryz.prog w = .ok c.abs.val w := by
  obtain ⟨a, b, f, c0, c1, c2, c3, c4, c5, p, t, s, l⟩ := c; cases l <;> kernel_rfl
set_option maxRecDepth 100000 in
set_option maxHeartbeats 4000000 in
theorem statics17_any (T8 : Table08) (S : St) (V : SV) (w : World) (R : RepSt w V S) (hR : Right S) (hS : Small S) :
    Calls Tryz.prog 79 #[.agg (stA V S.num)] w fun e w' => ∃ (s : Sl) (l : List S6), e = .returned s.val ∧ RowsV w' s 6 (l.map S6.arr) ∧ StsIs w' (w.heap.size + 1) l (staticsN S) ∧ Grow w w' := by
  have hN := R.objs.len
  have hL := (R.list 8 (by decide)).len
  have hSL := hS.list 8 (by decide)
  have HR := Lib.hid R
  have HH := Lib.hid hR
  have HT := Lib.hid T8
  clear R hR hS T8
  go_enter Tryz.func79, Tryz.ntmps79
  go_wp2_with fail
  go_loopw [3, 13] (fun v i wr => ∃ (k : Nat) (s : Sl) (l : List S6), k ≤ (S.list 8).length ∧ i = .int .i64 k ∧ v = s.val ∧ Hid (Made (w.alloc (.cells (stA V S.num) 29)).heap.size wr s 6 (flatV (l.map S6.arr)) ∧ StsIs wr (w.heap.size + 1) l (stTo S k) ∧ (∀ x ∈ l, ¬ s.owns x.ef.subs.b)) ∧ s.n ≤ 2 * k ∧ Grow (w.alloc (.cells (stA V S.num) 29)) wr) (fun _ i _ => (S.list 8).length - (intOf i).toNat)
  case atStart =>
    refine ⟨0, .mk (w.heap.size + 1) 0 0 0, [], by omega, rfl, rfl, ⟨⟨⟨rfl, Nat.le_refl _, fun j u hu => by simp [flatV] at hu⟩, ⟨Nat.zero_le _, fun j hj => by simp [Sl.c] at hj⟩, fun b hb => ?_⟩, ?_, fun x hx => by cases hx⟩, Nat.le_refl _, grI⟩
    · obtain rfl : b = w.heap.size + 1 := hb
      exact ⟨by simp only [alloc_size']; omega, by simp only [alloc_size']; omega⟩
    · unfold stTo; rw [List.take_zero]; exact .nil
  case round =>
    obtain ⟨k, s, l, hk, rfl, rfl, HM, hsn, hG⟩ := hrel
    obtain ⟨x, rfl⟩ := hG
    by_cases hlt : k < (S.list 8).length
    · obtain ⟨hlb, hlc⟩ := (HR.out.list 8 (by decide)).at k hlt
      obtain ⟨o1, o2, _, _⟩ := HH.out.zon.ok 8 (by decide) (gt (S.list 8) k) (by rw [gt_eq _ _ hlt]; exact List.getElem_mem hlt)
      have HST := Lib.hid (stTo_succ S k hlt)
      generalize hid : gt (S.list 8) k = id at *
      obtain ⟨d, rfl⟩ := Int.eq_ofNat_of_zero_le o1
      have hd : d < S.objs.length := by omega
      have HID := Lib.hid hid
      clear hid o1 o2
      go_wp2_with (go_at_call 78; refine (k17_any HT.out S V _ (HR.out.grow grI) HH.out d hd).mono ?_; rintro e' w1 ⟨c, rfl, hc, hg1⟩; have HC := Lib.hid (And.intro hc hg1); clear hc hg1)
      have hcn : c.abs.n = (kindN S d).abs.length := by
        obtain ⟨la, l1, _, l2⟩ := HC.out.1.abs
        rw [l1.len, List.length_map, l2.get.1]
      have hm2 : (kindN S d).abs.length ≤ 2 := kind_abs S d
      have HCN := Lib.hid hcn
      have g1 : Grow (w.alloc (.cells (stA V S.num) 29)) w1 := (Grow.plus (Grow.refl _) x).trans HC.out.2
      have HG1 := Lib.hid g1
      clear g1 hcn
      go_loopw [3, 22] (fun v i wr => ∃ (j : Nat) (s : Sl) (l : List S6), j ≤ (kindN S d).abs.length ∧ i = .int .i64 j ∧ v = s.val ∧ Hid (Made (w.alloc (.cells (stA V S.num) 29)).heap.size wr s 6 (flatV (l.map S6.arr)) ∧ StsIs wr (w.heap.size + 1) l (stTo S k ++ abS S d (kindN S d).abs j) ∧ (∀ x ∈ l, ¬ s.owns x.ef.subs.b) ∧
        (∀ b, s.owns b → b < ((w.alloc (.cells (stA V S.num) 29)).plus x).heap.size ∨ w1.heap.size ≤ b) ∧ Kept (fun b => w.heap.size + 1 ≤ b ∧ (b < ((w.alloc (.cells (stA V S.num) 29)).plus x).heap.size ∨ w1.heap.size ≤ b)) w1 wr) ∧ s.n ≤ 2 * k + j ∧ Grow (w.alloc (.cells (stA V S.num) 29)) wr) (fun _ i _ => (kindN S d).abs.length - (intOf i).toNat)
      case atStart =>
        have g2 : Grow ((w.alloc (.cells (stA V S.num) 29)).plus x) w1 := HC.out.2
        refine ⟨0, s, l, by omega, rfl, rfl, ⟨HM.out.1.grow g2, ?_, HM.out.2.2, fun b hb => .inl (HM.out.1.own b hb).2, Kept.refl _ _⟩, by omega, HG1.out⟩
        have := HM.out.2.1.grow g2
        rw [show abS S d (kindN S d).abs 0 = [] from rfl, List.append_nil]
        exact this
      case round =>
        obtain ⟨j, s, l, hj, rfl, rfl, HM2, hsn2, hG⟩ := hrel
        obtain ⟨y, rfl⟩ := hG
        clear HM hsn
        by_cases hjt : j < (kindN S d).abs.length
        · obtain ⟨a, q1, q2, q3, q4, q5, q6, q7⟩ := HC.out.1.abK HM2.out.2.2.2.2 (fun b h1 h2 h3 => by omega) hjt
          have hsz1 := HC.out.2.size
          have hsz2 := HM2.out.2.2.2.2.size
          simp only [plus_size, alloc_size'] at q2 hsz1 hsz2
          have r1 : w.heap.size + 1 ≤ c.abs.b := by omega
          have r2 : ¬ c.abs.b < w.heap.size + 1 := by omega
          have r3 : c.abs.b < w.heap.size + 1 + y.objs.size := by omega
          have hin : (j : Int) < c.abs.n := by omega
          clear q1
          have hin' : (j : Int) < (kindN S d).abs.length := by omega
          have q4' : c.abs.o + j * 14 + 14 ≤ (blkFar (w.alloc (.cells (stA V S.num) 29)) y c.abs.b).size := q4
          have q5' : sub (blkFar (w.alloc (.cells (stA V S.num) 29)) y c.abs.b) (c.abs.o + j * 14) 14 = a.arr := q5
          have HS := Lib.hid (abS_succ S d j)
          have HQ := Lib.hid (And.intro q6 (And.intro q7 (And.intro q3 (And.intro hsz1 hsz2))))
          generalize hbn : (kindN S d).abs.getD j ⟨0, 0, 0, 0, 0⟩ = bn at *
          have hwh : a.wh = bn.wh := q6.1
          clear q4 q5 q6 q7 hsz1 hsz2
          cases h5 : (bn.wh == 5) with
          | false =>
            have h5' : ¬ a.wh = 5 := by rw [hwh]; simpa using h5
            rw [h5, if_neg (by simp)] at HS
            clear hwh
            go_wp2_with fail
            go_roundw
            case rel =>
              refine ⟨j + 1, s, l, by omega, by go_num, rfl, ⟨HM2.out.1.grow grI, ?_, HM2.out.2.2.1, HM2.out.2.2.2.1, HM2.out.2.2.2.2.alloc _⟩, by omega, grI⟩
              rw [HS.out, List.append_nil]
              exact HM2.out.2.1.grow grI
            case measure => simp [intOf]; omega
          | true =>
            have h5' : a.wh = 5 := by rw [hwh]; simpa using h5
            rw [h5, if_pos rfl] at HS
            clear hwh
            go_wp2_with ((at_builtin; refine wpList_made rfl _ _ 114 rfl 120 Tryz.t120 (.agg (S6.arr ⟨0, ⟨0, 0, 0, 0, .nil⟩⟩)) 6 64 Tryz.underlying114 (by kernel_rfl) (by kernel_rfl) (by kernel_rfl) (by kernel_rfl) (by omega) rfl (w.alloc (.cells (stA V S.num) 29)) s (.mk _ 0 1 1) (flatV (l.map S6.arr)) (flatV [S6.arr ⟨d, a.ef⟩]) rfl rfl (HM2.out.1.grow grI) grI (RowsV.one (x := S6.arr _) (by go_simp) (by go_simp) (by go_simp)).cells (flatV_one (fun x hx => by obtain ⟨a, _, rfl⟩ := List.mem_map.1 hx; exact S6.one a)) (flatV_one (by simp [S6.one])) (by show s.n + 1 ≤ 4194304; omega) ?_; intro s3 y3 c1 c2 c3 c4; have C := Lib.hid (And.intro c1 (And.intro c2 (And.intro c3 c4))); clear c1 c2 c3 c4))
            go_roundw
            case rel =>
              have hb3 : s3.n = s.n + 1 := C.out.2.2.1
              have gm : Grow ((w.alloc (.cells (stA V S.num) 29)).plus y) ((((w.alloc (.cells (stA V S.num) 29)).plus y).alloc (.cells a.arr 159)).alloc (.cells (S6.arr ⟨d, a.ef⟩) 120)) := grI
              have hst := (HM2.out.2.1.grow gm).kept C.out.2.1 (fun x hx => HM2.out.2.2.1 x hx)
              obtain ⟨v1, v2, who, s', v3⟩ := HQ.out.1.2 (by simpa using h5)
              have v4 := HQ.out.2.1 (by simpa using h5)
              have hxs : ((w.alloc (.cells (stA V S.num) 29)).plus x).heap.size ≤ a.ef.subs.b := v2
              have ns : ¬ s.owns a.ef.subs.b := fun hh => by rcases HM2.out.2.2.2.1 _ hh with hh | hh <;> omega
              have v5 := ((v3.kept HM2.out.2.2.2.2 (fun hh => by omega)).grow gm).kept C.out.2.1 ns
              have hso : statOf S d (j : Int) = ⟨d, gt (rowAt S.objs d) 2, bn.grp, bn.op, bn.n, bn.m⟩ := by rw [statOf, Int.toNat_natCast, hbn]
              have hsz2 := HM2.out.2.2.2.2.size
              have hsm := gm.size
              refine ⟨j + 1, s3, l ++ [⟨d, a.ef⟩], by omega, by go_num, rfl, ⟨by rw [List.map_append, flatV_append]; exact C.out.1, ?_, fun z hz hh => ?_, fun b hh => ?_, ?_⟩, by omega, grI⟩
              · rw [HS.out, hso, ← List.append_assoc]
                refine .snoc hst ⟨rfl, v1, ?_, who, s', v5⟩
                simp only [plus_size, alloc_size'] at hxs
                show w.heap.size + 1 ≤ a.ef.subs.b
                omega
              · rcases List.mem_append.1 hz with hz | hz
                · have h1 := HM2.out.2.1.lt z hz
                  rcases C.out.2.2.2 _ hh with h2 | h2
                  · exact HM2.out.2.2.1 z hz h2
                  · omega
                · obtain rfl : z = ⟨d, a.ef⟩ := by simpa using hz
                  rcases C.out.2.2.2 _ hh with h2 | h2
                  · exact ns h2
                  · have h3 : ((((w.alloc (.cells (stA V S.num) 29)).plus y).alloc (.cells a.arr 159)).alloc (.cells (S6.arr ⟨d, a.ef⟩) 120)).heap.size ≤ a.ef.subs.b := h2
                    omega
              · rcases C.out.2.2.2 _ hh with h2 | h2
                · exact HM2.out.2.2.2.1 b h2
                · exact .inr (by omega)
              · exact (HM2.out.2.2.2.2.trans (o2 := fun _ => False) (Grow.kept _ gm) (fun _ _ h => h.elim)).trans (o2 := s.owns) C.out.2.1 (fun b _ hb => ⟨by have := (HM2.out.1.own b hb).1; simp only [alloc_size'] at this; exact this, HM2.out.2.2.2.1 b hb⟩)
            case measure => simp [intOf]; omega
        · have hnn : ¬ (j : Int) < c.abs.n := by have := HCN.out; omega
          go_wp2_with fail
          go_roundw
          case rel =>
            refine ⟨k + 1, s, l, by omega, by go_num, rfl, ⟨HM2.out.1.grow grI, ?_, HM2.out.2.2.1⟩, by omega, grI⟩
            have := HM2.out.2.1.grow (w' := (w.alloc (.cells (stA V S.num) 29)).plus y) (Grow.refl _)
            rw [show j = (kindN S d).abs.length by omega, abS_all] at this
            rw [HST.out]
            exact this
          case measure => simp [intOf]; omega
    · go_wp2_with fail
      go_ret
      refine ⟨s, l, rfl, Cells.rowsV (HM.out.1.cells.grow grI) (by decide) (fun x hx => by obtain ⟨a, _, rfl⟩ := List.mem_map.1 hx; exact S6.size a), ?_, grI⟩
      have := HM.out.2.1.grow (w' := (w.alloc (.cells (stA V S.num) 29)).plus x) (Grow.refl _)
      rw [stTo, List.take_of_length_le (by omega)] at this
      exact this
end Go.Proofs.YtnjdkkgkaafdbaaGreatDoor
namespace Go.Proofs.YtnjdkkgkaafdbaaGreatDoor
open Go Go.RowKit

/-- What the statics of cards are. -/
def statB (a : AbN) : Bool := a.wh != 5 || (decide (0 ≤ a.grp) && decide (a.grp ≤ 3) && (a.op == 10 || a.op == 23 || a.op == 24 || a.op == 25) && decide (-3 ≤ a.n) && decide (a.n ≤ 255) && decide (-3 ≤ a.m) && decide (a.m ≤ 3) && (a.op == 10 || a.op == 24 || decide (0 ≤ a.n)))
theorem stat_cards : ∀ n, n < 120 → ((cardN n).abs.all statB) = true := by decide +kernel
structure StFine (S : St) (t : StN) : Prop where
  src : 0 ≤ t.src ∧ t.src < S.objs.length
  ctl : t.ctl = gt (rowAt S.objs t.src.toNat) 2
  grp : 0 ≤ t.grp ∧ t.grp ≤ 3
  op : t.op = 10 ∨ t.op = 23 ∨ t.op = 24 ∨ t.op = 25
  n : -3 ≤ t.n ∧ t.n ≤ 255
  m : -3 ≤ t.m ∧ t.m ≤ 3
  pos : t.op = 23 ∨ t.op = 25 → 0 ≤ t.n
theorem statics_fine {S : St} (h : Right S) : ∀ t ∈ staticsN S, StFine S t := by
  intro t ht
  unfold staticsN at ht
  obtain ⟨id, hid, ht⟩ := List.mem_flatMap.1 ht
  obtain ⟨o1, o2, _, _⟩ := h.zon.ok 8 (by decide) id hid
  obtain ⟨d, rfl⟩ := Int.eq_ofNat_of_zero_le o1
  have hd : d < S.objs.length := by omega
  unfold statsOf at ht
  rw [Int.toNat_natCast] at ht
  obtain ⟨x, hx, rfl⟩ := List.mem_map.1 ht
  obtain ⟨i, rfl, hi, hw⟩ := usesN_at _ _ _ hx
  have hc := h.card hd
  have hall := stat_cards (gt (rowAt S.objs d) 0).toNat (by omega)
  have hb : statB ((kindN S d).abs.getD i ⟨0, 0, 0, 0, 0⟩) = true := by
    refine List.all_eq_true.1 hall _ ?_
    show (kindN S d).abs.getD i _ ∈ (kindN S d).abs
    rw [List.getD_eq_getElem?_getD, List.getElem?_eq_getElem hi]
    exact List.getElem_mem hi
  have e : statOf S d (i : Int) = ⟨d, gt (rowAt S.objs d) 2, ((kindN S d).abs.getD i ⟨0, 0, 0, 0, 0⟩).grp, ((kindN S d).abs.getD i ⟨0, 0, 0, 0, 0⟩).op, ((kindN S d).abs.getD i ⟨0, 0, 0, 0, 0⟩).n, ((kindN S d).abs.getD i ⟨0, 0, 0, 0, 0⟩).m⟩ := by rw [statOf, Int.toNat_natCast]
  rw [e]
  generalize (kindN S d).abs.getD i ⟨0, 0, 0, 0, 0⟩ = a at *
  unfold statB at hb
  simp only [Bool.or_eq_true, bne_iff_ne, ne_eq, Bool.and_eq_true, decide_eq_true_eq, beq_iff_eq] at hb
  rcases hb with hb | hb
  · exact absurd hw hb
  · obtain ⟨⟨⟨⟨⟨⟨⟨h1, h2⟩, h3⟩, h4⟩, h5⟩, h6⟩, h7⟩, h8⟩ := hb
    exact ⟨⟨by omega, by show (d : Int) < _; omega⟩, by show _ = gt (rowAt S.objs (d : Int).toNat) 2; rw [Int.toNat_natCast], ⟨h1, h2⟩, by rcases h3 with ((h | h) | h) | h <;> simp [h], ⟨h4, h5⟩, ⟨h6, h7⟩, fun h => by
      rcases h8 with (h' | h') | h'
      · rcases h with h | h <;> (simp only at h; omega)
      · rcases h with h | h <;> (simp only at h; omega)
      · exact h'⟩
set_option maxRecDepth 100000 in
set_option maxHeartbeats 2000000 in
theorem within_any (S : St) (V : SV) (w : World) (R : RepSt w V S) (x : S6) (t : StN) (h1 : x.src = t.src) (h2 : x.ef.n = t.grp) (F : StFine S t) (d : Nat) (hd : d < S.objs.length) :
    Calls Tryz.prog 80 #[.agg (stA V S.num), .agg x.arr, .int .i64 (d : Int)] w fun e w' => e = .returned (.bool (reachesB S t d)) ∧ Grow w w' := by
  have hN := R.objs.len
  obtain ⟨hob, how, hosz, hosub, hocell⟩ := R.objs.at (by omega) d hd
  have hoc := hocell 2 (by omega)
  obtain ⟨k, hk⟩ := Int.eq_ofNat_of_zero_le F.src.1
  have hkl : k < S.objs.length := by have := F.src.2; omega
  obtain ⟨hob2, how2, hosz2, hosub2, hocell2⟩ := R.objs.at (by omega) k hkl
  have hoc2 := hocell2 2 (by omega)
  have hd' : (d : Int) < S.objs.length := by omega
  have hk' : (k : Int) < S.objs.length := by omega
  have hx : x.src = (k : Int) := h1.trans hk
  have HX : Hid (reachesB S t d = if x.ef.n = 0 then true else if x.ef.n = 1 then gt (rowAt S.objs d) 2 == gt (rowAt S.objs k) 2 else if x.ef.n = 2 then !(gt (rowAt S.objs d) 2 == gt (rowAt S.objs k) 2) else (gt (rowAt S.objs d) 2 == gt (rowAt S.objs k) 2) && !((d : Int) == k)) := by
    rw [Hid, reachesB, F.ctl, h2, hk, Int.toNat_natCast]
  have hg : x.ef.n = 0 ∨ x.ef.n = 1 ∨ x.ef.n = 2 ∨ x.ef.n = 3 := by have := F.grp; omega
  clear hocell hosub hosz hocell2 hosub2 hosz2 R F h1 h2 hk
  generalize gt (rowAt S.objs d) 2 = ctl at *
  generalize gt (rowAt S.objs k) 2 = ctl2 at *
  generalize hs : (ctl == ctl2) = same at *
  have HSM := Lib.hid hs
  rcases hg with h | h | h | h <;> cases same
  all_goals
    go_enter Tryz.func80, Tryz.ntmps80
    go_wp2_with fail
    refine wp_region_grow (by kernel_rfl) (by kernel_rfl) ?_; (repeat (go_big_quiet_step ( fail ))); refine wpQuiet_nil ?_; rintro _ ⟨nx, rfl⟩
    go_wp2_with fail
    go_ret
    exact ⟨ret_bool (by rw [HX.out, h]; first | rfl | (simp; done) | (rw [bne, BEq.comm (a := (k : Int))]; rfl)), grI⟩
end Go.Proofs.YtnjdkkgkaafdbaaGreatDoor
namespace Go.Proofs.YtnjdkkgkaafdbaaGreatDoor
open Go Go.RowKit

def becS (S : St) (d : Nat) (e : Int × Int) (x : StN) : Int × Int := if x.op = 24 ∧ reachesB S x d = true then (x.n, x.m) else e
def pumS (S : St) (d : Nat) (e : Int × Int) (x : StN) : Int × Int := if x.op = 10 ∧ reachesB S x d = true then (wrap64 (e.1 + x.n), wrap64 (e.2 + x.m)) else e
def wdS (S : St) (d : Nat) (e : Nat) (x : StN) : Nat := if (x.op = 23 ∨ x.op = 25) ∧ reachesB S x d = true then turnTo e x.n.toNat (x.op == 23) 8 else e
def becTo (S : St) (d k : Nat) : Int × Int := ((staticsN S).take k).foldl (becS S d) ((kindN S d).pw, (kindN S d).tf)
def pumTo (S : St) (d k : Nat) (e : Int × Int) : Int × Int := ((staticsN S).take k).foldl (pumS S d) e
def wdTo (S : St) (d k : Nat) (e : Nat) : Nat := ((staticsN S).take k).foldl (wdS S d) e
theorem fold_succ {α : Type} (f : α → StN → α) (S : St) (k : Nat) (x : StN) (e : α) (h : (staticsN S)[k]? = some x) : ((staticsN S).take (k + 1)).foldl f e = f (((staticsN S).take k).foldl f e) x := by
  rw [List.take_add_one, h, List.foldl_append]; rfl
theorem w64_add (a b : Int) : wrap64 (wrap64 a + b) = wrap64 (a + b) := by unfold wrap64; omega
theorem w64_id (a : Int) (h : -9223372036854775808 ≤ a ∧ a ≤ 9223372036854775807) : wrap64 a = a := by unfold wrap64; omega
theorem w64_in (a : Int) : -9223372036854775808 ≤ wrap64 a ∧ wrap64 a ≤ 9223372036854775807 := by unfold wrap64; omega
theorem small_bit {a : Nat} (ha : a < 256) {i : Nat} (hi : ¬ i < 8) : a.testBit i = false :=
  Nat.testBit_lt_two_pow (Nat.lt_of_lt_of_le ha (by rw [show (256 : Nat) = 2 ^ 8 from rfl]; exact Nat.pow_le_pow_right (by omega) (by omega)))
theorem wrap_nat {a : Nat} (ha : a < 256) : IntKind.i64.wrap (a : Int) = a := by
  unfold IntKind.wrap
  simp [IntKind.signed, IntKind.bits]
  omega
theorem ofInt_bit (a i : Nat) (hi : i < 64) : (BitVec.ofInt 64 (a : Int)).getLsbD i = a.testBit i := by
  rw [BitVec.ofInt_natCast, BitVec.getLsbD_ofNat]; simp [hi]
theorem turn_lt (a b : Nat) (is : Bool) (ha : a < 256) : turnTo a b is 8 < 256 := by
  refine Nat.lt_pow_two_of_testBit (n := 8) _ (fun i hi => ?_)
  rw [turnTo_testBit a b is (by omega) 8 i (by omega), if_neg (fun h => by omega)]
  exact small_bit ha (by omega)
theorem bits_or_nat (a b : Nat) (ha : a < 256) (hb : b < 256) : bits .or .i64 (a : Int) (b : Int) = ((a ||| b : Nat) : Int) := by
  have hv : (BitVec.ofInt 64 (a : Int) ||| BitVec.ofInt 64 (b : Int)).toNat = a ||| b := by
    apply Nat.eq_of_testBit_eq
    intro i
    rw [BitVec.testBit_toNat, BitVec.getLsbD_or, Nat.testBit_or]
    by_cases hi : i < 64
    · rw [ofInt_bit _ _ hi, ofInt_bit _ _ hi]
    · rw [BitVec.getLsbD_of_ge _ _ (by omega), BitVec.getLsbD_of_ge _ _ (by omega), small_bit ha (by omega), small_bit hb (by omega)]
  show IntKind.i64.wrap ((BitVec.ofInt 64 (a : Int) ||| BitVec.ofInt 64 (b : Int)).toNat : Int) = _
  rw [hv]
  exact wrap_nat (Nat.or_lt_two_pow (n := 8) ha hb)
theorem bits_not_nat (a b : Nat) (ha : a < 256) (hb : b < 256) : bits .andNot .i64 (a : Int) (b : Int) = ((turnTo a b false 8 : Nat) : Int) := by
  have hv : (BitVec.ofInt 64 (a : Int) &&& ~~~ BitVec.ofInt 64 (b : Int)).toNat = turnTo a b false 8 := by
    apply Nat.eq_of_testBit_eq
    intro i
    rw [BitVec.testBit_toNat, BitVec.getLsbD_and, BitVec.getLsbD_not, turnTo_testBit a b false (by omega) 8 i (by omega)]
    by_cases hi : i < 64
    · rw [ofInt_bit _ _ hi, ofInt_bit _ _ hi]
      by_cases hbi : b.testBit i = true
      · have h8 : i < 8 := by
          rcases Nat.lt_or_ge i 8 with h | h
          · exact h
          · rw [small_bit hb (by omega)] at hbi; cases hbi
        rw [if_pos ⟨h8, hbi⟩, hbi]; simp
      · rw [if_neg (fun h => hbi h.2)]; simp at hbi; simp [hbi, hi]
    · rw [BitVec.getLsbD_of_ge _ _ (by omega), if_neg (fun h => by omega), small_bit ha (by omega)]; simp
  show IntKind.i64.wrap ((BitVec.ofInt 64 (a : Int) &&& ~~~ BitVec.ofInt 64 (b : Int)).toNat : Int) = _
  rw [hv]
  exact wrap_nat (turn_lt _ _ _ ha)
theorem card_says : ∀ n, n < 120 → 0 ≤ (cardN n).says ∧ (cardN n).says < 256 ∧ -100 ≤ (cardN n).pw ∧ (cardN n).pw ≤ 100 ∧ -100 ≤ (cardN n).tf ∧ (cardN n).tf ≤ 100 := by decide +kernel
/-- One step of the one pass beside one of each of the three. -/
structure Beside (o8 o9 : Int) (B : Int × Int) (e : Evl) (b : Int × Int) (p : Int × Int) (wd : Nat) : Prop where
  bp : e.p = b.1
  bt : e.t = b.2
  mp : wrap64 (p.1 + o8) = wrap64 (B.1 + e.mp)
  mt : wrap64 (p.2 + o9) = wrap64 (B.2 + e.mt)
  ww : e.w = (wd : Int)
  lt : wd < 256
theorem Beside.step {S : St} {d : Nat} {o8 o9 : Int} {B : Int × Int} {e : Evl} {b p : Int × Int} {wd : Nat} (h : Beside o8 o9 B e b p wd) {x : StN} (F : StFine S x) : Beside o8 o9 B (evStep S d e x) (becS S d b x) (pumS S d p x) (wdS S d wd x) := by
  unfold evStep becS pumS wdS
  cases hr : reachesB S x d with
  | false => simp only [if_true, Bool.false_eq_true, and_false, if_false]; exact h
  | true =>
    simp only [Bool.true_eq_false, if_false, and_true]
    have h1 := h.mp
    have h2 := h.mt
    rcases F.op with ho | ho | ho | ho <;> rw [ho]
    · simp only [show ¬ (10 : Int) = 24 by decide, show ¬ ((10 : Int) = 23 ∨ (10 : Int) = 25) by decide, if_false, if_true]
      exact ⟨h.bp, h.bt, by show wrap64 (wrap64 (p.1 + x.n) + o8) = wrap64 (B.1 + wrap64 (e.mp + x.n)); unfold wrap64 at *; omega, by show wrap64 (wrap64 (p.2 + x.m) + o9) = wrap64 (B.2 + wrap64 (e.mt + x.m)); unfold wrap64 at *; omega, h.ww, h.lt⟩
    · have hp := F.pos (.inl ho)
      have hn := F.n
      simp only [show ¬ (23 : Int) = 24 by decide, show ¬ (23 : Int) = 10 by decide, if_false, if_true, true_or]
      refine ⟨h.bp, h.bt, h1, h2, ?_, turn_lt _ _ _ h.lt⟩
      show bits .or .i64 e.w x.n = _
      rw [h.ww, show x.n = (x.n.toNat : Int) by omega, bits_or_nat _ _ h.lt (by omega), Int.toNat_natCast, ← turn_or _ _ (by have := h.lt; omega) (by omega)]
      rfl
    · simp only [show ¬ ((24 : Int) = 23 ∨ (24 : Int) = 25) by decide, show ¬ (24 : Int) = 10 by decide, if_false, if_true]
      exact ⟨rfl, rfl, h1, h2, h.ww, h.lt⟩
    · have hp := F.pos (.inr ho)
      have hn := F.n
      simp only [show ¬ (25 : Int) = 24 by decide, show ¬ (25 : Int) = 10 by decide, show ¬ (25 : Int) = 23 by decide, if_false, if_true, or_true]
      refine ⟨h.bp, h.bt, h1, h2, ?_, turn_lt _ _ _ h.lt⟩
      show bits .andNot .i64 e.w x.n = _
      rw [h.ww, show x.n = (x.n.toNat : Int) by omega, bits_not_nat _ _ h.lt (by omega), Int.toNat_natCast]
      rfl
theorem Beside.all {S : St} {d : Nat} {o8 o9 : Int} {B : Int × Int} : ∀ (l : List StN) {e : Evl} {b p : Int × Int} {wd : Nat}, (∀ x ∈ l, StFine S x) → Beside o8 o9 B e b p wd → Beside o8 o9 B (l.foldl (evStep S d) e) (l.foldl (becS S d) b) (l.foldl (pumS S d) p) (l.foldl (wdS S d) wd)
  | [], _, _, _, _, _, h => h
  | x :: l, _, _, _, _, hl, h => Beside.all l (fun y hy => hl y (by simp [hy])) (h.step (hl x (by simp)))
/-- What the document's shape is. -/
def shape17 (S : St) (d : Nat) : List Int :=
  let n := (staticsN S).length
  let b := becTo S d n
  let p := pumTo S d n (wrap64 (b.1 + gt (rowAt S.objs d) 7), wrap64 (b.2 + gt (rowAt S.objs d) 7))
  [wrap64 (p.1 + gt (rowAt S.objs d) 8), wrap64 (p.2 + gt (rowAt S.objs d) 9), (turnTo (wdTo S d n (kindN S d).says.toNat) (gt (rowAt S.objs d) 10).toNat true 8 : Nat)]
theorem shape17_is {S : St} (h : Right S) {d : Nat} (hd : d < S.objs.length) : shape17 S d = shapeN S d := by
  obtain ⟨hc0, hc1⟩ := h.card hd
  obtain ⟨s1, s2, _⟩ := card_says (gt (rowAt S.objs d) 0).toNat (by omega)
  have k1 : 0 ≤ (kindN S d).says := s1
  have k2 : (kindN S d).says < 256 := s2
  obtain ⟨w1, w2⟩ := h.num hd (f := 10) (by decide)
  have e1 : gt (objBounds S.objs.length) (10 * 2) = 0 := rfl
  have e2 : gt (objBounds S.objs.length) (10 * 2 + 1) = 255 := rfl
  rw [e1] at w1
  rw [e2] at w2
  have hb := Beside.all (S := S) (d := d) (o8 := gt (rowAt S.objs d) 8) (o9 := gt (rowAt S.objs d) 9) (B := becTo S d (staticsN S).length) (staticsN S) (e := ev0 S d) (b := ((kindN S d).pw, (kindN S d).tf)) (p := (wrap64 ((becTo S d (staticsN S).length).1 + gt (rowAt S.objs d) 7), wrap64 ((becTo S d (staticsN S).length).2 + gt (rowAt S.objs d) 7))) (wd := (kindN S d).says.toNat) (statics_fine h)
    ⟨rfl, rfl, by show wrap64 (wrap64 _ + _) = wrap64 (_ + (gt (rowAt S.objs d) 7 + gt (rowAt S.objs d) 8)); unfold wrap64; omega, by show wrap64 (wrap64 _ + _) = wrap64 (_ + (gt (rowAt S.objs d) 7 + gt (rowAt S.objs d) 9)); unfold wrap64; omega, by show (kindN S d).says = _; omega, by omega⟩
  unfold shape17 shapeN evN
  simp only [becTo, pumTo, wdTo, List.take_length] at hb ⊢
  rw [hb.mp, hb.mt, hb.ww, hb.bp, hb.bt, show gt (rowAt S.objs d) 10 = ((gt (rowAt S.objs d) 10).toNat : Int) by omega, bits_or_nat _ _ hb.lt (by omega), Int.toNat_natCast, turn_or _ _ (by have := hb.lt; omega) (by omega)]
end Go.Proofs.YtnjdkkgkaafdbaaGreatDoor
