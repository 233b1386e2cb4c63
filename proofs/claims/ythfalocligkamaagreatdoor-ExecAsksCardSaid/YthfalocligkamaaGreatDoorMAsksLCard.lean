/- A job's cells; the walk of law 22's context. The law ExecAsks, walked. The law ExecAsks holds for any input. The law ExecAsks holds for any input: the tied card. -/
import Derived.Test.YthfalocligkamaaGreatDoorMEx4
import Derived.Test.YthfalocligkamaaGreatDoorMAk1
import Derived.Test.YthfalocligkamaaGreatDoorMIs19
import Derived.Test.YthfalocligkamaaGreatDoorMLawS
import Derived.Test.YthfalocligkamaaGreatDoorMAl22a
import Derived.Test.YthfalocligkamaaGreatDoorMRef08j
import Derived.Test.YthfalocligkamaaGreatDoorCards
import Derived.Test.YthfalocligkamaaGreatDoorTie
namespace Go.Proofs.YthfalocligkamaaGreatDoor
open Go Go.RowKit Go.Shelf
@[go_sem] theorem yb9 (op n m who : Int) (a : Option Addr) (k c : Nat) (x : Ctx) : (zeo op n m who a k c x).size = 9 := by simp [zeo]
@[go_sem] theorem yiz (op n m who : Int) (a : Option Addr) (k c : Nat) (x : Ctx) : (zeo op n m who a k c x)[0]? = some (I op) := rfl
@[go_sem] theorem yi0 (op n m who : Int) (a : Option Addr) (k c : Nat) (x : Ctx) : (zeo op n m who a k c x)[1]? = some (I n) := rfl
@[go_sem] theorem yi1 (op n m who : Int) (a : Option Addr) (k c : Nat) (x : Ctx) : (zeo op n m who a k c x)[2]? = some (I m) := rfl
@[go_sem] theorem yi2 (op n m who : Int) (a : Option Addr) (k c : Nat) (x : Ctx) : (zeo op n m who a k c x)[3]? = some (I who) := rfl
@[go_sem] theorem yi3 (op n m who : Int) (a : Option Addr) (k c : Nat) (x : Ctx) : (zeo op n m who a k c x)[4]? = some (.slice a k c) := rfl
@[go_sem] theorem yi4 (op n m who : Int) (a : Option Addr) (k c : Nat) (x : Ctx) : (zeo op n m who a k c x)[5]? = some (I x.src) := rfl
@[go_sem] theorem yi5 (op n m who : Int) (a : Option Addr) (k c : Nat) (x : Ctx) : (zeo op n m who a k c x)[6]? = some (I x.ctl) := rfl
@[go_sem] theorem yi6 (op n m who : Int) (a : Option Addr) (k c : Nat) (x : Ctx) : (zeo op n m who a k c x)[7]? = some (I x.kind) := rfl
@[go_sem] theorem yi7 (op n m who : Int) (a : Option Addr) (k c : Nat) (x : Ctx) : (zeo op n m who a k c x)[8]? = some (I x.tgt) := rfl
@[go_sem] theorem yg8 (op n m who : Int) (a : Option Addr) (k c : Nat) (x : Ctx) (h : 0 < (zeo op n m who a k c x).size) : (zeo op n m who a k c x)[0]'h = I op := by simp [zeo]
@[go_sem] theorem yg9 (op n m who : Int) (a : Option Addr) (k c : Nat) (x : Ctx) (h : 1 < (zeo op n m who a k c x).size) : (zeo op n m who a k c x)[1]'h = I n := by simp [zeo]
@[go_sem] theorem yha (op n m who : Int) (a : Option Addr) (k c : Nat) (x : Ctx) (h : 2 < (zeo op n m who a k c x).size) : (zeo op n m who a k c x)[2]'h = I m := by simp [zeo]
@[go_sem] theorem yhb (op n m who : Int) (a : Option Addr) (k c : Nat) (x : Ctx) (h : 5 < (zeo op n m who a k c x).size) : (zeo op n m who a k c x)[5]'h = I x.src := by simp [zeo]
@[go_sem] theorem yhc (op n m who : Int) (a : Option Addr) (k c : Nat) (x : Ctx) (h : 6 < (zeo op n m who a k c x).size) : (zeo op n m who a k c x)[6]'h = I x.ctl := by simp [zeo]
@[go_sem] theorem yhd (op n m who : Int) (a : Option Addr) (k c : Nat) (x : Ctx) (h : 7 < (zeo op n m who a k c x).size) : (zeo op n m who a k c x)[7]'h = I x.kind := by simp [zeo]
@[go_sem] theorem yhe (op n m who : Int) (a : Option Addr) (k c : Nat) (x : Ctx) (h : 8 < (zeo op n m who a k c x).size) : (zeo op n m who a k c x)[8]'h = I x.tgt := by simp [zeo]
@[go_sem] theorem yez (op n m who : Int) (a : Option Addr) (k c : Nat) (x : Ctx) : zai (zeo op n m who a k c x) = true := by
 simp only [zai, zeo, List.all_toArray, List.all_cons, List.all_nil, Bool.and_true]
 rfl
@[go_sem] theorem yey (op n m who : Int) (a : Option Addr) (k c : Nat) (x : Ctx) : sub (zeo op n m who a k c x) 0 9 = zeo op n m who a k c x := rfl
@[go_sem] theorem yg7 (op n m who : Int) (a : Option Addr) (k c : Nat) (x : Ctx) : sub (zeo op n m who a k c x) 0 5 = exR op n m who a k c := rfl
@[go_sem ↓] theorem ye0 (ρ : Operand → Value) (dst : Option Tmp) (x : Operand) (ty : TypeId) (pos : String) (after : Array Edge) (guard : Option (Nat × Bool)) :
 execOp ρ { dst, op := .load 34 x, type := ty, pos, after, guard } = za3 34 (ρ x) := rfl
@[go_sem ↓] theorem yds (ρ : Operand → Value) (dst : Option Tmp) (x y : Operand) (ty : TypeId) (pos : String) (after : Array Edge) (guard : Option (Nat × Bool)) :
 execOp ρ { dst, op := .store 34 x y, type := ty, pos, after, guard } = zaz 34 (ρ x) (ρ y) := rfl
@[go_sem] theorem z50 (w : World) (b o : Nat) (h : o + 9 ≤ (w.blk b).size) : (za3 34 (.pointer (some ⟨b, o, none⟩))).run Tryz.prog w = .ok (.value (.agg (sub (w.blk b) o 9))) w :=
 zaw w b o 34 9 (by kernel_rfl) (by kernel_rfl) h (by omega)
@[go_sem] theorem z28 (w : World) (b : Nat) (cs : Array Value) (h : (w.blk b).size = 9) (hc : cs.size = 9) (h1 : zai cs = true) (hf : w.free b = true) : (zaz 34 (.pointer (some ⟨b, 0, none⟩)) (.agg cs)).run Tryz.prog w = .ok .skip (w.setRow b cs) :=
 zax w b 34 9 _ (by kernel_rfl) h hc (by omega) hf h1
@[go_sem ↓] theorem yam (ρ : Operand → Value) (dst : Option Tmp) (parts : Array (Nat × Operand)) (ty : TypeId) (pos : String) (after : Array Edge) (guard : Option (Nat × Bool)) :
 execOp ρ { dst, op := .build 39 parts, type := ty, pos, after, guard } = za0 39 (parts.map fun (i, x) => (i, ρ x)) := rfl
@[go_sem] theorem z22 (w : World) (x : Ctx) : (za0 39 #[(0, .int .i64 x.src), (1, .int .i64 x.ctl), (2, .int .i64 x.kind), (3, .int .i64 x.tgt)]).run Tryz.prog w = .ok (.value (.agg (ctR x))) w := by kernel_rfl
theorem zly (w : World) (b : Nat) (h : (w.blk b).size = 4) : (loadVar 39 ⟨b, 0, none⟩).run Tryz.prog w = .ok (.agg (sub (w.blk b) 0 4)) w := by
 have := zny w b 0 (by omega)
 unfold za3 at this
 rw [Sem.run_bind] at this
 simp only [Instr.loadAt, Instr.sureAddr, Sem.run_bind, Sem.run_pure, Result.andThen_ok] at this
 cases hr : (loadVar 39 ⟨b, 0, none⟩).run Tryz.prog w with
 | ok v w' => rw [hr] at this; simp at this; rw [this.1, this.2]
 | halt x w' => rw [hr] at this; simp [Result.andThen] at this
theorem zl9 {fn : Func} {p : Tmp} (h : fn.results = #[.cell p 39]) (tmps : Array Value) (w : World) (b : Nat) (hp : tmps.getD p undef = .pointer (some ⟨b, 0, none⟩)) (h1 : (w.blk b).size = 4) :
 (results fn tmps).run Tryz.prog w = .ok (.agg (sub (w.blk b) 0 4)) w := by
 unfold results
 rw [h]
 have e1 := zly w b h1
 have hp' : tmps[p]?.getD undef = .pointer (some ⟨b, 0, none⟩) := by simpa using hp
 simp [asAddr, hp', e1]
set_option maxRecDepth 100000 in
set_option maxHeartbeats 4000000 in
theorem zot (w : World) (op n m who : Int) (a : Option Addr) (k c : Nat) (x : Ctx) : Calls Tryz.prog 9 #[.agg (zeo op n m who a k c x)] w fun r w' => r = .returned (.agg (ctR x)) ∧ Grow w w' := by
 go_enter Tryz.func9, Tryz.ntmps9
 go_wp2_with fail
 refine bodyPost_ret (zl9 rfl _ _ _ rfl ?_) rfl ?_
 · go_simp
 · exact ⟨by go_simp, grI⟩
end Go.Proofs.YthfalocligkamaaGreatDoor
namespace Go.Proofs.YthfalocligkamaaGreatDoor
open Go Go.RowKit Go.Shelf
set_option maxRecDepth 100000 in
set_option maxHeartbeats 4000000 in
theorem z9c (w : World) (op n m who : Int) (a : Option Addr) (k c : Nat) (x : Ctx) :
 Calls Tryz.prog 8 #[.pointer none, .agg (exR op n m who a k c), .agg (ctR x)] w fun r w' => r = .returned (.tuple #[]) ∧ Grow w w' := by
 have HE := Lib.hid (fun W => by have := zsf W W (Grow.refl _); rw [zap (show (4 : Int) ≠ 0 by decide)] at this; exact this)
 go_enter Tryz.func8, Tryz.ntmps8
 go_wp2_with (go_at_call 17; refine (HE.out _).mono ?_; rintro e' w' ⟨rfl, nx, rfl⟩)
 refine bodyPost_ret (results_none rfl _ _ _) rfl ?_
 exact ⟨rfl, grI⟩
theorem zwj {S : St} (hS : Small S) (n ctl src : Int) : (groupN S n ctl src).length ≤ 1048576 := by
 unfold groupN
 split
 · simp
 · exact Nat.le_trans (List.length_filter_le _ _) (hS.list 8 (by omega))
set_option maxRecDepth 100000 in
set_option maxHeartbeats 8000000 in
theorem z0d (T8 : zgg) (S : St) (V : SV) (w : World) (R : RepSt w V S) (GL : GlobE w (fun k => w.heap.size ≤ k)) (HA : ∀ W, Grow w W → Calls Tryz.prog 6 #[] W fun e w' => e = .returned (.bool true) ∧ Grow W w') (e : Eff) (x : Ctx) :
 Calls Tryz.prog 3 #[.agg (stA V S.num), .agg (zeo e.op e.n e.m e.who e.a e.subs.length e.c x)] w fun r w' => r = .returned (.bool true) ∧ Grow w w' := by
 generalize e.op = op
 generalize e.n = n
 generalize e.m = m
 generalize e.who = who
 generalize e.a = a
 generalize e.subs.length = k
 generalize e.c = c
 have HAl := Lib.hid HA
 have HLo := Lib.hid (fun W (g : Grow w W) => z2j S V 40 (by omega) W (R.grow g))
 cases hl : zpe S 40 with
 | true =>
   rw [hl] at HLo
   clear R GL hl HA T8
   go_enter Tryz.func3, Tryz.ntmps3
   go_wp2_with (first | (go_at_call 6; refine (HAl.out _ grI).mono ?_; rintro e' w' ⟨rfl, nx, rfl⟩) | (go_at_call 7; refine (HLo.out _ grI).mono ?_; rintro e' w' ⟨rfl, nx, rfl⟩))
   go_ret
   exact ⟨rfl, grI⟩
 | false =>
 have hSm := (zsz 40 hl).small (show 50 ≤ 1048576 by omega)
 rw [hl] at HLo
 have hrs : checkN S = 0 → ∀ W, Grow w W → RS S V W := fun hc W g => ⟨R.grow g, (zbi S).1 hc, hSm, GL.base.grow g⟩
 have HG1 : Hid (∀ W, Grow w W → Calls Tryz.prog 12 #[.agg (stA V S.num), .int .i64 n, .agg (ctR x)] W fun e w' => ∃ s : Sl, e = .returned s.val ∧ Ints w' s (groupN S n x.ctl x.src) ∧ Grow W w') := fun W g => by
  by_cases hc : checkN S = 0
  · refine (zli S V W (hrs hc W g) x n).mono ?_
    rintro e w' ⟨s, h1, h2, _, h3⟩
    exact ⟨s, h1, h2, h3⟩
  · exact zuc S V W (R.grow g) hSm (GL.base.grow g) hc n x
 have HG2 : Hid (∀ W, Grow w W → Calls Tryz.prog 10 #[.agg (stA V S.num), .int .i64 n, .agg (ctR x)] W fun e w' => ∃ s : Sl, e = .returned s.val ∧ Ints w' s (groupN S n x.ctl x.src) ∧ Grow W w') := fun W g => by
  by_cases hc : checkN S = 0
  · exact zsm T8 S V W (hrs hc W g) n x
  · exact zwk S V W (R.grow g) hSm hc n x
 have HH1 : Hid (∀ W, Grow w W → Calls Tryz.prog 13 #[.agg (stA V S.num), .agg (exR op n m who a k c), .int .i64 x.ctl] W fun e w' => e = .returned (.bool (holdsB S n m x.ctl)) ∧ Grow W w') := fun W g => by
  by_cases hc : checkN S = 0
  · exact zud S V W (hrs hc W g) op n m who a k c x.ctl
  · exact zue S V W (R.grow g) hSm (GL.base.grow g) hc op n m who a k c x.ctl
 have HH2 : Hid (∀ W, Grow w W → Calls Tryz.prog 14 #[.agg (stA V S.num), .agg (exR op n m who a k c), .int .i64 x.ctl] W fun e w' => e = .returned (.bool (holdsB S n m x.ctl)) ∧ Grow W w') := fun W g => by
  by_cases hp : x.ctl = 0 ∨ x.ctl = 1
  · by_cases hc : checkN S = 0
    · exact zm5 T8 S V W (hrs hc W g) op n m who a k c x.ctl hp
    · exact zo9 S V W (R.grow g) hSm hc op n m who a k c x.ctl hp
  · exact zsq S V W op n m who a k c x.ctl hp
 have HIn := Lib.hid (fun W s1 s2 (R1 : Ints W s1 (groupN S n x.ctl x.src)) (R2 : Ints W s2 (groupN S n x.ctl x.src)) => zwy W s1 s2 _ R1 R2 (zwj hSm n x.ctl x.src))
 have HCx := Lib.hid (fun W => zot W op n m who a k c x)
 have HDo := Lib.hid (fun W => z9c W op n m who a k c x)
 clear R GL hl HA T8 hSm hrs
 generalize groupN S n x.ctl x.src = L at *
 generalize holdsB S n m x.ctl = B at *
 go_enter Tryz.func3, Tryz.ntmps3
 go_wp2_with (first | (go_at_call 6; refine (HAl.out _ grI).mono ?_; rintro e' w' ⟨rfl, m1, rfl⟩) | (go_at_call 7; refine (HLo.out _ grI).mono ?_; rintro e' w' ⟨rfl, m2, rfl⟩))
 refine zab (by kernel_rfl) (by kernel_rfl) ?_; (repeat (go_big_quiet_step ( (first | (go_at_call 9; first | refine Calls.grow2 (HCx.out _) | refine Calls.grow (HCx.out _)) | (go_at_call 8; first | refine Calls.grow2 (HDo.out _) | refine Calls.grow (HDo.out _))) ))); refine wpQuiet_nil ?_; rintro _ ⟨nx, rfl⟩
 go_wp2_with fail
 go_region_held3 (fun W => W.blk w.heap.size = stA V S.num ∧ W.blk (w.heap.size + 1) = zeo op n m who a k c x ∧ W.cell? ⟨w.heap.size + 1, 1, none⟩ = some (I n) ∧ W.cell? ⟨w.heap.size + 1, 6, none⟩ = some (I x.ctl)) (simp [go_sem, *]) (first | (go_at_call 9; refine (HCx.out _).mono ?_; rintro e' w' ⟨rfl, n3, rfl⟩) | (go_at_call 10; refine (HG2.out _ grI).mono ?_; rintro e' w' ⟨s1, rfl, hI1, n4, rfl⟩; (try simp only [zae] at hI1); (try simp only [zad] at hI1); have HI1 := Lib.hid hI1; clear hI1))
 all_goals
  go_wp2_with fail
  go_region_held3 (fun W => W.blk w.heap.size = stA V S.num ∧ W.blk (w.heap.size + 1) = zeo op n m who a k c x ∧ W.cell? ⟨w.heap.size + 1, 1, none⟩ = some (I n) ∧ W.cell? ⟨w.heap.size + 1, 6, none⟩ = some (I x.ctl)) (simp [go_sem, *]) (first | (go_at_call 9; refine (HCx.out _).mono ?_; rintro e' w' ⟨rfl, n5, rfl⟩) | (go_at_call 12; refine (HG1.out _ grI).mono ?_; rintro e' w' ⟨s2, rfl, hI2, n6, rfl⟩; (try simp only [zae] at hI2); (try simp only [zad] at hI2); have HI2 := Lib.hid hI2; clear hI2) | (go_at_call 11; refine (HIn.out _ s2 s1 (HI2.out.grow grI) (HI1.out.grow grI)).mono ?_; rintro e' w' ⟨rfl, n7, rfl⟩) | (go_at_call 13; refine (HH1.out _ grI).mono ?_; rintro e' w' ⟨rfl, n8, rfl⟩) | (go_at_call 14; refine (HH2.out _ grI).mono ?_; rintro e' w' ⟨rfl, n9, rfl⟩))
  all_goals
   go_wp2_with fail
   go_ret
   exact ⟨rfl, grI⟩
end Go.Proofs.YthfalocligkamaaGreatDoor
namespace Go.Proofs.YthfalocligkamaaGreatDoor
open Go Go.RowKit Go.ChangeShapes Go.WideShapes Go.ChangeAt
theorem zik (os : Os) (args : Array Value) : laidMetH Tryz.prog zw0 ((World.doorLaid Tryz.prog 400 os).forCall (fun _ _ => 0) ⟨#[], args, []⟩).memory :=
 laidMetH_of_parts3 (fuel := 8) (laidMet_of_run' 8 (by kernel_rfl) (by kernel_rfl)) (by kernel_rfl) (by kernel_rfl)
def zja : Value := .agg ((List.replicate 12 (Value.slice none 0 0) ++ List.replicate 25 (Value.int .i64 0)).toArray)
set_option maxRecDepth 100000 in
theorem zjb (os : Os) (started : os.Started) (H : Type) (enc : TypeId × Value → H) :
 ReturnsInHanded {} Tryz.checked os 3 .any (fun w args => (Rows.execAsksSpec.pre enc Tryz.prog Tryz.f3 [] false w args ∧ laidMetH Tryz.prog zw0 w) ∧ sizedMet enc Tryz.prog Tryz.f3 (OpenSpec.ofChange Rows.execAsksSpec) false w args)
  (Rows.execAsksSpec.post enc Tryz.prog Tryz.f3 false true false false) := by
 refine returnsInHanded_of_change_and (C := Tryz.checked) (X := fun w _ => laidMetH Tryz.prog zw0 w) (fun _ _ _ hh h => h.of_heap hh) z2w started (by kernel_rfl) Tryz.func3
  (ChangeSpec.witness_shaped (enc := enc) (C := Tryz.checked) (os := os) (X := fun w _ => laidMetH Tryz.prog zw0 w) false (World.doorLaid Tryz.prog 400 os) #[zja, .agg #[.int .i64 0, .int .i64 0, .int .i64 0, .int .i64 0, .slice none 0 0, .int .i64 0, .int .i64 0, .int .i64 0, .int .i64 0]] 8 rfl (World.shaped_of_RefB (by kernel_rfl) (by kernel_rfl)) (by kernel_rfl) (by kernel_rfl) (by kernel_rfl) (zik os _)) ?_
 intro W base args ds gs before hval0 hW _ _ hL _
 have hval : ∀ (j : Nat) t v, Tryz.f3.params[j]? = some t → args[j]? = some v → Value.okWide Tryz.prog W .any base t v := hval0
 have hW' := hW
 obtain ⟨p, q, hA0, hV, rfl, _, _⟩ := hW
 have hA : DataW.TrodAll enc Tryz.prog W 0 (fun _ => true) true Tryz.f3.params.toList args.toList ds p := hA0
 rw [Tryz.params3] at hA hval
 obtain ⟨v0, v1, d0, d1, p0, p1, rfl, rfl, rfl, h0, h1⟩ := trodAll_two hA
 obtain ⟨rfl, rfl⟩ := trodVars_none hV
 obtain ⟨V0, S0, rfl, R0⟩ := zs3 (hval 0 29 v0 rfl rfl) h0
 obtain ⟨e1, x1, rfl, _, _⟩ := z2r (hval 1 34 v1 rfl rfl) h1
 refine (z0d z89 S0 V0 W R0 (zga hL) (fun W' g => zmq W' ((zga hL).kept (g.kept _) (fun _ hk => Or.inr (Nat.le_trans g.below.size hk)))) e1 x1).mono fun e W' ⟨he, hg⟩ => ?_
 subst he
 exact ⟨_, rfl, z2h zna hW' rfl (by kernel_rfl) Tryz.underlying4 (by kernel_rfl) rfl rfl rfl hg.below⟩
theorem zj9 : Rows.ExecAsksSaid :=
 OpenClaim.holds_of_wide 3 Tryz.f3 rfl rfl rfl rfl rfl rfl rfl ⟨rfl, rfl, rfl, rfl, rfl⟩ rfl rfl rfl rfl rfl (by kernel_rfl) Tryz.func3 (by kernel_rfl)
  (of_decide_eq_true (by kernel_rfl)) (by unfold Func.isWrapper; first | (rw [if_pos (by decide +kernel)]; kernel_rfl) | (rw [if_neg (by decide +kernel)]; exact ⟨rfl, rfl⟩))
  (fun os started H enc _ => zjb os started H enc)
end Go.Proofs.YthfalocligkamaaGreatDoor
namespace Go.Proofs.YthfalocligkamaaGreatDoor
open Go
theorem execAsks_holds : Rows.ExecAsksCardSaid :=
 Claim7.holds_tied_plain_at .later [] [.data, .data, .widerDeep, .data] true (true, "a942ba97d376df00589286b7d4fd8ac35564eab8344dff009d50cba75b3272e4") true
  zj9 (fun _ h => by cases h) (by kernel_rfl) (fun _ h => by cases h) execAsks_row_tie rfl ⟨rfl, rfl⟩ (by kernel_rfl) rfl
  (fun f fn hf hfn => by
    obtain rfl : f = 3 := Option.some.inj (hf.symm.trans (by kernel_rfl))
    obtain rfl : fn = Tryz.f3 := (Option.some.inj (Tryz.func3.symm.trans hfn)).symm
    exact ⟨by kernel_rfl, fun j t ht => by
     rw [Tryz.params3] at ht
     have hm : t ∈ [29, 34] := by simpa using Array.mem_of_getElem? ht
     have hall : ([29, 34].all fun u => !Tryz.prog.wantsStandIn u) = true := by kernel_rfl
     exact (show Tryz.prog.wantsStandIn t = false by simpa using List.all_eq_true.1 hall t hm)⟩)
  (by kernel_rfl)
end Go.Proofs.YthfalocligkamaaGreatDoor
