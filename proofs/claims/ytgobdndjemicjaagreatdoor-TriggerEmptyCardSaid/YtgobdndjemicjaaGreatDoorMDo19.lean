/-
  An act of an emitter without an error.
-/
import Derived.Test.YtgobdndjemicjaaGreatDoorMShuf
import Derived.Test.YtgobdndjemicjaaGreatDoorMAc1
namespace Go.Proofs.YtgobdndjemicjaaGreatDoor
open Go Go.RowKit Go.Shelf

/-- What an act does. -/
def Em.act (E : Em) (k a b c : Int) : Em :=
  if k = 0 then E.setObj a b c else if k = 1 then E.setPl a b c else if k = 2 then E.setGame a b else if k = 3 then E.put a b else if k = 4 then E.make a b c else if k = 5 then E.life a b else if k = 6 then E.mana a b c else if k = 7 then E.draw a else if k = 8 then E.pick a
  else if k = 9 then E.shuffle a else if k = 10 then E.show a b else if k = 11 then E.taken else E
/-- What the acts ask of an emitter. -/
structure Rdy (w : World) (own : Nat → Prop) (E : Em) : Prop where
  err : E.err = 0
  ok : EmOk E 131072
  glob : GlobE w own
  zone : ∀ i, i < E.now.objs.length → 0 ≤ gt (rowAt E.now.objs i) 3 ∧ gt (rowAt E.now.objs i) 3 < 11
  nums : NumsIn E.now
  draws : E.draws.length ≤ 1048576
  cur : E.now.num 23 ≤ 1073741824
set_option maxRecDepth 100000 in
set_option maxHeartbeats 2000000 in
theorem do19_Set (w : World) (b : Nat) (own : Nat → Prop) (E : Em) (R : Emt w b own E) (D : Rdy w own E) (a b1 c : Int) :
    Calls Tryz.prog 28 #[.pointer (some ⟨b, 0, none⟩), .agg (cellsOf [0, a, b1, c])] w fun e w' => (∃ v : Int, e = .returned (.int .i64 v)) ∧ EPost w b own (E.setObj a b1 c) w' := by
  obtain ⟨he, K, GL, hz, hnum, hdr, hcur⟩ := D
  have H := Lib.hid (fun W (g : Grow w W) => esetObj_any W b own E (R.grow g) 131072 K (by omega) a b1 c)
  have hg : gt [0, a, b1, c] 0 = 0 := rfl
  have hg1 : gt [0, a, b1, c] 1 = a := rfl
  have hg2 : gt [0, a, b1, c] 2 = b1 := rfl
  have hg3 : gt [0, a, b1, c] 3 = c := rfl
  clear R he K GL hz hnum hdr hcur
  go_enter Tryz.func28, Tryz.ntmps28
  go_wp2_with (go_at_call 69; refine ((H.out _ grI).mono ?_); rintro e' w' ⟨rfl, hE⟩; have HE := Lib.hid hE; clear hE)
  go_ret
  exact ⟨⟨_, rfl⟩, EPost.low grI HE.out⟩
set_option maxRecDepth 100000 in
set_option maxHeartbeats 2000000 in
theorem do19_Player (w : World) (b : Nat) (own : Nat → Prop) (E : Em) (R : Emt w b own E) (D : Rdy w own E) (a b1 c : Int) :
    Calls Tryz.prog 28 #[.pointer (some ⟨b, 0, none⟩), .agg (cellsOf [1, a, b1, c])] w fun e w' => (∃ v : Int, e = .returned (.int .i64 v)) ∧ EPost w b own (E.setPl a b1 c) w' := by
  obtain ⟨he, K, GL, hz, hnum, hdr, hcur⟩ := D
  have H := Lib.hid (fun W (g : Grow w W) => esetPl_any W b own E (R.grow g) 131072 K (by omega) a b1 c)
  have hg : gt [1, a, b1, c] 0 = 1 := rfl
  have hg1 : gt [1, a, b1, c] 1 = a := rfl
  have hg2 : gt [1, a, b1, c] 2 = b1 := rfl
  have hg3 : gt [1, a, b1, c] 3 = c := rfl
  clear R he K GL hz hnum hdr hcur
  go_enter Tryz.func28, Tryz.ntmps28
  go_wp2_with (go_at_call 70; refine ((H.out _ grI).mono ?_); rintro e' w' ⟨rfl, hE⟩; have HE := Lib.hid hE; clear hE)
  go_ret
  exact ⟨⟨_, rfl⟩, EPost.low grI HE.out⟩
set_option maxRecDepth 100000 in
set_option maxHeartbeats 2000000 in
theorem do19_Game (w : World) (b : Nat) (own : Nat → Prop) (E : Em) (R : Emt w b own E) (D : Rdy w own E) (a b1 c : Int) :
    Calls Tryz.prog 28 #[.pointer (some ⟨b, 0, none⟩), .agg (cellsOf [2, a, b1, c])] w fun e w' => (∃ v : Int, e = .returned (.int .i64 v)) ∧ EPost w b own (E.setGame a b1) w' := by
  obtain ⟨he, K, GL, hz, hnum, hdr, hcur⟩ := D
  have H := Lib.hid (fun W (g : Grow w W) => esetGame_any W b own E (R.grow g) 131072 K (by omega) a b1)
  have hg : gt [2, a, b1, c] 0 = 2 := rfl
  have hg1 : gt [2, a, b1, c] 1 = a := rfl
  have hg2 : gt [2, a, b1, c] 2 = b1 := rfl
  have hg3 : gt [2, a, b1, c] 3 = c := rfl
  clear R he K GL hz hnum hdr hcur
  go_enter Tryz.func28, Tryz.ntmps28
  go_wp2_with (go_at_call 52; refine ((H.out _ grI).mono ?_); rintro e' w' ⟨rfl, hE⟩; have HE := Lib.hid hE; clear hE)
  go_ret
  exact ⟨⟨_, rfl⟩, EPost.low grI HE.out⟩
set_option maxRecDepth 100000 in
set_option maxHeartbeats 2000000 in
theorem do19_Put (w : World) (b : Nat) (own : Nat → Prop) (E : Em) (R : Emt w b own E) (D : Rdy w own E) (a b1 c : Int) :
    Calls Tryz.prog 28 #[.pointer (some ⟨b, 0, none⟩), .agg (cellsOf [3, a, b1, c])] w fun e w' => (∃ v : Int, e = .returned (.int .i64 v)) ∧ EPost w b own (E.put a b1) w' := by
  obtain ⟨he, K, GL, hz, hnum, hdr, hcur⟩ := D
  have H := Lib.hid (fun W (g : Grow w W) => eput_any W b own E (R.grow g) 131072 K (by omega) (GL.grow g) (fun _ => hz) a b1)
  have hg : gt [3, a, b1, c] 0 = 3 := rfl
  have hg1 : gt [3, a, b1, c] 1 = a := rfl
  have hg2 : gt [3, a, b1, c] 2 = b1 := rfl
  have hg3 : gt [3, a, b1, c] 3 = c := rfl
  clear R he K GL hz hnum hdr hcur
  go_enter Tryz.func28, Tryz.ntmps28
  go_wp2_with (go_at_call 35; refine ((H.out _ grI).mono ?_); rintro e' w' ⟨rfl, hE⟩; have HE := Lib.hid hE; clear hE)
  go_ret
  exact ⟨⟨_, rfl⟩, EPost.low grI HE.out⟩
set_option maxRecDepth 100000 in
set_option maxHeartbeats 2000000 in
theorem do19_Make (w : World) (b : Nat) (own : Nat → Prop) (E : Em) (R : Emt w b own E) (D : Rdy w own E) (a b1 c : Int) :
    Calls Tryz.prog 28 #[.pointer (some ⟨b, 0, none⟩), .agg (cellsOf [4, a, b1, c])] w fun e w' => (∃ v : Int, e = .returned (.int .i64 v)) ∧ EPost w b own (E.make a b1 c) w' := by
  obtain ⟨he, K, GL, hz, hnum, hdr, hcur⟩ := D
  have H := Lib.hid (fun W (g : Grow w W) => emake_good W b own E (R.grow g) he 131072 K (by omega) a b1 c)
  have hg : gt [4, a, b1, c] 0 = 4 := rfl
  have hg1 : gt [4, a, b1, c] 1 = a := rfl
  have hg2 : gt [4, a, b1, c] 2 = b1 := rfl
  have hg3 : gt [4, a, b1, c] 3 = c := rfl
  clear R he K GL hz hnum hdr hcur
  go_enter Tryz.func28, Tryz.ntmps28
  go_wp2_with (go_at_call 71; refine ((H.out _ grI).mono ?_); rintro e' w' ⟨rfl, hE⟩; have HE := Lib.hid hE; clear hE)
  go_ret
  exact ⟨⟨_, rfl⟩, EPost.low grI HE.out⟩
set_option maxRecDepth 100000 in
set_option maxHeartbeats 2000000 in
theorem do19_Life (w : World) (b : Nat) (own : Nat → Prop) (E : Em) (R : Emt w b own E) (D : Rdy w own E) (a b1 c : Int) :
    Calls Tryz.prog 28 #[.pointer (some ⟨b, 0, none⟩), .agg (cellsOf [5, a, b1, c])] w fun e w' => (∃ v : Int, e = .returned (.int .i64 v)) ∧ EPost w b own (E.life a b1) w' := by
  obtain ⟨he, K, GL, hz, hnum, hdr, hcur⟩ := D
  have H := Lib.hid (fun W (g : Grow w W) => elife_any W b own E (R.grow g) he 131072 K (by omega) hnum a b1)
  have hg : gt [5, a, b1, c] 0 = 5 := rfl
  have hg1 : gt [5, a, b1, c] 1 = a := rfl
  have hg2 : gt [5, a, b1, c] 2 = b1 := rfl
  have hg3 : gt [5, a, b1, c] 3 = c := rfl
  clear R he K GL hz hnum hdr hcur
  go_enter Tryz.func28, Tryz.ntmps28
  go_wp2_with (go_at_call 72; refine ((H.out _ grI).mono ?_); rintro e' w' ⟨rfl, hE⟩; have HE := Lib.hid hE; clear hE)
  go_ret
  exact ⟨⟨_, rfl⟩, EPost.low grI HE.out⟩
set_option maxRecDepth 100000 in
set_option maxHeartbeats 2000000 in
theorem do19_Mana (w : World) (b : Nat) (own : Nat → Prop) (E : Em) (R : Emt w b own E) (D : Rdy w own E) (a b1 c : Int) :
    Calls Tryz.prog 28 #[.pointer (some ⟨b, 0, none⟩), .agg (cellsOf [6, a, b1, c])] w fun e w' => (∃ v : Int, e = .returned (.int .i64 v)) ∧ EPost w b own (E.mana a b1 c) w' := by
  obtain ⟨he, K, GL, hz, hnum, hdr, hcur⟩ := D
  have H := Lib.hid (fun W (g : Grow w W) => emana_any W b own E (R.grow g) he 131072 K (by omega) hnum a b1 c)
  have hg : gt [6, a, b1, c] 0 = 6 := rfl
  have hg1 : gt [6, a, b1, c] 1 = a := rfl
  have hg2 : gt [6, a, b1, c] 2 = b1 := rfl
  have hg3 : gt [6, a, b1, c] 3 = c := rfl
  clear R he K GL hz hnum hdr hcur
  go_enter Tryz.func28, Tryz.ntmps28
  go_wp2_with (go_at_call 73; refine ((H.out _ grI).mono ?_); rintro e' w' ⟨rfl, hE⟩; have HE := Lib.hid hE; clear hE)
  go_ret
  exact ⟨⟨_, rfl⟩, EPost.low grI HE.out⟩
set_option maxRecDepth 100000 in
set_option maxHeartbeats 2000000 in
theorem do19_Draw (w : World) (b : Nat) (own : Nat → Prop) (E : Em) (R : Emt w b own E) (D : Rdy w own E) (a b1 c : Int) :
    Calls Tryz.prog 28 #[.pointer (some ⟨b, 0, none⟩), .agg (cellsOf [7, a, b1, c])] w fun e w' => (∃ v : Int, e = .returned (.int .i64 v)) ∧ EPost w b own (E.draw a) w' := by
  obtain ⟨he, K, GL, hz, hnum, hdr, hcur⟩ := D
  have H := Lib.hid (fun W (g : Grow w W) => edraw_any W b own E (R.grow g) he 131072 K (by omega) (GL.grow g) hz a)
  have hg : gt [7, a, b1, c] 0 = 7 := rfl
  have hg1 : gt [7, a, b1, c] 1 = a := rfl
  have hg2 : gt [7, a, b1, c] 2 = b1 := rfl
  have hg3 : gt [7, a, b1, c] 3 = c := rfl
  clear R he K GL hz hnum hdr hcur
  go_enter Tryz.func28, Tryz.ntmps28
  go_wp2_with (go_at_call 74; refine ((H.out _ grI).mono ?_); rintro e' w' ⟨rfl, hE⟩; have HE := Lib.hid hE; clear hE)
  go_ret
  exact ⟨⟨_, rfl⟩, EPost.low grI HE.out⟩
set_option maxRecDepth 100000 in
set_option maxHeartbeats 2000000 in
theorem do19_Pick (w : World) (b : Nat) (own : Nat → Prop) (E : Em) (R : Emt w b own E) (D : Rdy w own E) (a b1 c : Int) (ha : a ≤ 9223372036854775807) :
    Calls Tryz.prog 28 #[.pointer (some ⟨b, 0, none⟩), .agg (cellsOf [8, a, b1, c])] w fun e w' => (∃ v : Int, e = .returned (.int .i64 v)) ∧ EPost w b own (E.pick a) w' := by
  obtain ⟨he, K, GL, hz, hnum, hdr, hcur⟩ := D
  have H := Lib.hid (fun W (g : Grow w W) => epick_good W b own E (R.grow g) he 131072 K (by omega) hdr hcur a ha)
  have hg : gt [8, a, b1, c] 0 = 8 := rfl
  have hg1 : gt [8, a, b1, c] 1 = a := rfl
  have hg2 : gt [8, a, b1, c] 2 = b1 := rfl
  have hg3 : gt [8, a, b1, c] 3 = c := rfl
  clear R he K GL hz hnum hdr hcur ha
  go_enter Tryz.func28, Tryz.ntmps28
  go_wp2_with (go_at_call 75; refine ((H.out _ grI).mono ?_); rintro e' w' ⟨rfl, hE⟩; have HE := Lib.hid hE; clear hE)
  go_ret
  exact ⟨⟨_, rfl⟩, EPost.low grI HE.out⟩
set_option maxRecDepth 100000 in
set_option maxHeartbeats 2000000 in
theorem do19_Shuffle (w : World) (b : Nat) (own : Nat → Prop) (E : Em) (R : Emt w b own E) (D : Rdy w own E) (a b1 c : Int) :
    Calls Tryz.prog 28 #[.pointer (some ⟨b, 0, none⟩), .agg (cellsOf [9, a, b1, c])] w fun e w' => (∃ v : Int, e = .returned (.int .i64 v)) ∧ EPost w b own (E.shuffle a) w' := by
  obtain ⟨he, K, GL, hz, hnum, hdr, hcur⟩ := D
  have H := Lib.hid (fun W (g : Grow w W) => eshuffle_any W b own E (R.grow g) he 131072 K (by omega) hdr hcur a)
  have hg : gt [9, a, b1, c] 0 = 9 := rfl
  have hg1 : gt [9, a, b1, c] 1 = a := rfl
  have hg2 : gt [9, a, b1, c] 2 = b1 := rfl
  have hg3 : gt [9, a, b1, c] 3 = c := rfl
  clear R he K GL hz hnum hdr hcur
  go_enter Tryz.func28, Tryz.ntmps28
  go_wp2_with (go_at_call 76; refine ((H.out _ grI).mono ?_); rintro e' w' ⟨rfl, hE⟩; have HE := Lib.hid hE; clear hE)
  go_ret
  exact ⟨⟨_, rfl⟩, EPost.low grI HE.out⟩
set_option maxRecDepth 100000 in
set_option maxHeartbeats 2000000 in
theorem do19_Show (w : World) (b : Nat) (own : Nat → Prop) (E : Em) (R : Emt w b own E) (D : Rdy w own E) (a b1 c : Int) :
    Calls Tryz.prog 28 #[.pointer (some ⟨b, 0, none⟩), .agg (cellsOf [10, a, b1, c])] w fun e w' => (∃ v : Int, e = .returned (.int .i64 v)) ∧ EPost w b own (E.show a b1) w' := by
  obtain ⟨he, K, GL, hz, hnum, hdr, hcur⟩ := D
  have H := Lib.hid (fun W (g : Grow w W) => eshow_any W b own E (R.grow g) 131072 K (by omega) a b1)
  have hg : gt [10, a, b1, c] 0 = 10 := rfl
  have hg1 : gt [10, a, b1, c] 1 = a := rfl
  have hg2 : gt [10, a, b1, c] 2 = b1 := rfl
  have hg3 : gt [10, a, b1, c] 3 = c := rfl
  clear R he K GL hz hnum hdr hcur
  go_enter Tryz.func28, Tryz.ntmps28
  go_wp2_with (go_at_call 77; refine ((H.out _ grI).mono ?_); rintro e' w' ⟨rfl, hE⟩; have HE := Lib.hid hE; clear hE)
  go_ret
  exact ⟨⟨_, rfl⟩, EPost.low grI HE.out⟩
set_option maxRecDepth 100000 in
theorem do19_Taken (w : World) (b : Nat) (own : Nat → Prop) (E : Em) (R : Emt w b own E) (D : Rdy w own E) (a b1 c : Int) :
    Calls Tryz.prog 28 #[.pointer (some ⟨b, 0, none⟩), .agg (cellsOf [11, a, b1, c])] w fun e w' => (∃ v : Int, e = .returned (.int .i64 v)) ∧ EPost w b own E.taken w' := by
  have H := Lib.hid (fun W (g : Grow w W) => etaken_good W b own E (R.grow g) D.err (by have := D.ok.pend; omega))
  have hg : gt [11, a, b1, c] 0 = 11 := rfl
  clear R D
  go_enter Tryz.func28, Tryz.ntmps28
  go_wp2_with (go_at_call 78; refine (H.out _ grI).mono ?_; rintro e' w' ⟨s, rfl, _, _, hE⟩; have HE := Lib.hid hE; clear hE)
  go_ret
  exact ⟨⟨_, rfl⟩, EPost.low grI HE.out⟩
set_option maxRecDepth 100000 in
theorem do19_none (w : World) (b : Nat) (own : Nat → Prop) (E : Em) (R : Emt w b own E) (k a b1 c : Int) (hk : ¬ (0 ≤ k ∧ k ≤ 11)) :
    Calls Tryz.prog 28 #[.pointer (some ⟨b, 0, none⟩), .agg (cellsOf [k, a, b1, c])] w fun e w' => (∃ v : Int, e = .returned (.int .i64 v)) ∧ EPost w b own E w' := by
  have HR := Lib.hid R
  obtain ⟨k0, k1, k2, k3, k4, k5, k6, k7, k8, k9, k10, k11⟩ : (gt [k, a, b1, c] 0 == 0) = false ∧ (gt [k, a, b1, c] 0 == 1) = false ∧ (gt [k, a, b1, c] 0 == 2) = false ∧ (gt [k, a, b1, c] 0 == 3) = false ∧ (gt [k, a, b1, c] 0 == 4) = false ∧ (gt [k, a, b1, c] 0 == 5) = false ∧ (gt [k, a, b1, c] 0 == 6) = false ∧ (gt [k, a, b1, c] 0 == 7) = false ∧ (gt [k, a, b1, c] 0 == 8) = false ∧ (gt [k, a, b1, c] 0 == 9) = false ∧ (gt [k, a, b1, c] 0 == 10) = false ∧ (gt [k, a, b1, c] 0 == 11) = false := by
    have : gt [k, a, b1, c] 0 = k := rfl
    rw [this]
    simp
    omega
  clear hk R
  go_enter Tryz.func28, Tryz.ntmps28
  go_wp2_with fail
  go_ret
  exact ⟨⟨_, rfl⟩, .of_grow HR.out grI⟩
theorem do19_any (w : World) (b : Nat) (own : Nat → Prop) (E : Em) (R : Emt w b own E) (D : Rdy w own E) (k a b1 c : Int) (ha : a ≤ 9223372036854775807) :
    Calls Tryz.prog 28 #[.pointer (some ⟨b, 0, none⟩), .agg (cellsOf [k, a, b1, c])] w fun e w' => (∃ v : Int, e = .returned (.int .i64 v)) ∧ EPost w b own (E.act k a b1 c) w' := by
  by_cases h : 0 ≤ k ∧ k ≤ 11
  · have : k = 0 ∨ k = 1 ∨ k = 2 ∨ k = 3 ∨ k = 4 ∨ k = 5 ∨ k = 6 ∨ k = 7 ∨ k = 8 ∨ k = 9 ∨ k = 10 ∨ k = 11 := by omega
    rcases this with rfl | rfl | rfl | rfl | rfl | rfl | rfl | rfl | rfl | rfl | rfl | rfl
    · exact do19_Set w b own E R D a b1 c
    · exact do19_Player w b own E R D a b1 c
    · exact do19_Game w b own E R D a b1 c
    · exact do19_Put w b own E R D a b1 c
    · exact do19_Make w b own E R D a b1 c
    · exact do19_Life w b own E R D a b1 c
    · exact do19_Mana w b own E R D a b1 c
    · exact do19_Draw w b own E R D a b1 c
    · exact do19_Pick w b own E R D a b1 c ha
    · exact do19_Shuffle w b own E R D a b1 c
    · exact do19_Show w b own E R D a b1 c
    · exact do19_Taken w b own E R D a b1 c
  · have e : E.act k a b1 c = E := by unfold Em.act; (repeat' (rw [if_neg (by omega)]))
    rw [e]
    exact do19_none w b own E R k a b1 c (by omega)
end Go.Proofs.YtgobdndjemicjaaGreatDoor
