/-
  The document's shape: the walk.
-/
import Derived.Test.YtnjdkkgkaafdbaaGreatDoorMRef17
import Derived.Test.YtnjdkkgkaafdbaaGreatDoorMRc1
namespace Go.Proofs.YtnjdkkgkaafdbaaGreatDoor
open Go Go.RowKit

@[go_sem ↓] theorem load_Shape17 (ρ : Operand → Value) (dst : Option Tmp) (x : Operand) (ty : TypeId) (pos : String) (after : Array Edge) (guard : Option (Nat × Bool)) :
    execOp ρ { dst, op := .load 64 x, type := ty, pos, after, guard } = ldRow 64 (ρ x) := rfl
@[go_sem ↓] theorem store_Shape17 (ρ : Operand → Value) (dst : Option Tmp) (x y : Operand) (ty : TypeId) (pos : String) (after : Array Edge) (guard : Option (Nat × Bool)) :
    execOp ρ { dst, op := .store 64 x y, type := ty, pos, after, guard } = stRow 64 (ρ x) (ρ y) := rfl
@[go_sem] theorem run_load_Shape17 (w : World) (b o : Nat) (h : o + 3 ≤ (w.blk b).size) : (ldRow 64 (.pointer (some ⟨b, o, none⟩))).run Tryz.prog w = .ok (.value (.agg (sub (w.blk b) o 3))) w :=
  run_ldSub w b o 64 3 (by kernel_rfl) (by kernel_rfl) h (by omega)
@[go_sem] theorem run_store_Shape17 (w : World) (b : Nat) (cs : Array Value) (h : (w.blk b).size = 3) (hc : cs.size = 3) (h1 : oneCells cs = true) (hf : w.free b = true) : (stRow 64 (.pointer (some ⟨b, 0, none⟩)) (.agg cs)).run Tryz.prog w = .ok .skip (w.setRow b cs) :=
  run_stRow w b 64 3 _ (by kernel_rfl) h hc (by omega) hf h1
@[go_sem ↓] theorem build_shape17 (ρ : Operand → Value) (dst : Option Tmp) (parts : Array (Nat × Operand)) (ty : TypeId) (pos : String) (after : Array Edge) (guard : Option (Nat × Bool)) :
    execOp ρ { dst, op := .build 64 parts, type := ty, pos, after, guard } = bdRow 64 (parts.map fun (i, x) => (i, ρ x)) := rfl
theorem loadVar_Shape17 (w : World) (b : Nat) (h : (w.blk b).size = 3) : (loadVar 64 ⟨b, 0, none⟩).run Tryz.prog w = .ok (.agg (sub (w.blk b) 0 3)) w := by
  have := run_load_Shape17 w b 0 (by omega)
  unfold ldRow at this
  rw [Sem.run_bind] at this
  simp only [Instr.loadAt, Instr.sureAddr, Sem.run_bind, Sem.run_pure, Result.andThen_ok] at this
  cases hr : (loadVar 64 ⟨b, 0, none⟩).run Tryz.prog w with
  | ok v w' => rw [hr] at this; simp at this; rw [this.1, this.2]
  | halt x w' => rw [hr] at this; simp [Result.andThen] at this
theorem results_Shape17 {fn : Func} {p : Tmp} (h : fn.results = #[.cell p 64]) (tmps : Array Value) (w : World) (b : Nat) (hp : tmps.getD p undef = .pointer (some ⟨b, 0, none⟩)) (h1 : (w.blk b).size = 3) :
    (results fn tmps).run Tryz.prog w = .ok (.agg (sub (w.blk b) 0 3)) w := by
  unfold results
  rw [h]
  have e1 := loadVar_Shape17 w b h1
  have hp' : tmps[p]?.getD undef = .pointer (some ⟨b, 0, none⟩) := by simpa using hp
  simp [asAddr, hp', e1]
@[go_sem] theorem run_build_shape17 (w : World) (a b c : Int) : (bdRow 64 #[(0, .int .i64 a), (1, .int .i64 b), (2, .int .i64 c)]).run Tryz.prog w = .ok (.value (.agg (cellsOf [a, b, c]))) w := by kernel_rfl
@[go_sem] theorem indexAt_statics17 (w : World) (s : Sl) (q : IntKind) (i : Int) (h0 : 0 ≤ i) (h1 : i < s.n) : (Instr.indexAt 114 s.val (.int q i)).run Tryz.prog w = .ok (.pointer (some ⟨s.b, s.o + i.toNat * 6, none⟩)) w :=
  run_indexAt_sl w Tryz.underlying114 (fun w => (by kernel_rfl : (sizeOf 120).run Tryz.prog w = .ok 6 w)) s q i h0 h1
theorem StsIs.get {w : World} {n : Nat} {l : List S6} {m : List StN} (h : StsIs w n l m) : l.length = m.length ∧ ∀ (i : Nat) (x : S6) (t : StN), l[i]? = some x → m[i]? = some t → StIs w n x t := by
  induction h with
  | nil => exact ⟨rfl, fun i x t h => by simp at h⟩
  | @snoc l m y u _ h ih =>
    refine ⟨by simp [ih.1], fun i x t hx ht => ?_⟩
    rw [List.getElem?_append] at hx ht
    by_cases hi : i < l.length
    · rw [if_pos hi] at hx
      rw [if_pos (by rw [← ih.1]; exact hi)] at ht
      exact ih.2 i x t hx ht
    · rw [if_neg hi] at hx
      rw [if_neg (by rw [← ih.1]; exact hi)] at ht
      have e1 : i - l.length = 0 := by
        have := (List.getElem?_eq_some_iff.1 hx).1
        simp at this; exact this
      rw [e1] at hx
      rw [← ih.1, e1] at ht
      simp at hx ht
      subst hx ht
      exact h
@[go_sem] theorem run_store_S6 (w : World) (b : Nat) (x : S6) (h : (w.blk b).size = 6) (hf : w.free b = true) : (stRow 120 (.pointer (some ⟨b, 0, none⟩)) (.agg x.arr)).run Tryz.prog w = .ok .skip (w.setRow b x.arr) :=
  run_store_Static17 w b _ h (by simp [S6.arr]) (S6.one x) hf
theorem statics_len {S : St} (hS : Small S) : (staticsN S).length ≤ 2097152 := by
  have hl : (S.list 8).length ≤ 1048576 := hS.list 8 (by decide)
  have key : ∀ l : List Int, (l.flatMap (statsOf S)).length ≤ 2 * l.length := by
    intro l
    induction l with
    | nil => exact Nat.le_refl _
    | cons a l ih =>
      rw [List.flatMap_cons, List.length_append, List.length_cons]
      have h1 : (statsOf S a).length ≤ 2 := by
        unfold statsOf
        rw [List.length_map]
        exact Nat.le_trans (usesN_len _ _) (cardN_abs _)
      omega
  have := key (S.list 8)
  show ((S.list 8).flatMap _).length ≤ _
  omega
theorem wdTo_lt (S : St) (d k e : Nat) (he : e < 256) : wdTo S d k e < 256 := by
  unfold wdTo
  generalize (staticsN S).take k = l
  induction l generalizing e with
  | nil => exact he
  | cons x l ih =>
    rw [List.foldl_cons]
    refine ih _ ?_
    unfold wdS
    split
    · exact turn_lt _ _ _ he
    · exact he
theorem grow_set {w W : World} (A : Obj) (a b c : Int) (g : Grow ((w.alloc A).alloc (.cells (cellsOf [0, 0, 0]) 64)) W) : Grow w (W.setRow (w.heap.size + 1) (cellsOf [a, b, c])) := by
  obtain ⟨x, rfl⟩ := g
  rw [setRow_plus, if_pos (by simp only [alloc_size']; omega)]
  refine Grow.plus ?_ _
  have e : w.heap.size + 1 = (w.alloc A).heap.size := (alloc_size' _ _).symm
  rw [setRow_alloc, if_pos e]
  exact grI
/-- What a round needs of its Static. -/
theorem row17 {w : World} {n : Nat} {s : Sl} {l : List S6} {m : List StN} (h : RowsV w s 6 (l.map S6.arr)) (h' : StsIs w n l m) (k : Nat) (hk : k < m.length) :
    ∃ (x : S6) (t : StN) (who : Int) (sb : Sl), m[k]? = some t ∧ x.src = t.src ∧ x.ef.n = t.grp ∧
      (s.b < w.heap.size ∧ s.o + k * 6 + 6 ≤ (w.blk s.b).size ∧ sub (w.blk s.b) (s.o + k * 6) 6 = x.arr) ∧
      (x.ef.subs.n = 1 ∧ x.ef.subs.b < w.heap.size ∧ x.ef.subs.o + 5 ≤ (w.blk x.ef.subs.b).size ∧ sub (w.blk x.ef.subs.b) x.ef.subs.o 5 = EfV.arr ⟨t.op, t.n, t.m, who, sb⟩) := by
  obtain ⟨hl, hg⟩ := h'.get
  have hkl : k < l.length := by omega
  have hx : l[k]? = some l[k] := List.getElem?_eq_getElem hkl
  have ht : m[k]? = some m[k] := List.getElem?_eq_getElem hk
  obtain ⟨h1, h2, _, who, sb, h3⟩ := hg k _ _ hx ht
  have hr := h.at (by omega) (i := k) (x := (l[k]).arr) (by rw [List.getElem?_map, hx]; rfl)
  have hq := h3.at (by omega) (i := 0) (x := EfV.arr ⟨m[k].op, m[k].n, m[k].m, who, sb⟩) rfl
  simp only [Nat.zero_mul, Nat.add_zero] at hq
  exact ⟨l[k], m[k], who, sb, ht, h1, h2, hr, h3.len, hq⟩
set_option maxRecDepth 100000 in
set_option maxHeartbeats 16000000 in
theorem of17_any (T8 : Table08) : Of17 := by
  intro S V w R hR hS d hd
  have hN := R.objs.len
  obtain ⟨hob, how, hosz, hosub, hocell⟩ := R.objs.at (by omega) d hd
  obtain ⟨⟨t1, t2⟩, ⟨t3, t4⟩, t5, t6⟩ := hR.o7 hd
  have hd' : (d : Int) < S.objs.length := by omega
  have HT := Lib.hid T8
  have HR := Lib.hid R
  have HH := Lib.hid hR
  have HS := Lib.hid hS
  have HF := Lib.hid (shape17_is hR hd)
  obtain ⟨w1, w2⟩ := hR.num hd (f := 10) (by decide)
  have e1 : gt (objBounds S.objs.length) (10 * 2) = 0 := rfl
  have e2 : gt (objBounds S.objs.length) (10 * 2 + 1) = 255 := rfl
  rw [e1] at w1
  rw [e2] at w2
  obtain ⟨rn, hrn⟩ := Int.eq_ofNat_of_zero_le w1
  have hrl : rn ≤ 255 := by omega
  clear hocell R hR hS T8 e1 e2 w1 w2
  have HROW : Hid (shape17 S d = [wrap64 ((pumTo S d (staticsN S).length (wrap64 ((becTo S d (staticsN S).length).1 + gt (rowAt S.objs d) 7), wrap64 ((becTo S d (staticsN S).length).2 + gt (rowAt S.objs d) 7))).1 + gt (rowAt S.objs d) 8), wrap64 ((pumTo S d (staticsN S).length (wrap64 ((becTo S d (staticsN S).length).1 + gt (rowAt S.objs d) 7), wrap64 ((becTo S d (staticsN S).length).2 + gt (rowAt S.objs d) 7))).2 + gt (rowAt S.objs d) 9), (turnTo (wdTo S d (staticsN S).length (kindN S d).says.toNat) (gt (rowAt S.objs d) 10).toNat true 8 : Nat)]) := rfl
  rw [hrn, Int.toNat_natCast] at HROW
  generalize rowAt S.objs d = row at *
  have n1 : ¬ V.objs.b = w.heap.size := by omega
  go_enter Tryz.func37, Tryz.ntmps37
  go_wp2_with fail
  rename (Act → World → Prop) => K
  rename (∀ a w, _ → _) => hK
  have key : ∀ (X : Ext) (b5 b6 : Nat) (c : CdV), c.pw = (kindN S d).pw ∧ c.tf = (kindN S d).tf ∧ c.says = (kindN S d).says →
      w.heap.size + 2 ≤ b5 → b5 < (((w.alloc (.cells (stA V S.num) 29)).alloc (.cells (cellsOf [0, 0, 0]) 64)).plus X).heap.size → (((w.alloc (.cells (stA V S.num) 29)).alloc (.cells (cellsOf [0, 0, 0]) 64)).plus X).cell? ⟨b5, 9, none⟩ = some (I c.pw) → (((w.alloc (.cells (stA V S.num) 29)).alloc (.cells (cellsOf [0, 0, 0]) 64)).plus X).cell? ⟨b5, 10, none⟩ = some (I c.tf) → (((w.alloc (.cells (stA V S.num) 29)).alloc (.cells (cellsOf [0, 0, 0]) 64)).plus X).cell? ⟨b5, 11, none⟩ = some (I c.says) →
      w.heap.size + 2 ≤ b6 → b6 < (((w.alloc (.cells (stA V S.num) 29)).alloc (.cells (cellsOf [0, 0, 0]) 64)).plus X).heap.size → (((w.alloc (.cells (stA V S.num) 29)).alloc (.cells (cellsOf [0, 0, 0]) 64)).plus X).blk b6 = cellsOf row → (((w.alloc (.cells (stA V S.num) 29)).alloc (.cells (cellsOf [0, 0, 0]) 64)).plus X).free b6 = true →
      K { tmps := #[.agg (stA V S.num), .int .i64 (d : Int), .pointer (some ⟨w.heap.size, 0, none⟩), undef, .pointer (some ⟨w.heap.size + 1, 0, none⟩), .pointer (some ⟨b5, 0, none⟩), .pointer (some ⟨b6, 0, none⟩), undef, undef, undef, undef, undef, undef, undef, undef, undef, undef, undef, undef, .agg (stA V S.num), .int .i64 (d : Int), .agg c.arr, .pointer (some ⟨w.heap.size, 0, none⟩), V.objs.val, .int .i64 (d : Int), .pointer (some ⟨V.objs.b, V.objs.o + d * 18, none⟩), .agg (cellsOf row), undef, undef, undef, undef, undef, undef, undef, undef, undef, undef, undef, undef, undef, undef, undef, undef, undef, undef, undef, undef, undef, undef, undef, undef, undef, undef, undef, undef, undef, undef, undef, undef, undef, undef, undef, undef, undef, undef, undef, undef, undef, undef, undef, undef, undef, undef, undef, undef, undef, undef, undef, undef, undef, undef, undef, undef, undef, undef, undef, undef, undef, undef, undef, undef, undef, undef, undef, undef, undef, undef, undef, undef, undef, undef, undef, undef, undef, undef, undef, undef, undef, undef, undef, undef, undef, undef, undef, undef, undef, undef, undef, undef, undef, undef, undef, undef, undef, undef, undef, undef, undef, undef, undef, undef, undef, undef, undef, undef, undef, undef, undef, undef, undef, undef, undef, undef, undef, undef, undef, undef, undef, undef], defers := [] } (((w.alloc (.cells (stA V S.num) 29)).alloc (.cells (cellsOf [0, 0, 0]) 64)).plus X) := by
    intro X b5 b6 c hck g1 g2 g3 g4 g5 g6 g7 g8 g9
    have hc6 := fun j => cell_of_blk g9 g8 j
    have h7 := (hc6 7).trans (cellsOf_get _ _ (by omega))
    have h8 := (hc6 8).trans (cellsOf_get _ _ (by omega))
    have h9 := (hc6 9).trans (cellsOf_get _ _ (by omega))
    have h10 := (hc6 10).trans (cellsOf_get _ _ (by omega))
    clear hc6 g8 g9
    have HCF := Lib.hid (And.intro g3 (And.intro g4 (And.intro g5 (And.intro h7 (And.intro h8 (And.intro h9 h10))))))
    simp only [plus_size, alloc_size'] at g2 g7
    have HCK := Lib.hid hck
    clear g3 g4 g5 h7 h8 h9 h10 hck
    refine hK _ _ ?_
    clear hK K
    obtain ⟨y1, y2, y3, y4, y5, y6, y7⟩ := HCF.out
    obtain ⟨ck1, ck2, ck3⟩ := HCK.out
    obtain ⟨kc0, kc1⟩ := HH.out.card hd
    obtain ⟨sy1, sy2, sy3, sy4, sy5, sy6⟩ := card_says (gt (rowAt S.objs d) 0).toNat (by omega)
    have ky1 : 0 ≤ (kindN S d).says := sy1
    have ky2 : (kindN S d).says < 256 := sy2
    have ky3 : -100 ≤ (kindN S d).pw := sy3
    have ky4 : (kindN S d).pw ≤ 100 := sy4
    have ky5 : -100 ≤ (kindN S d).tf := sy5
    have ky6 : (kindN S d).tf ≤ 100 := sy6
    obtain ⟨sn, hsn⟩ := Int.eq_ofNat_of_zero_le ky1
    have hsl : sn < 256 := by omega
    have hu : IntKind.u64.wrap (sn : Int) = sn := by unfold IntKind.wrap; simp [IntKind.signed, IntKind.bits]; omega
    rw [hsn, Int.toNat_natCast] at HROW
    rw [ck3, hsn] at y3
    rw [ck1] at y1
    rw [ck2] at y2
    have bq : (((w.alloc (.cells (stA V S.num) 29)).alloc (.cells (cellsOf [0, 0, 0]) 64)).plus X).blk w.heap.size = stA V S.num := by go_simp
    have bq1 : (((w.alloc (.cells (stA V S.num) 29)).alloc (.cells (cellsOf [0, 0, 0]) 64)).plus X).blk (w.heap.size + 1) = cellsOf [0, 0, 0] := by go_simp
    have fq1 : (((w.alloc (.cells (stA V S.num) 29)).alloc (.cells (cellsOf [0, 0, 0]) 64)).plus X).free (w.heap.size + 1) = true := by go_simp
    generalize hWX : ((w.alloc (.cells (stA V S.num) 29)).alloc (.cells (cellsOf [0, 0, 0]) 64)).plus X = wx at *
    have hgx : Grow w wx := by rw [← hWX]; exact grI
    have lq : w.heap.size + 1 < wx.heap.size := by rw [← hWX]; simp only [plus_size, alloc_size']; omega
    have hb6 : b6 < wx.heap.size := by rw [← hWX]; simp only [plus_size, alloc_size']; omega
    have hb5 : b5 < wx.heap.size := by rw [← hWX]; simp only [plus_size, alloc_size']; omega
    have HQ := Lib.hid (And.intro bq (And.intro bq1 (And.intro fq1 (And.intro y4 (And.intro y5 (And.intro y6 y7))))))
    have HK := Lib.hid (And.intro hsl (And.intro ky3 (And.intro ky4 (And.intro ky5 ky6))))
    have lq0 : w.heap.size < wx.heap.size := by omega
    have HGB := Lib.hid (show Grow ((w.alloc (.cells (stA V S.num) 29)).alloc (.cells (cellsOf [0, 0, 0]) 64)) wx by rw [← hWX]; exact grI)
    clear hWX HCF HCK ck1 ck2 ck3 kc0 kc1 sy1 sy2 sy3 sy4 sy5 sy6 ky2 ky3 ky4 ky5 ky6 ky1 hsn g2 g7 y4 y5 y6 y7 bq1 fq1
    have HRX := Lib.hid (HR.out.grow hgx)
    have HSF := Lib.hid (statics_fine HH.out)
    clear HR
    have hsl2 := statics_len HS.out
    go_wp2_with fail
    refine wp_region_grow (by kernel_rfl) (by kernel_rfl) ?_; (repeat (go_big_quiet_step ( fail ))); refine wpQuiet_nil ?_; rintro _ ⟨nx, rfl⟩
    go_wp2_with (go_at_call 79; refine (statics17_any HT.out S V _ (HRX.out.grow (grI)) HH.out HS.out).mono ?_; rintro e' w' ⟨s1, l1, rfl, hr1, hs1, nx, rfl⟩; (try simp only [drew_plus] at hr1); (try simp only [plus_plus] at hr1); (try simp only [drew_plus] at hs1); (try simp only [plus_plus] at hs1); have hs1x := Exists.intro (p := fun m => StsIs _ m l1 _) _ hs1; clear hs1; obtain ⟨m1, hs1⟩ := hs1x; have HL1 := Lib.hid (And.intro hr1 hs1); have hn1 : s1.n = (staticsN S).length := hr1.len.trans (by rw [List.length_map]; exact hs1.get.1); clear hr1 hs1)
    go_loopw [7, 8, 37] (fun a b i wr => ∃ k : Nat, k ≤ (staticsN S).length ∧ a = I (becTo S d k).1 ∧ b = I (becTo S d k).2 ∧ i = .int .i64 k ∧ (RowsV wr s1 6 (l1.map S6.arr) ∧ StsIs wr m1 l1 (staticsN S)) ∧ Grow wx wr) (fun _ _ i _ => (staticsN S).length - (intOf i).toNat)
    case atStart =>
      exact ⟨0, by omega, rfl, rfl, rfl, HL1.out, grI⟩
    case round =>
      obtain ⟨k, hk, rfl, rfl, rfl, hRS, hG⟩ := hrel
      have bqr : wr.blk w.heap.size = stA V S.num := by obtain ⟨x, rfl⟩ := hG; go_simp
      have lqr : w.heap.size + 1 < wr.heap.size := by obtain ⟨x, rfl⟩ := hG; simp only [plus_size]; omega
      have lqr0 : w.heap.size < wr.heap.size := by omega
      by_cases hlt : k < (staticsN S).length
      · obtain ⟨xs, t, who, sb, ht, u1, u2, ⟨u3, u4, u5⟩, u6, u7, u8, u9⟩ := row17 hRS.1 hRS.2 k hlt
        have F := HSF.out t (List.mem_of_getElem? ht)
        have HRS := Lib.hid hRS
        have o0 : (0 : Int) < xs.ef.subs.n := by omega
        have o1 : (0 : Int) ≤ (k : Int) ∧ (k : Int) < (s1.n : Int) := by omega
        have HST := Lib.hid (fold_succ (becS S d) S k t ((kindN S d).pw, (kindN S d).tf) ht)
        by_cases hop : t.op = 24
        · cases hr : reachesB S t d with
          | true =>
            have HN : Hid (becTo S d (k + 1) = (t.n, t.m)) := HST.out.trans (if_pos ⟨hop, hr⟩)
            have HW := Lib.hid (fun W (g : Grow wr W) => by have := within_any S V W (HRX.out.grow (hG.trans g)) xs t u1 u2 F d hd; rw [hr] at this; exact this)
            clear hRS u1 u2 ht HQ HF HST hr F
            rw [hop] at u9
            go_wp2_with (go_at_call 80; refine (HW.out _ grI).mono ?_; rintro e' w' ⟨rfl, nx, rfl⟩)
            refine wp_region_grow (by kernel_rfl) (by kernel_rfl) ?_; (repeat (go_big_quiet_step ( fail ))); refine wpQuiet_nil ?_; rintro _ ⟨nx, rfl⟩
            go_wp2_with fail
            go_roundw
            case rel => exact ⟨k + 1, by omega, by rw [HN.out], by rw [HN.out], by go_num, ⟨HRS.out.1.grow grI, HRS.out.2.grow grI⟩, hG.trans grI⟩
            case measure => simp [intOf]; omega
          | false =>
            have HN : Hid (becTo S d (k + 1) = becTo S d k) := HST.out.trans (if_neg (fun h => by rw [hr] at h; exact absurd h.2 (by decide)))
            have HW := Lib.hid (fun W (g : Grow wr W) => by have := within_any S V W (HRX.out.grow (hG.trans g)) xs t u1 u2 F d hd; rw [hr] at this; exact this)
            clear hRS u1 u2 ht HQ HF HST hr F
            rw [hop] at u9
            go_wp2_with (go_at_call 80; refine (HW.out _ grI).mono ?_; rintro e' w' ⟨rfl, nx, rfl⟩)
            go_roundw
            case rel => exact ⟨k + 1, by omega, by rw [HN.out], by rw [HN.out], by go_num, ⟨HRS.out.1.grow grI, HRS.out.2.grow grI⟩, hG.trans grI⟩
            case measure => simp [intOf]; omega
        · have HN : Hid (becTo S d (k + 1) = becTo S d k) := HST.out.trans (if_neg (fun h => hop h.1))
          clear hRS u1 u2 ht HQ HF HST F
          go_wp2_with fail
          go_roundw
          case rel => exact ⟨k + 1, by omega, by rw [HN.out], by rw [HN.out], by go_num, ⟨HRS.out.1.grow grI, HRS.out.2.grow grI⟩, hG.trans grI⟩
          case measure => simp [intOf]; omega
      · obtain rfl : k = (staticsN S).length := by omega
        clear HL1
        obtain ⟨z1, z2, z3, z4, z5, z6, z7⟩ := HQ.out
        have z4 : wr.cell? ⟨b6, 7, none⟩ = some (I (gt row 7)) := by obtain ⟨x, rfl⟩ := hG; rw [plus_cell_lt _ _ _ _ hb6]; exact z4
        have hb6r : b6 < wr.heap.size := by obtain ⟨x, rfl⟩ := hG; simp only [plus_size]; omega
        clear hRS hn1 z1 z2 z3 z5 z6 z7
        go_wp2_with fail
        refine wp_region_grow (by kernel_rfl) (by kernel_rfl) ?_; (repeat (go_big_quiet_step ( fail ))); refine wpQuiet_nil ?_; rintro _ ⟨nx, rfl⟩
        go_wp2_with (go_at_call 79; refine (statics17_any HT.out S V _ (HRX.out.grow (hG.trans grI)) HH.out HS.out).mono ?_; rintro e' w' ⟨s1, l1, rfl, hr1, hs1, nx, rfl⟩; (try simp only [drew_plus] at hr1); (try simp only [plus_plus] at hr1); (try simp only [drew_plus] at hs1); (try simp only [plus_plus] at hs1); have hs1x := Exists.intro (p := fun m => StsIs _ m l1 _) _ hs1; clear hs1; obtain ⟨m1, hs1⟩ := hs1x; have HL1 := Lib.hid (And.intro hr1 hs1); have hn1 : s1.n = (staticsN S).length := hr1.len.trans (by rw [List.length_map]; exact hs1.get.1); clear hr1 hs1)
        go_loopw [7, 8, 71] (fun a b i wr => ∃ k : Nat, k ≤ (staticsN S).length ∧ a = I (pumTo S d k (wrap64 ((becTo S d (staticsN S).length).1 + gt row 7), wrap64 ((becTo S d (staticsN S).length).2 + gt row 7))).1 ∧ b = I (pumTo S d k (wrap64 ((becTo S d (staticsN S).length).1 + gt row 7), wrap64 ((becTo S d (staticsN S).length).2 + gt row 7))).2 ∧ i = .int .i64 k ∧ (RowsV wr s1 6 (l1.map S6.arr) ∧ StsIs wr m1 l1 (staticsN S)) ∧ Grow wx wr) (fun _ _ i _ => (staticsN S).length - (intOf i).toNat)
        case atStart =>
          exact ⟨0, by omega, rfl, rfl, rfl, HL1.out, hG.trans grI⟩
        case round =>
          obtain ⟨k, hk, rfl, rfl, rfl, hRS, hG⟩ := hrel
          have bqr : wr.blk w.heap.size = stA V S.num := by obtain ⟨x, rfl⟩ := hG; go_simp
          have lqr : w.heap.size + 1 < wr.heap.size := by obtain ⟨x, rfl⟩ := hG; simp only [plus_size]; omega
          have lqr0 : w.heap.size < wr.heap.size := by omega
          by_cases hlt : k < (staticsN S).length
          · obtain ⟨xs, t, who, sb, ht, u1, u2, ⟨u3, u4, u5⟩, u6, u7, u8, u9⟩ := row17 hRS.1 hRS.2 k hlt
            have F := HSF.out t (List.mem_of_getElem? ht)
            have HRS := Lib.hid hRS
            have o0 : (0 : Int) < xs.ef.subs.n := by omega
            have o1 : (0 : Int) ≤ (k : Int) ∧ (k : Int) < (s1.n : Int) := by omega
            have HST := Lib.hid (fold_succ (pumS S d) S k t (wrap64 ((becTo S d (staticsN S).length).1 + gt row 7), wrap64 ((becTo S d (staticsN S).length).2 + gt row 7)) ht)
            by_cases hop : t.op = 10
            · cases hr : reachesB S t d with
              | true =>
                have HN : Hid (pumTo S d (k + 1) (wrap64 ((becTo S d (staticsN S).length).1 + gt row 7), wrap64 ((becTo S d (staticsN S).length).2 + gt row 7)) = (wrap64 ((pumTo S d k (wrap64 ((becTo S d (staticsN S).length).1 + gt row 7), wrap64 ((becTo S d (staticsN S).length).2 + gt row 7))).1 + t.n), wrap64 ((pumTo S d k (wrap64 ((becTo S d (staticsN S).length).1 + gt row 7), wrap64 ((becTo S d (staticsN S).length).2 + gt row 7))).2 + t.m))) := HST.out.trans (if_pos ⟨hop, hr⟩)
                have HW := Lib.hid (fun W (g : Grow wr W) => by have := within_any S V W (HRX.out.grow (hG.trans g)) xs t u1 u2 F d hd; rw [hr] at this; exact this)
                clear hRS u1 u2 ht HQ HF HST hr F
                rw [hop] at u9
                go_wp2_with (go_at_call 80; refine (HW.out _ grI).mono ?_; rintro e' w' ⟨rfl, nx, rfl⟩)
                refine wp_region_grow (by kernel_rfl) (by kernel_rfl) ?_; (repeat (go_big_quiet_step ( fail ))); refine wpQuiet_nil ?_; rintro _ ⟨nx, rfl⟩
                go_wp2_with fail
                go_roundw
                case rel => exact ⟨k + 1, by omega, by rw [HN.out], by rw [HN.out], by go_num, ⟨HRS.out.1.grow grI, HRS.out.2.grow grI⟩, hG.trans grI⟩
                case measure => simp [intOf]; omega
              | false =>
                have HN : Hid (pumTo S d (k + 1) (wrap64 ((becTo S d (staticsN S).length).1 + gt row 7), wrap64 ((becTo S d (staticsN S).length).2 + gt row 7)) = pumTo S d k (wrap64 ((becTo S d (staticsN S).length).1 + gt row 7), wrap64 ((becTo S d (staticsN S).length).2 + gt row 7))) := HST.out.trans (if_neg (fun h => by rw [hr] at h; exact absurd h.2 (by decide)))
                have HW := Lib.hid (fun W (g : Grow wr W) => by have := within_any S V W (HRX.out.grow (hG.trans g)) xs t u1 u2 F d hd; rw [hr] at this; exact this)
                clear hRS u1 u2 ht HQ HF HST hr F
                rw [hop] at u9
                go_wp2_with (go_at_call 80; refine (HW.out _ grI).mono ?_; rintro e' w' ⟨rfl, nx, rfl⟩)
                go_roundw
                case rel => exact ⟨k + 1, by omega, by rw [HN.out], by rw [HN.out], by go_num, ⟨HRS.out.1.grow grI, HRS.out.2.grow grI⟩, hG.trans grI⟩
                case measure => simp [intOf]; omega
            · have HN : Hid (pumTo S d (k + 1) (wrap64 ((becTo S d (staticsN S).length).1 + gt row 7), wrap64 ((becTo S d (staticsN S).length).2 + gt row 7)) = pumTo S d k (wrap64 ((becTo S d (staticsN S).length).1 + gt row 7), wrap64 ((becTo S d (staticsN S).length).2 + gt row 7))) := HST.out.trans (if_neg (fun h => hop h.1))
              clear hRS u1 u2 ht HQ HF HST F
              go_wp2_with fail
              go_roundw
              case rel => exact ⟨k + 1, by omega, by rw [HN.out], by rw [HN.out], by go_num, ⟨HRS.out.1.grow grI, HRS.out.2.grow grI⟩, hG.trans grI⟩
              case measure => simp [intOf]; omega
          · obtain rfl : k = (staticsN S).length := by omega
            clear HL1
            obtain ⟨z1, z2, z3, z4, z5, z6, z7⟩ := HQ.out
            have z5 : wr.cell? ⟨b6, 8, none⟩ = some (I (gt row 8)) := by obtain ⟨x, rfl⟩ := hG; rw [plus_cell_lt _ _ _ _ hb6]; exact z5
            have z6 : wr.cell? ⟨b6, 9, none⟩ = some (I (gt row 9)) := by obtain ⟨x, rfl⟩ := hG; rw [plus_cell_lt _ _ _ _ hb6]; exact z6
            have hb6r : b6 < wr.heap.size := by obtain ⟨x, rfl⟩ := hG; simp only [plus_size]; omega
            clear hRS hn1 z1 z2 z3 z4 z7
            go_wp2_with fail
            refine wp_region_grow (by kernel_rfl) (by kernel_rfl) ?_; (repeat (go_big_quiet_step ( fail ))); refine wpQuiet_nil ?_; rintro _ ⟨nx, rfl⟩
            go_wp2_with (go_at_call 79; refine (statics17_any HT.out S V _ (HRX.out.grow (hG.trans grI)) HH.out HS.out).mono ?_; rintro e' w' ⟨s1, l1, rfl, hr1, hs1, nx, rfl⟩; (try simp only [drew_plus] at hr1); (try simp only [plus_plus] at hr1); (try simp only [drew_plus] at hs1); (try simp only [plus_plus] at hs1); have hs1x := Exists.intro (p := fun m => StsIs _ m l1 _) _ hs1; clear hs1; obtain ⟨m1, hs1⟩ := hs1x; have HL1 := Lib.hid (And.intro hr1 hs1); have hn1 : s1.n = (staticsN S).length := hr1.len.trans (by rw [List.length_map]; exact hs1.get.1); clear hr1 hs1)
            go_loopw [9, 109] (fun a i wr => ∃ k : Nat, k ≤ (staticsN S).length ∧ a = .int .u64 ((wdTo S d k sn : Nat) : Int) ∧ i = .int .i64 k ∧ (RowsV wr s1 6 (l1.map S6.arr) ∧ StsIs wr m1 l1 (staticsN S)) ∧ Grow wx wr) (fun _ i _ => (staticsN S).length - (intOf i).toNat)
            case atStart =>
              exact ⟨0, by omega, rfl, rfl, HL1.out, hG.trans grI⟩
            case round =>
              obtain ⟨k, hk, rfl, rfl, hRS, hG⟩ := hrel
              have bqr : wr.blk w.heap.size = stA V S.num := by obtain ⟨x, rfl⟩ := hG; go_simp
              have lqr : w.heap.size + 1 < wr.heap.size := by obtain ⟨x, rfl⟩ := hG; simp only [plus_size]; omega
              have lqr0 : w.heap.size < wr.heap.size := by omega
              by_cases hlt : k < (staticsN S).length
              · obtain ⟨xs, t, who, sb, ht, u1, u2, ⟨u3, u4, u5⟩, u6, u7, u8, u9⟩ := row17 hRS.1 hRS.2 k hlt
                have F := HSF.out t (List.mem_of_getElem? ht)
                have HRS := Lib.hid hRS
                have o0 : (0 : Int) < xs.ef.subs.n := by omega
                have o1 : (0 : Int) ≤ (k : Int) ∧ (k : Int) < (s1.n : Int) := by omega
                have HST := Lib.hid (fold_succ (wdS S d) S k t sn ht)
                by_cases hop : t.op = 23 ∨ t.op = 25
                · cases hr : reachesB S t d with
                  | true =>
                    obtain ⟨tn, htn⟩ := Int.eq_ofNat_of_zero_le (F.pos hop)
                    have htl : tn ≤ 255 := by have := F.n; omega
                    have HW := Lib.hid (fun W (g : Grow wr W) => by have := within_any S V W (HRX.out.grow (hG.trans g)) xs t u1 u2 F d hd; rw [hr] at this; exact this)
                    rw [htn] at u9
                    rcases hop with hop | hop
                    · have HN : Hid (wdTo S d (k + 1) sn = turnTo (wdTo S d k sn) tn true 8) := HST.out.trans ((if_pos ⟨Or.inl hop, hr⟩).trans (by rw [htn, Int.toNat_natCast, hop]; rfl))
                      have HTU := Lib.hid (fun W => turned_any W (wdTo S d k sn) (by have := wdTo_lt S d k sn hsl; omega) tn (by omega) true)
                      clear hRS u1 u2 ht HQ HF HST hr F htn
                      rw [hop] at u9
                      go_wp2_with (first | (go_at_call 80; refine (HW.out _ grI).mono ?_; rintro e' w' ⟨rfl, nx, rfl⟩) | (go_at_call 81; refine (HTU.out _).mono ?_; rintro e' w' ⟨rfl, nx, rfl⟩))
                      go_roundw
                      case rel => exact ⟨k + 1, by omega, by rw [HN.out], by go_num, ⟨HRS.out.1.grow grI, HRS.out.2.grow grI⟩, hG.trans grI⟩
                      case measure => simp [intOf]; omega
                    · have HN : Hid (wdTo S d (k + 1) sn = turnTo (wdTo S d k sn) tn false 8) := HST.out.trans ((if_pos ⟨Or.inr hop, hr⟩).trans (by rw [htn, Int.toNat_natCast, hop]; rfl))
                      have HTU := Lib.hid (fun W => turned_any W (wdTo S d k sn) (by have := wdTo_lt S d k sn hsl; omega) tn (by omega) false)
                      clear hRS u1 u2 ht HQ HF HST hr F htn
                      rw [hop] at u9
                      go_wp2_with (first | (go_at_call 80; refine (HW.out _ grI).mono ?_; rintro e' w' ⟨rfl, nx, rfl⟩) | (go_at_call 81; refine (HTU.out _).mono ?_; rintro e' w' ⟨rfl, nx, rfl⟩))
                      go_roundw
                      case rel => exact ⟨k + 1, by omega, by rw [HN.out], by go_num, ⟨HRS.out.1.grow grI, HRS.out.2.grow grI⟩, hG.trans grI⟩
                      case measure => simp [intOf]; omega
                  | false =>
                    have HN : Hid (wdTo S d (k + 1) sn = wdTo S d k sn) := HST.out.trans (if_neg (fun h => by rw [hr] at h; exact absurd h.2 (by decide)))
                    have HW := Lib.hid (fun W (g : Grow wr W) => by have := within_any S V W (HRX.out.grow (hG.trans g)) xs t u1 u2 F d hd; rw [hr] at this; exact this)
                    clear hRS u1 u2 ht HQ HF HST hr F
                    rcases hop with hop | hop
                    all_goals
                      rw [hop] at u9
                      go_wp2_with (go_at_call 80; refine (HW.out _ grI).mono ?_; rintro e' w' ⟨rfl, nx, rfl⟩)
                      go_roundw
                      case rel => exact ⟨k + 1, by omega, by rw [HN.out], by go_num, ⟨HRS.out.1.grow grI, HRS.out.2.grow grI⟩, hG.trans grI⟩
                      case measure => simp [intOf]; omega
                · have HN : Hid (wdTo S d (k + 1) sn = wdTo S d k sn) := HST.out.trans (if_neg (fun h => hop h.1))
                  have h23 : ¬ t.op = 23 := fun h => hop (Or.inl h)
                  have h25 : ¬ t.op = 25 := fun h => hop (Or.inr h)
                  clear hRS u1 u2 ht HQ HF HST F hop
                  go_wp2_with fail
                  go_roundw
                  case rel => exact ⟨k + 1, by omega, by rw [HN.out], by go_num, ⟨HRS.out.1.grow grI, HRS.out.2.grow grI⟩, hG.trans grI⟩
                  case measure => simp [intOf]; omega
              · obtain rfl : k = (staticsN S).length := by omega
                clear HL1
                obtain ⟨z1, z2, z3, z4, z5, z6, z7⟩ := HQ.out
                have z7 : wr.cell? ⟨b6, 10, none⟩ = some (I (gt row 10)) := by obtain ⟨x, rfl⟩ := hG; rw [plus_cell_lt _ _ _ _ hb6]; exact z7
                have hb6r : b6 < wr.heap.size := by obtain ⟨x, rfl⟩ := hG; simp only [plus_size]; omega
                clear hRS hn1 z1 z2 z3 z4 z5 z6
                rw [hrn] at z7
                have HTU := Lib.hid (fun W => turned_any W (wdTo S d (staticsN S).length sn) (by have := wdTo_lt S d (staticsN S).length sn hsl; omega) rn (by omega) true)
                have hq := wrap_nat (turn_lt (wdTo S d (staticsN S).length sn) rn true (wdTo_lt S d (staticsN S).length sn hsl))
                obtain ⟨_, b1, b2, _⟩ := HQ.out
                have bqs : wr.blk (w.heap.size + 1) = cellsOf [0, 0, 0] := by obtain ⟨x, rfl⟩ := hG; go_simp
                have fqs : wr.free (w.heap.size + 1) = true := by obtain ⟨x, rfl⟩ := hG; go_simp
                clear b1 b2
                go_wp2_with (go_at_call 81; refine (HTU.out _).mono ?_; rintro e' w' ⟨rfl, nx, rfl⟩)
                refine bodyPost_ret (results_Shape17 rfl _ _ _ rfl ?_) rfl ?_
                · go_simp
                · exact ⟨by (go_simp; rw [← HF.out, HROW.out]), by first | exact Grow.plus (grow_set _ _ _ _ (HGB.out.trans hG)) _ | exact Grow.plus (grow_set _ _ _ _ (HGB.out.trans (hG.trans grI))) _ | exact grow_set _ _ _ _ (HGB.out.trans (hG.trans grI))⟩
  have k1 : ∀ (nx : Ext) (c : CdV), c.pw = (kindN S d).pw ∧ c.tf = (kindN S d).tf ∧ c.says = (kindN S d).says → K { tmps := #[.agg (stA V S.num), .int .i64 (d : Int), .pointer (some ⟨w.heap.size, 0, none⟩), undef, .pointer (some ⟨w.heap.size + 1, 0, none⟩), .pointer (some ⟨w.heap.size + 1 + 1 + nx.objs.size, 0, none⟩), .pointer (some ⟨w.heap.size + 1 + 1 + nx.objs.size + 1, 0, none⟩), undef, undef, undef, undef, undef, undef, undef, undef, undef, undef, undef, undef, .agg (stA V S.num), .int .i64 (d : Int), .agg c.arr, .pointer (some ⟨w.heap.size, 0, none⟩), V.objs.val, .int .i64 (d : Int), .pointer (some ⟨V.objs.b, V.objs.o + d * 18, none⟩), .agg (cellsOf row), undef, undef, undef, undef, undef, undef, undef, undef, undef, undef, undef, undef, undef, undef, undef, undef, undef, undef, undef, undef, undef, undef, undef, undef, undef, undef, undef, undef, undef, undef, undef, undef, undef, undef, undef, undef, undef, undef, undef, undef, undef, undef, undef, undef, undef, undef, undef, undef, undef, undef, undef, undef, undef, undef, undef, undef, undef, undef, undef, undef, undef, undef, undef, undef, undef, undef, undef, undef, undef, undef, undef, undef, undef, undef, undef, undef, undef, undef, undef, undef, undef, undef, undef, undef, undef, undef, undef, undef, undef, undef, undef, undef, undef, undef, undef, undef, undef, undef, undef, undef, undef, undef, undef, undef, undef, undef, undef, undef, undef, undef, undef, undef, undef, undef, undef, undef, undef, undef, undef, undef, undef, undef], defers := [] } (((((w.alloc (.cells (stA V S.num) 29)).alloc (.cells (cellsOf [0, 0, 0]) 64)).plus nx).alloc (.cells c.arr 111)).alloc (.cells (cellsOf row) 58)) := fun nx c hck => by
    obtain ⟨X, hX⟩ : Grow ((w.alloc (.cells (stA V S.num) 29)).alloc (.cells (cellsOf [0, 0, 0]) 64)) (((((w.alloc (.cells (stA V S.num) 29)).alloc (.cells (cellsOf [0, 0, 0]) 64)).plus nx).alloc (.cells c.arr 111)).alloc (.cells (cellsOf row) 58)) := grI
    rw [hX]
    refine key X _ _ c hck ?_ ?_ ?_ ?_ ?_ ?_ ?_ ?_ ?_ <;> (try rw [← hX]) <;> clear hX <;> first | omega | (go_simp; done) | (go_simp; omega)
  have k2 : ∀ (nx : Ext) (c : CdV), c.pw = (kindN S d).pw ∧ c.tf = (kindN S d).tf ∧ c.says = (kindN S d).says → K { tmps := #[.agg (stA V S.num), .int .i64 (d : Int), .pointer (some ⟨w.heap.size, 0, none⟩), undef, .pointer (some ⟨w.heap.size + 1, 0, none⟩), .pointer (some ⟨w.heap.size + 1 + 1 + nx.objs.size + 1, 0, none⟩), .pointer (some ⟨w.heap.size + 1 + 1 + nx.objs.size, 0, none⟩), undef, undef, undef, undef, undef, undef, undef, undef, undef, undef, undef, undef, .agg (stA V S.num), .int .i64 (d : Int), .agg c.arr, .pointer (some ⟨w.heap.size, 0, none⟩), V.objs.val, .int .i64 (d : Int), .pointer (some ⟨V.objs.b, V.objs.o + d * 18, none⟩), .agg (cellsOf row), undef, undef, undef, undef, undef, undef, undef, undef, undef, undef, undef, undef, undef, undef, undef, undef, undef, undef, undef, undef, undef, undef, undef, undef, undef, undef, undef, undef, undef, undef, undef, undef, undef, undef, undef, undef, undef, undef, undef, undef, undef, undef, undef, undef, undef, undef, undef, undef, undef, undef, undef, undef, undef, undef, undef, undef, undef, undef, undef, undef, undef, undef, undef, undef, undef, undef, undef, undef, undef, undef, undef, undef, undef, undef, undef, undef, undef, undef, undef, undef, undef, undef, undef, undef, undef, undef, undef, undef, undef, undef, undef, undef, undef, undef, undef, undef, undef, undef, undef, undef, undef, undef, undef, undef, undef, undef, undef, undef, undef, undef, undef, undef, undef, undef, undef, undef, undef, undef, undef, undef, undef, undef], defers := [] } (((((w.alloc (.cells (stA V S.num) 29)).alloc (.cells (cellsOf [0, 0, 0]) 64)).plus nx).alloc (.cells (cellsOf row) 58)).alloc (.cells c.arr 111)) := fun nx c hck => by
    obtain ⟨X, hX⟩ : Grow ((w.alloc (.cells (stA V S.num) 29)).alloc (.cells (cellsOf [0, 0, 0]) 64)) (((((w.alloc (.cells (stA V S.num) 29)).alloc (.cells (cellsOf [0, 0, 0]) 64)).plus nx).alloc (.cells (cellsOf row) 58)).alloc (.cells c.arr 111)) := grI
    rw [hX]
    refine key X _ _ c hck ?_ ?_ ?_ ?_ ?_ ?_ ?_ ?_ ?_ <;> (try rw [← hX]) <;> clear hX <;> first | omega | (go_simp; done) | (go_simp; omega)
  have k3 : ∀ (nx : Ext) (c : CdV), c.pw = (kindN S d).pw ∧ c.tf = (kindN S d).tf ∧ c.says = (kindN S d).says → K { tmps := #[.agg (stA V S.num), .int .i64 (d : Int), .pointer (some ⟨w.heap.size, 0, none⟩), undef, .pointer (some ⟨w.heap.size + 1, 0, none⟩), .pointer (some ⟨w.heap.size + 1 + 1, 0, none⟩), .pointer (some ⟨w.heap.size + 1 + 1 + 1 + nx.objs.size, 0, none⟩), undef, undef, undef, undef, undef, undef, undef, undef, undef, undef, undef, undef, .agg (stA V S.num), .int .i64 (d : Int), .agg c.arr, .pointer (some ⟨w.heap.size, 0, none⟩), V.objs.val, .int .i64 (d : Int), .pointer (some ⟨V.objs.b, V.objs.o + d * 18, none⟩), .agg (cellsOf row), undef, undef, undef, undef, undef, undef, undef, undef, undef, undef, undef, undef, undef, undef, undef, undef, undef, undef, undef, undef, undef, undef, undef, undef, undef, undef, undef, undef, undef, undef, undef, undef, undef, undef, undef, undef, undef, undef, undef, undef, undef, undef, undef, undef, undef, undef, undef, undef, undef, undef, undef, undef, undef, undef, undef, undef, undef, undef, undef, undef, undef, undef, undef, undef, undef, undef, undef, undef, undef, undef, undef, undef, undef, undef, undef, undef, undef, undef, undef, undef, undef, undef, undef, undef, undef, undef, undef, undef, undef, undef, undef, undef, undef, undef, undef, undef, undef, undef, undef, undef, undef, undef, undef, undef, undef, undef, undef, undef, undef, undef, undef, undef, undef, undef, undef, undef, undef, undef, undef, undef, undef, undef], defers := [] } (((((w.alloc (.cells (stA V S.num) 29)).alloc (.cells (cellsOf [0, 0, 0]) 64)).alloc (.cells c.arr 111)).plus nx).alloc (.cells (cellsOf row) 58)) := fun nx c hck => by
    obtain ⟨X, hX⟩ : Grow ((w.alloc (.cells (stA V S.num) 29)).alloc (.cells (cellsOf [0, 0, 0]) 64)) (((((w.alloc (.cells (stA V S.num) 29)).alloc (.cells (cellsOf [0, 0, 0]) 64)).alloc (.cells c.arr 111)).plus nx).alloc (.cells (cellsOf row) 58)) := grI
    rw [hX]
    refine key X _ _ c hck ?_ ?_ ?_ ?_ ?_ ?_ ?_ ?_ ?_ <;> (try rw [← hX]) <;> clear hX <;> first | omega | (go_simp; done) | (go_simp; omega)
  have k4 : ∀ (nx : Ext) (c : CdV), c.pw = (kindN S d).pw ∧ c.tf = (kindN S d).tf ∧ c.says = (kindN S d).says → K { tmps := #[.agg (stA V S.num), .int .i64 (d : Int), .pointer (some ⟨w.heap.size, 0, none⟩), undef, .pointer (some ⟨w.heap.size + 1, 0, none⟩), .pointer (some ⟨w.heap.size + 1 + 1 + 1 + nx.objs.size, 0, none⟩), .pointer (some ⟨w.heap.size + 1 + 1, 0, none⟩), undef, undef, undef, undef, undef, undef, undef, undef, undef, undef, undef, undef, .agg (stA V S.num), .int .i64 (d : Int), .agg c.arr, .pointer (some ⟨w.heap.size, 0, none⟩), V.objs.val, .int .i64 (d : Int), .pointer (some ⟨V.objs.b, V.objs.o + d * 18, none⟩), .agg (cellsOf row), undef, undef, undef, undef, undef, undef, undef, undef, undef, undef, undef, undef, undef, undef, undef, undef, undef, undef, undef, undef, undef, undef, undef, undef, undef, undef, undef, undef, undef, undef, undef, undef, undef, undef, undef, undef, undef, undef, undef, undef, undef, undef, undef, undef, undef, undef, undef, undef, undef, undef, undef, undef, undef, undef, undef, undef, undef, undef, undef, undef, undef, undef, undef, undef, undef, undef, undef, undef, undef, undef, undef, undef, undef, undef, undef, undef, undef, undef, undef, undef, undef, undef, undef, undef, undef, undef, undef, undef, undef, undef, undef, undef, undef, undef, undef, undef, undef, undef, undef, undef, undef, undef, undef, undef, undef, undef, undef, undef, undef, undef, undef, undef, undef, undef, undef, undef, undef, undef, undef, undef, undef, undef], defers := [] } (((((w.alloc (.cells (stA V S.num) 29)).alloc (.cells (cellsOf [0, 0, 0]) 64)).alloc (.cells (cellsOf row) 58)).plus nx).alloc (.cells c.arr 111)) := fun nx c hck => by
    obtain ⟨X, hX⟩ : Grow ((w.alloc (.cells (stA V S.num) 29)).alloc (.cells (cellsOf [0, 0, 0]) 64)) (((((w.alloc (.cells (stA V S.num) 29)).alloc (.cells (cellsOf [0, 0, 0]) 64)).alloc (.cells (cellsOf row) 58)).plus nx).alloc (.cells c.arr 111)) := grI
    rw [hX]
    refine key X _ _ c hck ?_ ?_ ?_ ?_ ?_ ?_ ?_ ?_ ?_ <;> (try rw [← hX]) <;> clear hX <;> first | omega | (go_simp; done) | (go_simp; omega)
  have k5 : ∀ (nx : Ext) (c : CdV), c.pw = (kindN S d).pw ∧ c.tf = (kindN S d).tf ∧ c.says = (kindN S d).says → K { tmps := #[.agg (stA V S.num), .int .i64 (d : Int), .pointer (some ⟨w.heap.size, 0, none⟩), undef, .pointer (some ⟨w.heap.size + 1, 0, none⟩), .pointer (some ⟨w.heap.size + 1 + 1, 0, none⟩), .pointer (some ⟨w.heap.size + 1 + 1 + 1, 0, none⟩), undef, undef, undef, undef, undef, undef, undef, undef, undef, undef, undef, undef, .agg (stA V S.num), .int .i64 (d : Int), .agg c.arr, .pointer (some ⟨w.heap.size, 0, none⟩), V.objs.val, .int .i64 (d : Int), .pointer (some ⟨V.objs.b, V.objs.o + d * 18, none⟩), .agg (cellsOf row), undef, undef, undef, undef, undef, undef, undef, undef, undef, undef, undef, undef, undef, undef, undef, undef, undef, undef, undef, undef, undef, undef, undef, undef, undef, undef, undef, undef, undef, undef, undef, undef, undef, undef, undef, undef, undef, undef, undef, undef, undef, undef, undef, undef, undef, undef, undef, undef, undef, undef, undef, undef, undef, undef, undef, undef, undef, undef, undef, undef, undef, undef, undef, undef, undef, undef, undef, undef, undef, undef, undef, undef, undef, undef, undef, undef, undef, undef, undef, undef, undef, undef, undef, undef, undef, undef, undef, undef, undef, undef, undef, undef, undef, undef, undef, undef, undef, undef, undef, undef, undef, undef, undef, undef, undef, undef, undef, undef, undef, undef, undef, undef, undef, undef, undef, undef, undef, undef, undef, undef, undef, undef], defers := [] } (((((w.alloc (.cells (stA V S.num) 29)).alloc (.cells (cellsOf [0, 0, 0]) 64)).alloc (.cells c.arr 111)).alloc (.cells (cellsOf row) 58)).plus nx) := fun nx c hck => by
    obtain ⟨X, hX⟩ : Grow ((w.alloc (.cells (stA V S.num) 29)).alloc (.cells (cellsOf [0, 0, 0]) 64)) (((((w.alloc (.cells (stA V S.num) 29)).alloc (.cells (cellsOf [0, 0, 0]) 64)).alloc (.cells c.arr 111)).alloc (.cells (cellsOf row) 58)).plus nx) := grI
    rw [hX]
    refine key X _ _ c hck ?_ ?_ ?_ ?_ ?_ ?_ ?_ ?_ ?_ <;> (try rw [← hX]) <;> clear hX <;> first | omega | (go_simp; done) | (go_simp; omega)
  have k6 : ∀ (nx : Ext) (c : CdV), c.pw = (kindN S d).pw ∧ c.tf = (kindN S d).tf ∧ c.says = (kindN S d).says → K { tmps := #[.agg (stA V S.num), .int .i64 (d : Int), .pointer (some ⟨w.heap.size, 0, none⟩), undef, .pointer (some ⟨w.heap.size + 1, 0, none⟩), .pointer (some ⟨w.heap.size + 1 + 1 + 1, 0, none⟩), .pointer (some ⟨w.heap.size + 1 + 1, 0, none⟩), undef, undef, undef, undef, undef, undef, undef, undef, undef, undef, undef, undef, .agg (stA V S.num), .int .i64 (d : Int), .agg c.arr, .pointer (some ⟨w.heap.size, 0, none⟩), V.objs.val, .int .i64 (d : Int), .pointer (some ⟨V.objs.b, V.objs.o + d * 18, none⟩), .agg (cellsOf row), undef, undef, undef, undef, undef, undef, undef, undef, undef, undef, undef, undef, undef, undef, undef, undef, undef, undef, undef, undef, undef, undef, undef, undef, undef, undef, undef, undef, undef, undef, undef, undef, undef, undef, undef, undef, undef, undef, undef, undef, undef, undef, undef, undef, undef, undef, undef, undef, undef, undef, undef, undef, undef, undef, undef, undef, undef, undef, undef, undef, undef, undef, undef, undef, undef, undef, undef, undef, undef, undef, undef, undef, undef, undef, undef, undef, undef, undef, undef, undef, undef, undef, undef, undef, undef, undef, undef, undef, undef, undef, undef, undef, undef, undef, undef, undef, undef, undef, undef, undef, undef, undef, undef, undef, undef, undef, undef, undef, undef, undef, undef, undef, undef, undef, undef, undef, undef, undef, undef, undef, undef, undef], defers := [] } (((((w.alloc (.cells (stA V S.num) 29)).alloc (.cells (cellsOf [0, 0, 0]) 64)).alloc (.cells (cellsOf row) 58)).alloc (.cells c.arr 111)).plus nx) := fun nx c hck => by
    obtain ⟨X, hX⟩ : Grow ((w.alloc (.cells (stA V S.num) 29)).alloc (.cells (cellsOf [0, 0, 0]) 64)) (((((w.alloc (.cells (stA V S.num) 29)).alloc (.cells (cellsOf [0, 0, 0]) 64)).alloc (.cells (cellsOf row) 58)).alloc (.cells c.arr 111)).plus nx) := grI
    rw [hX]
    refine key X _ _ c hck ?_ ?_ ?_ ?_ ?_ ?_ ?_ ?_ ?_ <;> (try rw [← hX]) <;> clear hX <;> first | omega | (go_simp; done) | (go_simp; omega)
  clear key
  go_region_law (first | (refine step_wanted (by rfl) ?_; go_simp; go_at_call 78; refine (k17_any HT.out S V _ (HR.out.grow grI) HH.out d hd).mono ?_; rintro e' w' ⟨c, rfl, hc, nx, rfl⟩; have hck := And.intro hc.pw (And.intro hc.tf hc.says); clear hc))
  all_goals first | exact k1 _ _ (by assumption) | exact k2 _ _ (by assumption) | exact k3 _ _ (by assumption) | exact k4 _ _ (by assumption) | exact k5 _ _ (by assumption) | exact k6 _ _ (by assumption)
end Go.Proofs.YtnjdkkgkaafdbaaGreatDoor
