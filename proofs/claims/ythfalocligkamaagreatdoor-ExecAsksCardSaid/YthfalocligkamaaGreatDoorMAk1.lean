/- The document's Beasts and Group. -/
import Derived.Test.YthfalocligkamaaGreatDoorMRef17
import Derived.Test.YthfalocligkamaaGreatDoorMEx12
import Derived.Test.YthfalocligkamaaGreatDoorMRefChk
import Derived.Test.YthfalocligkamaaGreatDoorMEx4
import Derived.Test.YthfalocligkamaaGreatDoorMEx13
import Derived.Test.YthfalocligkamaaGreatDoorMEval
import Derived.Test.YthfalocligkamaaGreatDoorMEmNew
namespace Go.Proofs.YthfalocligkamaaGreatDoor
open Go Go.RowKit Go.Shelf
@[go_sem] theorem z5w (w : World) : (zdh 23 0 #[]).run Tryz.prog w = .ok (.value (.slice (some ⟨w.heap.size, 0, none⟩) 0 0)) (w.alloc (.cells #[] 3)) := by kernel_rfl
set_option maxRecDepth 100000 in
set_option maxHeartbeats 8000000 in
theorem zvj (T8 : zgg) (S : St) (V : SV) (w : World) (h : RS S V w) (p : Int) :
 Calls Tryz.prog 36 #[.agg (stA V S.num), .int .i64 p] w fun e w' => ∃ s : Sl, e = .returned s.val ∧ Ints w' s (beastsN S p) ∧ Grow w w' := by
 have hL := (h.rep.list 8 (by decide)).len
 have hSL := h.right.smallN.list 8 (by decide)
 have hbe : beastsN S p = zdu S p (S.list 8).length := by unfold beastsN zdu; rw [if_neg (by rw [(zbi S).2 h.right]; simp), List.take_length]
 rw [hbe]
 have HIs := Lib.hid (fun W (g : Grow w W) id => zqs T8 S V W (h.rep.grow g) h.right id)
 have HH := Lib.hid h
 have hON := h.rep.objs.len
 clear h hbe T8
 go_enter Tryz.func36, Tryz.ntmps36
 go_wp2_with fail
 go_loopw [5, 13] (fun v i wr => ∃ (k : Nat) (s : Sl), k ≤ (S.list 8).length ∧ i = .int .i64 k ∧ v = s.val ∧ Made (w.alloc (.cells (stA V S.num) 29)).heap.size wr s 1 ((zdu S p k).map I) ∧ s.n ≤ k ∧ Grow (w.alloc (.cells (stA V S.num) 29)) wr) (fun _ i _ => (S.list 8).length - (intOf i).toNat)
 case atStart =>
  refine ⟨0, .mk (w.heap.size + 1) 0 0 0, by omega, rfl, rfl, ⟨⟨rfl, Nat.le_refl _, fun j u hu => by simp [zdu] at hu⟩, ⟨Nat.zero_le _, fun j hj => by simp [Sl.c] at hj⟩, fun b hb => ?_⟩, Nat.le_refl _, grI⟩
  obtain rfl : b = w.heap.size + 1 := hb
  exact ⟨by simp only [zaa]; omega, by simp only [zaa]; omega⟩
 case round =>
  obtain ⟨k, s, hk, rfl, rfl, hM, hsn, hG⟩ := hrel
  obtain ⟨x, rfl⟩ := hG
  have HM := Lib.hid hM
  clear hM
  by_cases hlt : k < (S.list 8).length
  · obtain ⟨hlb, hlc⟩ := (HH.out.rep.list 8 (by decide)).at k hlt
    have HS := Lib.hid (zkp S p k hlt)
    obtain ⟨o1, o2, _, _⟩ := HH.out.right.zon.ok 8 (by decide) (gt (S.list 8) k) (by rw [zcw _ _ hlt]; exact List.getElem_mem hlt)
    generalize gt (S.list 8) k = id at *
    obtain ⟨d, rfl⟩ := Int.eq_ofNat_of_zero_le o1
    have hd : d < S.objs.length := by omega
    rw [Int.toNat_natCast] at HS
    obtain ⟨hob, how, hosz, hosub, hoc⟩ := HH.out.rep.objs.at (by omega) d hd
    have hoc2 := hoc 2 (by omega)
    clear hoc how hosz hosub
    have HI2 := Lib.hid (fun W (g : Grow w W) => HIs.out W g d)
    generalize gt (rowAt S.objs d) 2 = ctl at *
    cases hcr : zam S (d : Int)
    · rw [hcr] at HI2 HS
      have HS2 : Hid (zdu S p (k + 1) = zdu S p k) := by rw [Hid, HS.out]; simp
      clear hcr
      go_wp2_with (go_at_call 31; refine (HI2.out _ grI).mono ?_; rintro e' w' ⟨rfl, nx, rfl⟩)
      go_roundw
      case rel => exact ⟨k + 1, s, by omega, by go_num, rfl, by rw [HS2.out]; exact HM.out.grow grI, by omega, grI⟩
      case measure => simp [intOf]; omega
    · rw [hcr] at HI2 HS
      clear hcr
      cases hcp : (ctl == p)
      · have HS2 : Hid (zdu S p (k + 1) = zdu S p k) := by rw [Hid, HS.out, hcp]; simp
        go_wp2_with (go_at_call 31; refine (HI2.out _ grI).mono ?_; rintro e' w' ⟨rfl, nx, rfl⟩)
        go_roundw
        case rel => exact ⟨k + 1, s, by omega, by go_num, rfl, by rw [HS2.out]; exact HM.out.grow grI, by omega, grI⟩
        case measure => simp [intOf]; omega
      · have HS2 : Hid (zdu S p (k + 1) = zdu S p k ++ [(d : Int)]) := by rw [Hid, HS.out, hcp]; simp
        go_wp2_with (first | (go_at_call 31; refine (HI2.out _ grI).mono ?_; rintro e' w' ⟨rfl, nx, rfl⟩) | (at_builtin; refine zbc rfl _ _ 23 rfl 3 Tryz.t3 (.int .i64 0) 1 8 Tryz.underlying23 (by kernel_rfl) (by kernel_rfl) (by kernel_rfl) (by kernel_rfl) (by omega) rfl (w.alloc (.cells (stA V S.num) 29)) s (.mk _ 0 1 1) ((zdu S p k).map I) [I (d : Int)] rfl rfl (HM.out.grow grI) grI (zdd _ _ _ (by first | (go_simp; done) | (go_simp; rfl))) (zau _) (zau [(d : Int)]) (by simp only [Sl.n] at hsn ⊢; omega) ?_; intro s2 y c1 _ c3 _; have C := Lib.hid (And.intro c1 c3); clear c1 c3))
        go_roundw
        case rel => exact ⟨k + 1, s2, by omega, by go_num, rfl, by rw [HS2.out, List.map_append]; exact C.out.1.grow grI, by rw [C.out.2]; simp only [Sl.n] at hsn ⊢; omega, grI⟩
        case measure => simp [intOf]; omega
  · go_wp2_with fail
    go_ret
    have hkl : k = (S.list 8).length := by omega
    have hM := HM.out
    rw [hkl] at hM
    exact ⟨s, rfl, (hM.cells.grow grI).ints, grI⟩
def grD (S : St) (a0 a1 a2 a3 : Bool) (ctl src id : Int) : Bool := a0 || (a1 && (gt (rowAt S.objs id.toNat) 2 == ctl)) || (a2 && !(gt (rowAt S.objs id.toNat) 2 == ctl)) || (a3 && (gt (rowAt S.objs id.toNat) 2 == ctl) && (id != src))
def zg3 (S : St) (a0 a1 a2 a3 : Bool) (ctl src : Int) (k : Nat) : List Int := ((S.list 8).take k).filter fun id => grD S a0 a1 a2 a3 ctl src id && zam S id
theorem zsl (S : St) (a0 a1 a2 a3 : Bool) (ctl src : Int) (k : Nat) (h : k < (S.list 8).length) : zg3 S a0 a1 a2 a3 ctl src (k + 1) = zg3 S a0 a1 a2 a3 ctl src k ++ if (grD S a0 a1 a2 a3 ctl src (gt (S.list 8) k) && zam S (gt (S.list 8) k)) = true then [gt (S.list 8) k] else [] := by
 unfold zg3
 rw [List.take_succ_eq_append_getElem h, zcw _ _ h, List.filter_append]
 simp [List.filter_cons]
theorem zwi {S : St} (h : checkN S = 0) (n ctl src : Int) : groupN S n ctl src = zg3 S (n == 0) (n == 1) (n == 2) (n == 3) ctl src (S.list 8).length := by
 unfold groupN zg3
 rw [List.take_length]
 by_cases hn : n < 0 ∨ 3 < n
 · rw [if_pos (Or.inr hn)]
   have e0 : (n == 0) = false := by simp; omega
   have e1 : (n == 1) = false := by simp; omega
   have e2 : (n == 2) = false := by simp; omega
   have e3 : (n == 3) = false := by simp; omega
   rw [e0, e1, e2, e3]
   exact (List.filter_eq_nil_iff.2 (fun a _ => by simp [grD])).symm
 · rw [if_neg (by rintro (h1 | h1); exact h1 h; exact hn h1)]
   refine List.filter_congr (fun id _ => ?_)
   have : n = 0 ∨ n = 1 ∨ n = 2 ∨ n = 3 := by omega
   rcases this with rfl | rfl | rfl | rfl <;> simp [grD, zum]
set_option maxRecDepth 100000 in
set_option maxHeartbeats 16000000 in
theorem zsm (T8 : zgg) (S : St) (V : SV) (w : World) (h : RS S V w) (n : Int) (x : Ctx) :
 Calls Tryz.prog 10 #[.agg (stA V S.num), .int .i64 n, .agg (ctR x)] w fun e w' => ∃ s : Sl, e = .returned s.val ∧ Ints w' s (groupN S n x.ctl x.src) ∧ Grow w w' := by
 have hL := (h.rep.list 8 (by decide)).len
 have hSL := h.right.smallN.list 8 (by decide)
 have hck := (zbi S).2 h.right
 rw [zwi hck]
 have HRef := Lib.hid (fun W (g : Grow w W) => by have := zek S V W (h.rep.grow g) h.small; rw [hck] at this; exact this)
 have HIs := Lib.hid (fun W (g : Grow w W) id => zqs T8 S V W (h.rep.grow g) h.right id)
 have HH := Lib.hid h
 have hON := h.rep.objs.len
 have hcmb : ((n == 0) = true ∧ (n == 1) = false ∧ (n == 2) = false ∧ (n == 3) = false) ∨ ((n == 0) = false ∧ (n == 1) = true ∧ (n == 2) = false ∧ (n == 3) = false) ∨ ((n == 0) = false ∧ (n == 1) = false ∧ (n == 2) = true ∧ (n == 3) = false) ∨ ((n == 0) = false ∧ (n == 1) = false ∧ (n == 2) = false ∧ (n == 3) = true) ∨ ((n == 0) = false ∧ (n == 1) = false ∧ (n == 2) = false ∧ (n == 3) = false) := by
  by_cases h0 : n = 0
  · subst h0; exact Or.inl ⟨rfl, rfl, rfl, rfl⟩
  by_cases h1 : n = 1
  · subst h1; exact Or.inr (Or.inl ⟨rfl, rfl, rfl, rfl⟩)
  by_cases h2 : n = 2
  · subst h2; exact Or.inr (Or.inr (Or.inl ⟨rfl, rfl, rfl, rfl⟩))
  by_cases h3 : n = 3
  · subst h3; exact Or.inr (Or.inr (Or.inr (Or.inl ⟨rfl, rfl, rfl, rfl⟩)))
  · exact Or.inr (Or.inr (Or.inr (Or.inr ⟨by simpa using h0, by simpa using h1, by simpa using h2, by simpa using h3⟩)))
 have HCmb := Lib.hid hcmb
 clear h T8 hck hcmb
 go_enter Tryz.func10, Tryz.ntmps10
 go_wp2_with (go_at_call 19; refine (HRef.out _ grI).mono ?_; rintro e' w' ⟨rfl, nx, rfl⟩)
 go_loopw [7, 20] (fun v i wr => ∃ (k : Nat) (s : Sl), k ≤ (S.list 8).length ∧ i = .int .i64 k ∧ v = s.val ∧ Made ((w.alloc (.cells (stA V S.num) 29)).alloc (.cells (ctR x) 42)).heap.size wr s 1 ((zg3 S (n == 0) (n == 1) (n == 2) (n == 3) x.ctl x.src k).map I) ∧ s.n ≤ k ∧ Grow ((w.alloc (.cells (stA V S.num) 29)).alloc (.cells (ctR x) 42)) wr) (fun _ i _ => (S.list 8).length - (intOf i).toNat)
 case atStart =>
  refine ⟨0, .mk (w.heap.size + 1 + 1) 0 0 0, by omega, rfl, rfl, ⟨⟨rfl, Nat.le_refl _, fun j u hu => by simp [zg3] at hu⟩, ⟨Nat.zero_le _, fun j hj => by simp [Sl.c] at hj⟩, fun b hb => ?_⟩, Nat.le_refl _, grI⟩
  obtain rfl : b = w.heap.size + 1 + 1 := hb
  exact ⟨by simp only [zaa]; omega, by simp only [zac, zaa]; omega⟩
 case round =>
  obtain ⟨k, s, hk, rfl, rfl, hM, hsn, hG⟩ := hrel
  obtain ⟨y, rfl⟩ := hG
  have HM := Lib.hid hM
  clear hM
  by_cases hlt : k < (S.list 8).length
  · obtain ⟨hlb, hlc⟩ := (HH.out.rep.list 8 (by decide)).at k hlt
    have HS := Lib.hid (zsl S (n == 0) (n == 1) (n == 2) (n == 3) x.ctl x.src k hlt)
    obtain ⟨o1, o2, _, _⟩ := HH.out.right.zon.ok 8 (by decide) (gt (S.list 8) k) (by rw [zcw _ _ hlt]; exact List.getElem_mem hlt)
    generalize gt (S.list 8) k = id at *
    obtain ⟨d, rfl⟩ := Int.eq_ofNat_of_zero_le o1
    have hd : d < S.objs.length := by omega
    unfold grD at HS
    rw [Int.toNat_natCast] at HS
    obtain ⟨hob, how, hosz, hosub, hoc⟩ := HH.out.rep.objs.at (by omega) d hd
    have hoc2 := hoc 2 (by omega)
    clear hoc how hosz hosub
    have HI2 := Lib.hid (fun W (g : Grow w W) => HIs.out W g d)
    generalize gt (rowAt S.objs d) 2 = r2 at *
    go_wp2_with fail
    refine zab (by kernel_rfl) (by kernel_rfl) ?_; (repeat (go_big_quiet_step ( fail ))); refine wpQuiet_nil ?_; rintro _ ⟨nx, rfl⟩
    cases hcr : zam S (d : Int)
    · rw [hcr] at HI2 HS
      have HS2 : Hid (zg3 S (n == 0) (n == 1) (n == 2) (n == 3) x.ctl x.src (k + 1) = zg3 S (n == 0) (n == 1) (n == 2) (n == 3) x.ctl x.src k) := by rw [Hid, HS.out]; simp
      clear hcr
      go_wp2_with (go_at_call 31; refine (HI2.out _ grI).mono ?_; rintro e' w' ⟨rfl, nx, rfl⟩)
      go_roundw
      case rel => exact ⟨k + 1, s, by omega, by go_num, rfl, by rw [HS2.out]; exact HM.out.grow grI, by omega, grI⟩
      case measure => simp [intOf]; omega
    · rw [hcr] at HI2 HS
      clear hcr
      have hcmb := HCmb.out
      cases hm : (r2 == x.ctl) <;> cases hq : ((d : Int) != x.src) <;> rcases hcmb with ⟨b0, b1, b2, b3⟩ | ⟨b0, b1, b2, b3⟩ | ⟨b0, b1, b2, b3⟩ | ⟨b0, b1, b2, b3⟩ | ⟨b0, b1, b2, b3⟩
      all_goals
       first
       | (have HS2 : Hid (zg3 S (n == 0) (n == 1) (n == 2) (n == 3) x.ctl x.src (k + 1) = zg3 S (n == 0) (n == 1) (n == 2) (n == 3) x.ctl x.src k) := by rw [Hid, HS.out, b0, b1, b2, b3, hm, hq]; simp
          clear HS
          go_wp2_with (go_at_call 31; refine (HI2.out _ grI).mono ?_; rintro e' w' ⟨rfl, nx, rfl⟩)
          go_roundw
          case rel => exact ⟨k + 1, s, by omega, by go_num, rfl, by rw [HS2.out]; exact HM.out.grow grI, by omega, grI⟩
          case measure => simp [intOf]; omega)
       | (have HS2 : Hid (zg3 S (n == 0) (n == 1) (n == 2) (n == 3) x.ctl x.src (k + 1) = zg3 S (n == 0) (n == 1) (n == 2) (n == 3) x.ctl x.src k ++ [(d : Int)]) := by rw [Hid, HS.out, b0, b1, b2, b3, hm, hq]; simp
          clear HS
          go_wp2_with (first | (go_at_call 31; refine (HI2.out _ grI).mono ?_; rintro e' w' ⟨rfl, nx, rfl⟩) | (at_builtin; refine zbc rfl _ _ 23 rfl 3 Tryz.t3 (.int .i64 0) 1 8 Tryz.underlying23 (by kernel_rfl) (by kernel_rfl) (by kernel_rfl) (by kernel_rfl) (by omega) rfl ((w.alloc (.cells (stA V S.num) 29)).alloc (.cells (ctR x) 42)) s (.mk _ 0 1 1) ((zg3 S (n == 0) (n == 1) (n == 2) (n == 3) x.ctl x.src k).map I) [I (d : Int)] rfl rfl (HM.out.grow grI) grI (zdd _ _ _ (by first | (go_simp; done) | (go_simp; rfl))) (zau _) (zau [(d : Int)]) (by simp only [Sl.n] at hsn ⊢; omega) ?_; intro s2 y c1 _ c3 _; have C := Lib.hid (And.intro c1 c3); clear c1 c3))
          go_roundw
          case rel => exact ⟨k + 1, s2, by omega, by go_num, rfl, by rw [HS2.out, List.map_append]; exact C.out.1.grow grI, by rw [C.out.2]; simp only [Sl.n] at hsn ⊢; omega, grI⟩
          case measure => simp [intOf]; omega)
  · go_wp2_with fail
    go_ret
    have hkl : k = (S.list 8).length := by omega
    have hM := HM.out
    rw [hkl] at hM
    exact ⟨s, rfl, (hM.cells.grow grI).ints, grI⟩
end Go.Proofs.YthfalocligkamaaGreatDoor
namespace Go.Proofs.YthfalocligkamaaGreatDoor
open Go Go.RowKit Go.Shelf
theorem zm3 {S : St} (h : checkN S ≠ 0) (n ctl src : Int) : groupN S n ctl src = [] := by unfold groupN; rw [if_pos (Or.inl h)]
theorem zm6 {S : St} (h : checkN S ≠ 0) (n m p : Int) : holdsB S n m p = false := by unfold holdsB; rw [if_pos (Or.inr h)]
set_option maxRecDepth 100000 in
set_option maxHeartbeats 4000000 in
theorem zwk (S : St) (V : SV) (w : World) (R : RepSt w V S) (hS : Small S) (hc : checkN S ≠ 0) (n : Int) (x : Ctx) :
 Calls Tryz.prog 10 #[.agg (stA V S.num), .int .i64 n, .agg (ctR x)] w fun e w' => ∃ s : Sl, e = .returned s.val ∧ Ints w' s (groupN S n x.ctl x.src) ∧ Grow w w' := by
 have HRef := Lib.hid (fun W (g : Grow w W) => zek S V W (R.grow g) hS)
 rw [zm3 hc]
 have hb : (checkN S != 0) = true := by simpa using hc
 generalize checkN S = z at *
 clear R hc
 go_enter Tryz.func10, Tryz.ntmps10
 go_wp2_with (go_at_call 19; refine (HRef.out _ grI).mono ?_; rintro e' w' ⟨rfl, nx, rfl⟩)
 go_ret
 exact ⟨.mk (w.heap.size + 1 + 1) 0 0 0, rfl, ⟨rfl, Nat.le_refl _, fun i hi => absurd hi (Nat.not_lt_zero _)⟩, grI⟩
set_option maxRecDepth 100000 in
set_option maxHeartbeats 4000000 in
theorem zuc (S : St) (V : SV) (w : World) (R : RepSt w V S) (hS : Small S) (G : Glob w) (hc : checkN S ≠ 0) (n : Int) (x : Ctx) :
 Calls Tryz.prog 12 #[.agg (stA V S.num), .int .i64 n, .agg (ctR x)] w fun e w' => ∃ s : Sl, e = .returned s.val ∧ Ints w' s (groupN S n x.ctl x.src) ∧ Grow w w' := by
 have HCk := Lib.hid (fun W (g : Grow w W) => by have := zgz S V W (R.grow g) hS (G.grow g); rw [zap hc] at this; exact this)
 rw [zm3 hc]
 generalize checkN S = z at *
 clear R hc G
 go_enter Tryz.func12, Tryz.ntmps12
 go_wp2_with (go_at_call 32; refine (HCk.out _ grI).mono ?_; rintro e' w' ⟨rfl, nx, rfl⟩)
 go_ret
 exact ⟨.nil, rfl, Ints.nil _, grI⟩
set_option maxRecDepth 100000 in
set_option maxHeartbeats 4000000 in
theorem zue (S : St) (V : SV) (w : World) (R : RepSt w V S) (hS : Small S) (G : Glob w) (hc : checkN S ≠ 0) (op n m who : Int) (a : Option Addr) (k c : Nat) (p : Int) :
 Calls Tryz.prog 13 #[.agg (stA V S.num), .agg (exR op n m who a k c), .int .i64 p] w fun e w' => e = .returned (.bool (holdsB S n m p)) ∧ Grow w w' := by
 have HCk := Lib.hid (fun W (g : Grow w W) => by have := zgz S V W (R.grow g) hS (G.grow g); rw [zap hc] at this; exact this)
 have HP := Lib.hid (fun W => zgr W p)
 rw [zm6 hc]
 generalize checkN S = z at *
 clear R hc G
 cases hp : decide (p = 0 ∨ p = 1)
 · rw [hp] at HP
   clear hp
   go_enter Tryz.func13, Tryz.ntmps13
   go_wp2_with (first | (go_at_call 27; refine (HP.out _).mono ?_; rintro e' w' ⟨rfl, nx, rfl⟩))
   go_ret
   exact ⟨rfl, grI⟩
 · rw [hp] at HP
   clear hp
   go_enter Tryz.func13, Tryz.ntmps13
   go_wp2_with (first | (go_at_call 27; refine (HP.out _).mono ?_; rintro e' w' ⟨rfl, nx, rfl⟩) | (go_at_call 32; refine (HCk.out _ grI).mono ?_; rintro e' w' ⟨rfl, nx, rfl⟩))
   go_ret
   exact ⟨rfl, grI⟩
set_option maxRecDepth 100000 in
set_option maxHeartbeats 4000000 in
theorem zsq (S : St) (V : SV) (w : World) (op n m who : Int) (a : Option Addr) (k c : Nat) (p : Int) (hp : ¬ (p = 0 ∨ p = 1)) :
 Calls Tryz.prog 14 #[.agg (stA V S.num), .agg (exR op n m who a k c), .int .i64 p] w fun e w' => e = .returned (.bool (holdsB S n m p)) ∧ Grow w w' := by
 rw [zqq S n m p hp]
 have b0 : (p != 0) = true := by simp; omega
 have b1 : (p != 1) = true := by simp; omega
 clear hp
 go_enter Tryz.func14, Tryz.ntmps14
 go_wp2_with fail
 go_ret
 exact ⟨rfl, grI⟩
set_option maxRecDepth 100000 in
set_option maxHeartbeats 4000000 in
theorem zo9 (S : St) (V : SV) (w : World) (R : RepSt w V S) (hS : Small S) (hc : checkN S ≠ 0) (op n m who : Int) (a : Option Addr) (k c : Nat) (p : Int) (hp : p = 0 ∨ p = 1) :
 Calls Tryz.prog 14 #[.agg (stA V S.num), .agg (exR op n m who a k c), .int .i64 p] w fun e w' => e = .returned (.bool (holdsB S n m p)) ∧ Grow w w' := by
 have HRef := Lib.hid (fun W (g : Grow w W) => zek S V W (R.grow g) hS)
 rw [zm6 hc]
 have hb : (checkN S != 0) = true := by simpa using hc
 generalize checkN S = z at *
 clear R hc
 rcases hp with rfl | rfl
 all_goals
  go_enter Tryz.func14, Tryz.ntmps14
  go_wp2_with (go_at_call 19; refine (HRef.out _ grI).mono ?_; rintro e' w' ⟨rfl, nx, rfl⟩)
  go_ret
  exact ⟨rfl, grI⟩
theorem tkN {P : Program} {md : Region.Mode} {ops : Array Oper} {Q : Exit → Act → World → Prop} {S : World → Prop} (i d : Nat) {oi : Oper} {fuel : Nat} {listed : Array Bool} {a : Act} {w : World} (hi : ops[i]? = some oi) (hd : oi.dst = some d)
 (hk : (Region.noSelect ops && Region.free md ops listed i && (Region.ready md ops listed).contains i) = true) (hw : Region.wanted oi (yielded ops a.tmps) = false)
 (hQ : ∀ c a w, Q (.panic c) (a.put oi.dst undef) w → Q (.panic c) a w) (hS : S w)
 (h : wpAnyH P md ops Q S fuel (listed.setIfInBounds i true) (a.put (some d) undef) w) : wpAnyH P md ops Q S (fuel + 1) listed a w := by
 rw [← hd] at h
 simp only [Bool.and_eq_true] at hk
 exact wpAnyH_take hi hk.1.1 hk.1.2 hk.2 hQ (Or.inr ⟨hw, rfl⟩) hS h
theorem tkY {P : Program} {md : Region.Mode} {ops : Array Oper} {Q : Exit → Act → World → Prop} {S : World → Prop} (i d : Nat) {oi : Oper} {v : Value} {fuel : Nat} {listed : Array Bool} {a : Act} {w : World} (hi : ops[i]? = some oi) (hd : oi.dst = some d)
 (hk : (Region.noSelect ops && Region.free md ops listed i && (Region.ready md ops listed).contains i) = true) (hw : Region.wanted oi (yielded ops a.tmps) = true)
 (hQ : ∀ c a w, Q (.panic c) (a.put oi.dst v) w → Q (.panic c) a w) (hS : S w) (hy : ∀ w, S w → (execOp a.eval oi).run P w = .ok (.value v) w)
 (h : wpAnyH P md ops Q S fuel (listed.setIfInBounds i true) (a.put (some d) v) w) : wpAnyH P md ops Q S (fuel + 1) listed a w := by
 rw [← hd] at h
 simp only [Bool.and_eq_true] at hk
 exact wpAnyH_take hi hk.1.1 hk.1.2 hk.2 hQ (Or.inl ⟨hw, hy⟩) hS h
set_option maxRecDepth 100000 in
set_option maxHeartbeats 8000000 in
theorem zm5 (T8 : zgg) (S : St) (V : SV) (w : World) (h : RS S V w) (op n m who : Int) (a : Option Addr) (k c : Nat) (p : Int) (hp : p = 0 ∨ p = 1) :
 Calls Tryz.prog 14 #[.agg (stA V S.num), .agg (exR op n m who a k c), .int .i64 p] w fun e w' => e = .returned (.bool (holdsB S n m p)) ∧ Grow w w' := by
 have hck := (zbi S).2 h.right
 have HRef := Lib.hid (fun W (g : Grow w W) => by have := zek S V W (h.rep.grow g) h.small; rw [hck] at this; exact this)
 have HB := Lib.hid (fun W (g : Grow w W) => zvj T8 S V W (h.grow g) p)
 have HO := Lib.hid (zqp h.right n m p hp)
 have hln := (h.rep.list (3 - p.toNat) (by omega)).len
 have hl4 : (S.list (3 - p.toNat)).length ≤ 400 := h.right.smallN.list (3 - p.toNat) (by omega)
 have hbl : (beastsN S p).length ≤ 400 := by
  unfold beastsN
  split
  · simp
  · exact Nat.le_trans (List.length_filter_le _ _) (h.right.smallN.list 8 (by omega))
 clear h T8 hck
 by_cases n0 : n = 0
 · subst n0
   rw [if_pos rfl] at HO
   clear HB hbl hln hl4
   rcases hp with rfl | rfl
   · cases hle : decide (S.num 0 ≤ m)
     · go_enter Tryz.func14, Tryz.ntmps14
       go_wp2_with (go_at_call 19; refine (HRef.out _ grI).mono ?_; rintro e' w' ⟨rfl, nx, rfl⟩)
       refine zab (by kernel_rfl) (by kernel_rfl) ?_; (repeat (go_big_quiet_step ( fail ))); refine wpQuiet_nil ?_; rintro _ ⟨nx, rfl⟩
       go_wp2_with fail
       go_ret
       exact ⟨by rw [HO.out]; exact congrArg (fun z => Ending.returned (Value.bool z)) hle.symm, grI⟩
     · go_enter Tryz.func14, Tryz.ntmps14
       go_wp2_with (go_at_call 19; refine (HRef.out _ grI).mono ?_; rintro e' w' ⟨rfl, nx, rfl⟩)
       refine zab (by kernel_rfl) (by kernel_rfl) ?_; (repeat (go_big_quiet_step ( fail ))); refine wpQuiet_nil ?_; rintro _ ⟨nx, rfl⟩
       go_wp2_with fail
       go_ret
       exact ⟨by rw [HO.out]; exact congrArg (fun z => Ending.returned (Value.bool z)) hle.symm, grI⟩
   · cases hle : decide (S.num 9 ≤ m)
     · go_enter Tryz.func14, Tryz.ntmps14
       go_wp2_with (go_at_call 19; refine (HRef.out _ grI).mono ?_; rintro e' w' ⟨rfl, nx, rfl⟩)
       refine zab (by kernel_rfl) (by kernel_rfl) ?_; (repeat (go_big_quiet_step ( fail ))); refine wpQuiet_nil ?_; rintro _ ⟨nx, rfl⟩
       go_wp2_with fail
       go_ret
       exact ⟨by rw [HO.out]; exact congrArg (fun z => Ending.returned (Value.bool z)) hle.symm, grI⟩
     · go_enter Tryz.func14, Tryz.ntmps14
       go_wp2_with (go_at_call 19; refine (HRef.out _ grI).mono ?_; rintro e' w' ⟨rfl, nx, rfl⟩)
       refine zab (by kernel_rfl) (by kernel_rfl) ?_; (repeat (go_big_quiet_step ( fail ))); refine wpQuiet_nil ?_; rintro _ ⟨nx, rfl⟩
       go_wp2_with fail
       go_ret
       exact ⟨by rw [HO.out]; exact congrArg (fun z => Ending.returned (Value.bool z)) hle.symm, grI⟩
 by_cases n1 : n = 1
 · subst n1
   rw [if_neg n0, if_pos rfl] at HO
   clear hln hl4 n0
   generalize beastsN S p = BL at *
   cases hge : decide (m ≤ (BL.length : Int))
   · rcases hp with rfl | rfl
     all_goals
      go_enter Tryz.func14, Tryz.ntmps14
      go_wp2_with (go_at_call 19; refine (HRef.out _ grI).mono ?_; rintro e' w' ⟨rfl, nx, rfl⟩)
      refine wp_region_held_drew (S := fun W => W.blk w.heap.size = stA V S.num ∧ W.cell? ⟨w.heap.size + 1, 2, none⟩ = some (I m) ∧ W.cell? ⟨w.heap.size + 1, 1, none⟩ = some (I 1)) (by kernel_rfl) (by simp [go_sem, *]) (fun hHeld => ?_)
      refine tkY 0 18 (v := ?_) rfl rfl (by kernel_rfl) rfl (fun _ _ _ h => h) (by assumption) ?hy ?_
      case hy => (intro w9 hS; (try dsimp only at hS); go_simp; try with_reducible rfl)
      (try simp only [Act.put, List.setIfInBounds_toArray, List.set_cons_zero, List.set_cons_succ])
      refine tkY 1 19 (v := ?_) rfl rfl (by kernel_rfl) rfl (fun _ _ _ h => h) (by assumption) ?hy ?_
      case hy => (intro w9 hS; (try dsimp only at hS); go_simp; try with_reducible rfl)
      (try simp only [Act.put, List.setIfInBounds_toArray, List.set_cons_zero, List.set_cons_succ])
      refine tkY 2 20 (v := ?_) rfl rfl (by kernel_rfl) rfl (fun _ _ _ h => h) (by assumption) ?hy ?_
      case hy => (intro w9 hS; (try dsimp only at hS); go_simp; try with_reducible rfl)
      (try simp only [Act.put, List.setIfInBounds_toArray, List.set_cons_zero, List.set_cons_succ])
      refine tkY 3 21 (v := ?_) rfl rfl (by kernel_rfl) rfl (fun _ _ _ h => h) (by assumption) ?hy ?_
      case hy => (intro w9 hS; (try dsimp only at hS); go_simp; try with_reducible rfl)
      (try simp only [Act.put, List.setIfInBounds_toArray, List.set_cons_zero, List.set_cons_succ])
      refine tkN 4 22 rfl rfl (by kernel_rfl) rfl (fun _ _ _ h => h) (by assumption) ?_
      (try simp only [Act.put, List.setIfInBounds_toArray, List.set_cons_zero, List.set_cons_succ])
      refine tkN 5 23 rfl rfl (by kernel_rfl) rfl (fun _ _ _ h => h) (by assumption) ?_
      (try simp only [Act.put, List.setIfInBounds_toArray, List.set_cons_zero, List.set_cons_succ])
      refine tkN 6 24 rfl rfl (by kernel_rfl) rfl (fun _ _ _ h => h) (by assumption) ?_
      (try simp only [Act.put, List.setIfInBounds_toArray, List.set_cons_zero, List.set_cons_succ])
      refine tkN 7 25 rfl rfl (by kernel_rfl) rfl (fun _ _ _ h => h) (by assumption) ?_
      (try simp only [Act.put, List.setIfInBounds_toArray, List.set_cons_zero, List.set_cons_succ])
      refine tkN 8 26 rfl rfl (by kernel_rfl) rfl (fun _ _ _ h => h) (by assumption) ?_
      (try simp only [Act.put, List.setIfInBounds_toArray, List.set_cons_zero, List.set_cons_succ])
      refine tkN 9 27 rfl rfl (by kernel_rfl) rfl (fun _ _ _ h => h) (by assumption) ?_
      (try simp only [Act.put, List.setIfInBounds_toArray, List.set_cons_zero, List.set_cons_succ])
      refine tkN 10 28 rfl rfl (by kernel_rfl) rfl (fun _ _ _ h => h) (by assumption) ?_
      (try simp only [Act.put, List.setIfInBounds_toArray, List.set_cons_zero, List.set_cons_succ])
      refine tkN 11 29 rfl rfl (by kernel_rfl) rfl (fun _ _ _ h => h) (by assumption) ?_
      (try simp only [Act.put, List.setIfInBounds_toArray, List.set_cons_zero, List.set_cons_succ])
      refine tkY 12 30 (v := ?_) rfl rfl (by kernel_rfl) rfl (fun _ _ _ h => h) (by assumption) ?hy ?_
      case hy => (intro w9 hS; (try dsimp only at hS); go_simp; try with_reducible rfl)
      (try simp only [Act.put, List.setIfInBounds_toArray, List.set_cons_zero, List.set_cons_succ])
      refine tkY 13 31 (v := ?_) rfl rfl (by kernel_rfl) rfl (fun _ _ _ h => h) (by assumption) ?hy ?_
      case hy => (intro w9 hS; (try dsimp only at hS); go_simp; try with_reducible rfl)
      (try simp only [Act.put, List.setIfInBounds_toArray, List.set_cons_zero, List.set_cons_succ])
      refine tkY 14 32 (v := ?_) rfl rfl (by kernel_rfl) rfl (fun _ _ _ h => h) (by assumption) ?hy ?_
      case hy => (intro w9 hS; (try dsimp only at hS); go_simp; try with_reducible rfl)
      (try simp only [Act.put, List.setIfInBounds_toArray, List.set_cons_zero, List.set_cons_succ])
      refine tkY 15 33 (v := ?_) rfl rfl (by kernel_rfl) rfl (fun _ _ _ h => h) (by assumption) ?hy ?_
      case hy => (intro w9 hS; (try dsimp only at hS); go_simp; try with_reducible rfl)
      (try simp only [Act.put, List.setIfInBounds_toArray, List.set_cons_zero, List.set_cons_succ])
      refine tkY 16 34 (v := ?_) rfl rfl (by kernel_rfl) rfl (fun _ _ _ h => h) (by assumption) ?hy ?_
      case hy => (intro w9 hS; (try dsimp only at hS); go_simp; try with_reducible rfl)
      (try simp only [Act.put, List.setIfInBounds_toArray, List.set_cons_zero, List.set_cons_succ])
      refine tkY 17 35 (v := ?_) rfl rfl (by kernel_rfl) rfl (fun _ _ _ h => h) (by assumption) ?hy ?_
      case hy => (intro w9 hS; (try dsimp only at hS); go_simp; try with_reducible rfl)
      (try simp only [Act.put, List.setIfInBounds_toArray, List.set_cons_zero, List.set_cons_succ])
      refine tkY 18 36 (v := ?_) rfl rfl (by kernel_rfl) rfl (fun _ _ _ h => h) (by assumption) ?hy ?_
      case hy => (intro w9 hS; (try dsimp only at hS); change (execOp _ { dst := some 36, op := .load 29 (.tmp 3), type := _, pos := _, after := _, guard := _ }).run _ _ = _; go_simp; try with_reducible rfl)
      (try simp only [Act.put, List.setIfInBounds_toArray, List.set_cons_zero, List.set_cons_succ])
      refine tkY 19 37 (v := ?_) rfl rfl (by kernel_rfl) rfl (fun _ _ _ h => h) (by assumption) ?hy ?_
      case hy => (intro w9 hS; (try dsimp only at hS); go_simp; try with_reducible rfl)
      (try simp only [Act.put, List.setIfInBounds_toArray, List.set_cons_zero, List.set_cons_succ])
      refine tkY 22 40 (v := ?_) rfl rfl (by kernel_rfl) rfl (fun _ _ _ h => h) (by assumption) ?hy ?_
      case hy => (intro w9 hS; (try dsimp only at hS); go_simp; try with_reducible rfl)
      (try simp only [Act.put, List.setIfInBounds_toArray, List.set_cons_zero, List.set_cons_succ])
      refine tkY 23 41 (v := ?_) rfl rfl (by kernel_rfl) rfl (fun _ _ _ h => h) (by assumption) ?hy ?_
      case hy => (intro w9 hS; (try dsimp only at hS); go_simp; try with_reducible rfl)
      (try simp only [Act.put, List.setIfInBounds_toArray, List.set_cons_zero, List.set_cons_succ])
      refine wpAnyH_ready (rs := [20]) (by kernel_rfl) (by simp) ?_
      refine AllReadyH.cons rfl (fun K hK => ?_) AllReadyH.nil
      go_simp
      go_at_call 36
      refine (HB.out _ grI).mono ?_
      rintro e' w' ⟨s1, rfl, hI, nB, rfl⟩
      have hbn := hI.len
      clear hI
      go_wp2_with fail
      refine hK.out _ _ (by simp [go_sem, *]) (fun hHeld2 => ?_)
      clear hK K
      (try simp only [Act.put, List.setIfInBounds_toArray, List.set_cons_zero, List.set_cons_succ])
      refine tkY 21 39 (v := ?_) rfl rfl (by kernel_rfl) rfl (fun _ _ _ h => h) (by assumption) ?hy ?_
      case hy => (intro w9 hS; (try dsimp only at hS); go_simp; try with_reducible rfl)
      (try simp only [Act.put, List.setIfInBounds_toArray, List.set_cons_zero, List.set_cons_succ])
      refine tkY 24 42 (v := ?_) rfl rfl (by kernel_rfl) rfl (fun _ _ _ h => h) (by assumption) ?hy ?_
      case hy => (intro w9 hS; (try dsimp only at hS); go_simp; try with_reducible rfl)
      (try simp only [Act.put, List.setIfInBounds_toArray, List.set_cons_zero, List.set_cons_succ])
      refine tkY 25 43 (v := ?_) rfl rfl (by kernel_rfl) rfl (fun _ _ _ h => h) (by assumption) ?hy ?_
      case hy => (intro w9 hS; (try dsimp only at hS); go_simp; try with_reducible rfl)
      (try simp only [Act.put, List.setIfInBounds_toArray, List.set_cons_zero, List.set_cons_succ])
      refine tkY 26 44 (v := ?_) rfl rfl (by kernel_rfl) rfl (fun _ _ _ h => h) (by assumption) ?hy ?_
      case hy => (intro w9 hS; (try dsimp only at hS); go_simp; try with_reducible rfl)
      (try simp only [Act.put, List.setIfInBounds_toArray, List.set_cons_zero, List.set_cons_succ])
      refine tkY 27 45 (v := ?_) rfl rfl (by kernel_rfl) rfl (fun _ _ _ h => h) (by assumption) ?hy ?_
      case hy => (intro w9 hS; (try dsimp only at hS); go_simp; try with_reducible rfl)
      (try simp only [Act.put, List.setIfInBounds_toArray, List.set_cons_zero, List.set_cons_succ])
      refine tkY 28 46 (v := ?_) rfl rfl (by kernel_rfl) rfl (fun _ _ _ h => h) (by assumption) ?hy ?_
      case hy => (intro w9 hS; (try dsimp only at hS); go_simp; try with_reducible rfl)
      (try simp only [Act.put, List.setIfInBounds_toArray, List.set_cons_zero, List.set_cons_succ])
      refine tkY 29 47 (v := ?_) rfl rfl (by kernel_rfl) rfl (fun _ _ _ h => h) (by assumption) ?hy ?_
      case hy => (intro w9 hS; (try dsimp only at hS); go_simp; try with_reducible rfl)
      (try simp only [Act.put, List.setIfInBounds_toArray, List.set_cons_zero, List.set_cons_succ])
      refine tkY 30 48 (v := ?_) rfl rfl (by kernel_rfl) rfl (fun _ _ _ h => h) (by assumption) ?hy ?_
      case hy => (intro w9 hS; (try dsimp only at hS); go_simp; try with_reducible rfl)
      (try simp only [Act.put, List.setIfInBounds_toArray, List.set_cons_zero, List.set_cons_succ])
      refine tkY 31 49 (v := ?_) rfl rfl (by kernel_rfl) rfl (fun _ _ _ h => h) (by assumption) ?hy ?_
      case hy => (intro w9 hS; (try dsimp only at hS); go_simp; try with_reducible rfl)
      (try simp only [Act.put, List.setIfInBounds_toArray, List.set_cons_zero, List.set_cons_succ])
      refine tkN 32 50 rfl rfl (by kernel_rfl) rfl (fun _ _ _ h => h) (by assumption) ?_
      (try simp only [Act.put, List.setIfInBounds_toArray, List.set_cons_zero, List.set_cons_succ])
      refine tkN 33 51 rfl rfl (by kernel_rfl) rfl (fun _ _ _ h => h) (by assumption) ?_
      (try simp only [Act.put, List.setIfInBounds_toArray, List.set_cons_zero, List.set_cons_succ])
      refine tkN 34 52 rfl rfl (by kernel_rfl) rfl (fun _ _ _ h => h) (by assumption) ?_
      (try simp only [Act.put, List.setIfInBounds_toArray, List.set_cons_zero, List.set_cons_succ])
      refine tkN 35 53 rfl rfl (by kernel_rfl) rfl (fun _ _ _ h => h) (by assumption) ?_
      (try simp only [Act.put, List.setIfInBounds_toArray, List.set_cons_zero, List.set_cons_succ])
      refine tkN 36 54 rfl rfl (by kernel_rfl) rfl (fun _ _ _ h => h) (by assumption) ?_
      (try simp only [Act.put, List.setIfInBounds_toArray, List.set_cons_zero, List.set_cons_succ])
      refine tkN 37 55 rfl rfl (by kernel_rfl) rfl (fun _ _ _ h => h) (by assumption) ?_
      (try simp only [Act.put, List.setIfInBounds_toArray, List.set_cons_zero, List.set_cons_succ])
      refine tkN 38 56 rfl rfl (by kernel_rfl) rfl (fun _ _ _ h => h) (by assumption) ?_
      (try simp only [Act.put, List.setIfInBounds_toArray, List.set_cons_zero, List.set_cons_succ])
      refine tkN 39 57 rfl rfl (by kernel_rfl) rfl (fun _ _ _ h => h) (by assumption) ?_
      (try simp only [Act.put, List.setIfInBounds_toArray, List.set_cons_zero, List.set_cons_succ])
      refine tkN 40 58 rfl rfl (by kernel_rfl) rfl (fun _ _ _ h => h) (by assumption) ?_
      (try simp only [Act.put, List.setIfInBounds_toArray, List.set_cons_zero, List.set_cons_succ])
      refine tkY 41 59 (v := ?_) rfl rfl (by kernel_rfl) rfl (fun _ _ _ h => h) (by assumption) ?hy ?_
      case hy => (intro w9 hS; (try dsimp only at hS); go_simp; try with_reducible rfl)
      (try simp only [Act.put, List.setIfInBounds_toArray, List.set_cons_zero, List.set_cons_succ])
      refine tkY 42 60 (v := ?_) rfl rfl (by kernel_rfl) rfl (fun _ _ _ h => h) (by assumption) ?hy ?_
      case hy => (intro w9 hS; (try dsimp only at hS); go_simp; try with_reducible rfl)
      (try simp only [Act.put, List.setIfInBounds_toArray, List.set_cons_zero, List.set_cons_succ])
      refine tkY 43 6 (v := ?_) rfl rfl (by kernel_rfl) rfl (fun _ _ _ h => h) (by assumption) ?hy ?_
      case hy => (intro w9 hS; (try dsimp only at hS); go_simp; try with_reducible rfl)
      (try simp only [Act.put, List.setIfInBounds_toArray, List.set_cons_zero, List.set_cons_succ])
      refine wpAnyH_done (by kernel_rfl) ?_ _
      go_wp2_with fail
      go_ret
      exact ⟨by rw [HO.out]; exact congrArg (fun z => Ending.returned (Value.bool z)) hge.symm, grI⟩
   · rcases hp with rfl | rfl
     all_goals
      go_enter Tryz.func14, Tryz.ntmps14
      go_wp2_with (go_at_call 19; refine (HRef.out _ grI).mono ?_; rintro e' w' ⟨rfl, nx, rfl⟩)
      refine wp_region_held_drew (S := fun W => W.blk w.heap.size = stA V S.num ∧ W.cell? ⟨w.heap.size + 1, 2, none⟩ = some (I m) ∧ W.cell? ⟨w.heap.size + 1, 1, none⟩ = some (I 1)) (by kernel_rfl) (by simp [go_sem, *]) (fun hHeld => ?_)
      refine tkY 0 18 (v := ?_) rfl rfl (by kernel_rfl) rfl (fun _ _ _ h => h) (by assumption) ?hy ?_
      case hy => (intro w9 hS; (try dsimp only at hS); go_simp; try with_reducible rfl)
      (try simp only [Act.put, List.setIfInBounds_toArray, List.set_cons_zero, List.set_cons_succ])
      refine tkY 1 19 (v := ?_) rfl rfl (by kernel_rfl) rfl (fun _ _ _ h => h) (by assumption) ?hy ?_
      case hy => (intro w9 hS; (try dsimp only at hS); go_simp; try with_reducible rfl)
      (try simp only [Act.put, List.setIfInBounds_toArray, List.set_cons_zero, List.set_cons_succ])
      refine tkY 2 20 (v := ?_) rfl rfl (by kernel_rfl) rfl (fun _ _ _ h => h) (by assumption) ?hy ?_
      case hy => (intro w9 hS; (try dsimp only at hS); go_simp; try with_reducible rfl)
      (try simp only [Act.put, List.setIfInBounds_toArray, List.set_cons_zero, List.set_cons_succ])
      refine tkY 3 21 (v := ?_) rfl rfl (by kernel_rfl) rfl (fun _ _ _ h => h) (by assumption) ?hy ?_
      case hy => (intro w9 hS; (try dsimp only at hS); go_simp; try with_reducible rfl)
      (try simp only [Act.put, List.setIfInBounds_toArray, List.set_cons_zero, List.set_cons_succ])
      refine tkN 4 22 rfl rfl (by kernel_rfl) rfl (fun _ _ _ h => h) (by assumption) ?_
      (try simp only [Act.put, List.setIfInBounds_toArray, List.set_cons_zero, List.set_cons_succ])
      refine tkN 5 23 rfl rfl (by kernel_rfl) rfl (fun _ _ _ h => h) (by assumption) ?_
      (try simp only [Act.put, List.setIfInBounds_toArray, List.set_cons_zero, List.set_cons_succ])
      refine tkN 6 24 rfl rfl (by kernel_rfl) rfl (fun _ _ _ h => h) (by assumption) ?_
      (try simp only [Act.put, List.setIfInBounds_toArray, List.set_cons_zero, List.set_cons_succ])
      refine tkN 7 25 rfl rfl (by kernel_rfl) rfl (fun _ _ _ h => h) (by assumption) ?_
      (try simp only [Act.put, List.setIfInBounds_toArray, List.set_cons_zero, List.set_cons_succ])
      refine tkN 8 26 rfl rfl (by kernel_rfl) rfl (fun _ _ _ h => h) (by assumption) ?_
      (try simp only [Act.put, List.setIfInBounds_toArray, List.set_cons_zero, List.set_cons_succ])
      refine tkN 9 27 rfl rfl (by kernel_rfl) rfl (fun _ _ _ h => h) (by assumption) ?_
      (try simp only [Act.put, List.setIfInBounds_toArray, List.set_cons_zero, List.set_cons_succ])
      refine tkN 10 28 rfl rfl (by kernel_rfl) rfl (fun _ _ _ h => h) (by assumption) ?_
      (try simp only [Act.put, List.setIfInBounds_toArray, List.set_cons_zero, List.set_cons_succ])
      refine tkN 11 29 rfl rfl (by kernel_rfl) rfl (fun _ _ _ h => h) (by assumption) ?_
      (try simp only [Act.put, List.setIfInBounds_toArray, List.set_cons_zero, List.set_cons_succ])
      refine tkY 12 30 (v := ?_) rfl rfl (by kernel_rfl) rfl (fun _ _ _ h => h) (by assumption) ?hy ?_
      case hy => (intro w9 hS; (try dsimp only at hS); go_simp; try with_reducible rfl)
      (try simp only [Act.put, List.setIfInBounds_toArray, List.set_cons_zero, List.set_cons_succ])
      refine tkY 13 31 (v := ?_) rfl rfl (by kernel_rfl) rfl (fun _ _ _ h => h) (by assumption) ?hy ?_
      case hy => (intro w9 hS; (try dsimp only at hS); go_simp; try with_reducible rfl)
      (try simp only [Act.put, List.setIfInBounds_toArray, List.set_cons_zero, List.set_cons_succ])
      refine tkY 14 32 (v := ?_) rfl rfl (by kernel_rfl) rfl (fun _ _ _ h => h) (by assumption) ?hy ?_
      case hy => (intro w9 hS; (try dsimp only at hS); go_simp; try with_reducible rfl)
      (try simp only [Act.put, List.setIfInBounds_toArray, List.set_cons_zero, List.set_cons_succ])
      refine tkY 15 33 (v := ?_) rfl rfl (by kernel_rfl) rfl (fun _ _ _ h => h) (by assumption) ?hy ?_
      case hy => (intro w9 hS; (try dsimp only at hS); go_simp; try with_reducible rfl)
      (try simp only [Act.put, List.setIfInBounds_toArray, List.set_cons_zero, List.set_cons_succ])
      refine tkY 16 34 (v := ?_) rfl rfl (by kernel_rfl) rfl (fun _ _ _ h => h) (by assumption) ?hy ?_
      case hy => (intro w9 hS; (try dsimp only at hS); go_simp; try with_reducible rfl)
      (try simp only [Act.put, List.setIfInBounds_toArray, List.set_cons_zero, List.set_cons_succ])
      refine tkY 17 35 (v := ?_) rfl rfl (by kernel_rfl) rfl (fun _ _ _ h => h) (by assumption) ?hy ?_
      case hy => (intro w9 hS; (try dsimp only at hS); go_simp; try with_reducible rfl)
      (try simp only [Act.put, List.setIfInBounds_toArray, List.set_cons_zero, List.set_cons_succ])
      refine tkY 18 36 (v := ?_) rfl rfl (by kernel_rfl) rfl (fun _ _ _ h => h) (by assumption) ?hy ?_
      case hy => (intro w9 hS; (try dsimp only at hS); change (execOp _ { dst := some 36, op := .load 29 (.tmp 3), type := _, pos := _, after := _, guard := _ }).run _ _ = _; go_simp; try with_reducible rfl)
      (try simp only [Act.put, List.setIfInBounds_toArray, List.set_cons_zero, List.set_cons_succ])
      refine tkY 19 37 (v := ?_) rfl rfl (by kernel_rfl) rfl (fun _ _ _ h => h) (by assumption) ?hy ?_
      case hy => (intro w9 hS; (try dsimp only at hS); go_simp; try with_reducible rfl)
      (try simp only [Act.put, List.setIfInBounds_toArray, List.set_cons_zero, List.set_cons_succ])
      refine tkY 22 40 (v := ?_) rfl rfl (by kernel_rfl) rfl (fun _ _ _ h => h) (by assumption) ?hy ?_
      case hy => (intro w9 hS; (try dsimp only at hS); go_simp; try with_reducible rfl)
      (try simp only [Act.put, List.setIfInBounds_toArray, List.set_cons_zero, List.set_cons_succ])
      refine tkY 23 41 (v := ?_) rfl rfl (by kernel_rfl) rfl (fun _ _ _ h => h) (by assumption) ?hy ?_
      case hy => (intro w9 hS; (try dsimp only at hS); go_simp; try with_reducible rfl)
      (try simp only [Act.put, List.setIfInBounds_toArray, List.set_cons_zero, List.set_cons_succ])
      refine wpAnyH_ready (rs := [20]) (by kernel_rfl) (by simp) ?_
      refine AllReadyH.cons rfl (fun K hK => ?_) AllReadyH.nil
      go_simp
      go_at_call 36
      refine (HB.out _ grI).mono ?_
      rintro e' w' ⟨s1, rfl, hI, nB, rfl⟩
      have hbn := hI.len
      clear hI
      go_wp2_with fail
      refine hK.out _ _ (by simp [go_sem, *]) (fun hHeld2 => ?_)
      clear hK K
      (try simp only [Act.put, List.setIfInBounds_toArray, List.set_cons_zero, List.set_cons_succ])
      refine tkY 21 39 (v := ?_) rfl rfl (by kernel_rfl) rfl (fun _ _ _ h => h) (by assumption) ?hy ?_
      case hy => (intro w9 hS; (try dsimp only at hS); go_simp; try with_reducible rfl)
      (try simp only [Act.put, List.setIfInBounds_toArray, List.set_cons_zero, List.set_cons_succ])
      refine tkY 24 42 (v := ?_) rfl rfl (by kernel_rfl) rfl (fun _ _ _ h => h) (by assumption) ?hy ?_
      case hy => (intro w9 hS; (try dsimp only at hS); go_simp; try with_reducible rfl)
      (try simp only [Act.put, List.setIfInBounds_toArray, List.set_cons_zero, List.set_cons_succ])
      refine tkY 25 43 (v := ?_) rfl rfl (by kernel_rfl) rfl (fun _ _ _ h => h) (by assumption) ?hy ?_
      case hy => (intro w9 hS; (try dsimp only at hS); go_simp; try with_reducible rfl)
      (try simp only [Act.put, List.setIfInBounds_toArray, List.set_cons_zero, List.set_cons_succ])
      refine tkY 26 44 (v := ?_) rfl rfl (by kernel_rfl) rfl (fun _ _ _ h => h) (by assumption) ?hy ?_
      case hy => (intro w9 hS; (try dsimp only at hS); go_simp; try with_reducible rfl)
      (try simp only [Act.put, List.setIfInBounds_toArray, List.set_cons_zero, List.set_cons_succ])
      refine tkY 27 45 (v := ?_) rfl rfl (by kernel_rfl) rfl (fun _ _ _ h => h) (by assumption) ?hy ?_
      case hy => (intro w9 hS; (try dsimp only at hS); go_simp; try with_reducible rfl)
      (try simp only [Act.put, List.setIfInBounds_toArray, List.set_cons_zero, List.set_cons_succ])
      refine tkN 28 46 rfl rfl (by kernel_rfl) rfl (fun _ _ _ h => h) (by assumption) ?_
      (try simp only [Act.put, List.setIfInBounds_toArray, List.set_cons_zero, List.set_cons_succ])
      refine tkN 29 47 rfl rfl (by kernel_rfl) rfl (fun _ _ _ h => h) (by assumption) ?_
      (try simp only [Act.put, List.setIfInBounds_toArray, List.set_cons_zero, List.set_cons_succ])
      refine tkN 30 48 rfl rfl (by kernel_rfl) rfl (fun _ _ _ h => h) (by assumption) ?_
      (try simp only [Act.put, List.setIfInBounds_toArray, List.set_cons_zero, List.set_cons_succ])
      refine tkN 31 49 rfl rfl (by kernel_rfl) rfl (fun _ _ _ h => h) (by assumption) ?_
      (try simp only [Act.put, List.setIfInBounds_toArray, List.set_cons_zero, List.set_cons_succ])
      refine tkN 32 50 rfl rfl (by kernel_rfl) rfl (fun _ _ _ h => h) (by assumption) ?_
      (try simp only [Act.put, List.setIfInBounds_toArray, List.set_cons_zero, List.set_cons_succ])
      refine tkN 33 51 rfl rfl (by kernel_rfl) rfl (fun _ _ _ h => h) (by assumption) ?_
      (try simp only [Act.put, List.setIfInBounds_toArray, List.set_cons_zero, List.set_cons_succ])
      refine tkN 34 52 rfl rfl (by kernel_rfl) rfl (fun _ _ _ h => h) (by assumption) ?_
      (try simp only [Act.put, List.setIfInBounds_toArray, List.set_cons_zero, List.set_cons_succ])
      refine tkN 35 53 rfl rfl (by kernel_rfl) rfl (fun _ _ _ h => h) (by assumption) ?_
      (try simp only [Act.put, List.setIfInBounds_toArray, List.set_cons_zero, List.set_cons_succ])
      refine tkN 36 54 rfl rfl (by kernel_rfl) rfl (fun _ _ _ h => h) (by assumption) ?_
      (try simp only [Act.put, List.setIfInBounds_toArray, List.set_cons_zero, List.set_cons_succ])
      refine tkN 37 55 rfl rfl (by kernel_rfl) rfl (fun _ _ _ h => h) (by assumption) ?_
      (try simp only [Act.put, List.setIfInBounds_toArray, List.set_cons_zero, List.set_cons_succ])
      refine tkN 38 56 rfl rfl (by kernel_rfl) rfl (fun _ _ _ h => h) (by assumption) ?_
      (try simp only [Act.put, List.setIfInBounds_toArray, List.set_cons_zero, List.set_cons_succ])
      refine tkN 39 57 rfl rfl (by kernel_rfl) rfl (fun _ _ _ h => h) (by assumption) ?_
      (try simp only [Act.put, List.setIfInBounds_toArray, List.set_cons_zero, List.set_cons_succ])
      refine tkN 40 58 rfl rfl (by kernel_rfl) rfl (fun _ _ _ h => h) (by assumption) ?_
      (try simp only [Act.put, List.setIfInBounds_toArray, List.set_cons_zero, List.set_cons_succ])
      refine tkN 41 59 rfl rfl (by kernel_rfl) rfl (fun _ _ _ h => h) (by assumption) ?_
      (try simp only [Act.put, List.setIfInBounds_toArray, List.set_cons_zero, List.set_cons_succ])
      refine tkY 42 60 (v := ?_) rfl rfl (by kernel_rfl) rfl (fun _ _ _ h => h) (by assumption) ?hy ?_
      case hy => (intro w9 hS; (try dsimp only at hS); go_simp; try with_reducible rfl)
      (try simp only [Act.put, List.setIfInBounds_toArray, List.set_cons_zero, List.set_cons_succ])
      refine tkY 43 6 (v := ?_) rfl rfl (by kernel_rfl) rfl (fun _ _ _ h => h) (by assumption) ?hy ?_
      case hy => (intro w9 hS; (try dsimp only at hS); go_simp; try with_reducible rfl)
      (try simp only [Act.put, List.setIfInBounds_toArray, List.set_cons_zero, List.set_cons_succ])
      refine wpAnyH_done (by kernel_rfl) ?_ _
      go_wp2_with fail
      go_ret
      exact ⟨by rw [HO.out]; exact congrArg (fun z => Ending.returned (Value.bool z)) hge.symm, grI⟩
 by_cases n2 : n = 2
 · subst n2
   rw [if_neg n0, if_neg n1, if_pos rfl] at HO
   clear n0 n1 HB hbl
   rcases hp with rfl | rfl
   · have hln : (V.list 3).n = (S.list 3).length := hln
     have hl4 : (S.list 3).length ≤ 400 := hl4
     cases hge : decide (m ≤ ((S.list 3).length : Int))
     · go_enter Tryz.func14, Tryz.ntmps14
       go_wp2_with (go_at_call 19; refine (HRef.out _ grI).mono ?_; rintro e' w' ⟨rfl, nx, rfl⟩)
       refine zab (by kernel_rfl) (by kernel_rfl) ?_; (repeat (go_big_quiet_step ( fail ))); refine wpQuiet_nil ?_; rintro _ ⟨nx, rfl⟩
       go_wp2_with fail
       go_ret
       exact ⟨by rw [HO.out]; exact congrArg (fun z => Ending.returned (Value.bool z)) hge.symm, grI⟩
     · go_enter Tryz.func14, Tryz.ntmps14
       go_wp2_with (go_at_call 19; refine (HRef.out _ grI).mono ?_; rintro e' w' ⟨rfl, nx, rfl⟩)
       refine zab (by kernel_rfl) (by kernel_rfl) ?_; (repeat (go_big_quiet_step ( fail ))); refine wpQuiet_nil ?_; rintro _ ⟨nx, rfl⟩
       go_wp2_with fail
       go_ret
       exact ⟨by rw [HO.out]; exact congrArg (fun z => Ending.returned (Value.bool z)) hge.symm, grI⟩
   · have hln : (V.list 2).n = (S.list 2).length := hln
     have hl4 : (S.list 2).length ≤ 400 := hl4
     cases hge : decide (m ≤ ((S.list 2).length : Int))
     · go_enter Tryz.func14, Tryz.ntmps14
       go_wp2_with (go_at_call 19; refine (HRef.out _ grI).mono ?_; rintro e' w' ⟨rfl, nx, rfl⟩)
       refine zab (by kernel_rfl) (by kernel_rfl) ?_; (repeat (go_big_quiet_step ( fail ))); refine wpQuiet_nil ?_; rintro _ ⟨nx, rfl⟩
       go_wp2_with fail
       go_ret
       exact ⟨by rw [HO.out]; exact congrArg (fun z => Ending.returned (Value.bool z)) hge.symm, grI⟩
     · go_enter Tryz.func14, Tryz.ntmps14
       go_wp2_with (go_at_call 19; refine (HRef.out _ grI).mono ?_; rintro e' w' ⟨rfl, nx, rfl⟩)
       refine zab (by kernel_rfl) (by kernel_rfl) ?_; (repeat (go_big_quiet_step ( fail ))); refine wpQuiet_nil ?_; rintro _ ⟨nx, rfl⟩
       go_wp2_with fail
       go_ret
       exact ⟨by rw [HO.out]; exact congrArg (fun z => Ending.returned (Value.bool z)) hge.symm, grI⟩
 · rw [if_neg n0, if_neg n1, if_neg n2] at HO
   have b0 : (n == 0) = false := by simpa using n0
   have b1 : (n == 1) = false := by simpa using n1
   have b2 : (n == 2) = false := by simpa using n2
   clear n0 n1 n2 HB hbl hln hl4
   rcases hp with rfl | rfl
   all_goals
    go_enter Tryz.func14, Tryz.ntmps14
    go_wp2_with (go_at_call 19; refine (HRef.out _ grI).mono ?_; rintro e' w' ⟨rfl, nx, rfl⟩)
    refine zab (by kernel_rfl) (by kernel_rfl) ?_; (repeat (go_big_quiet_step ( fail ))); refine wpQuiet_nil ?_; rintro _ ⟨nx, rfl⟩
    go_wp2_with fail
    go_ret
    exact ⟨by rw [HO.out]; rfl, grI⟩
end Go.Proofs.YthfalocligkamaaGreatDoor
