/-
  The walks of the journal's find, Span, cut, Back, Copy and Add.
-/
import Derived.Test.YtmmkmhpchoelkaaDoorJn2
import Derived.Test.YtmmkmhpchoelkaaDoorEv
namespace Go.Proofs.YtmmkmhpchoelkaaDoor
open Go Go.RowKit Go.Shelf

/-- The place of a live checkpoint; -1: there is none. -/
def findI (l : List (List Int)) (c : Int) : Int := if ahead l c < l.length ∧ gt (rowAt l (ahead l c)) 0 = c then ahead l c else -1
theorem ahead_le (l : List (List Int)) (c : Int) : ahead l c ≤ l.length := List.countP_le_length
set_option maxRecDepth 100000 in
theorem jfind_any (w : World) (b : Nat) (se sm : Sl) (J : Jn) (R : RepJ w b se sm J) (hs : Sorted J.marks) (hn : J.marks.length ≤ 1048576) (c : Int) :
    Calls Tryd.prog 90 #[.pointer (some ⟨b, 0, none⟩), .int .i64 c] w fun e w' => e = .returned (.int .i64 (findI J.marks c)) ∧ Grow w w' := by
  have hc := cell_of_blk R.free R.blk
  have HB := Lib.hid (bsearch_any w sm J.marks R.mks hs hn c)
  have hle := ahead_le J.marks c
  clear R hs
  by_cases h : ahead J.marks c < J.marks.length ∧ gt (rowAt J.marks (ahead J.marks c)) 0 = c
  · have hf : findI J.marks c = ahead J.marks c := by unfold findI; rw [if_pos h]
    have hb : (decide (ahead J.marks c < J.marks.length) && gt (rowAt J.marks (ahead J.marks c)) 0 == c) = true := by simp [h.1, h.2]
    rw [hf]
    rw [hb] at HB
    clear h hf hb
    generalize ahead J.marks c = na at *
    go_enter Tryd.func90, Tryd.ntmps90
    go_wp2_with (go_at_call 105; refine HB.out.mono ?_; rintro e' w' ⟨rfl, nx, rfl⟩)
    go_ret
    exact ⟨rfl, (by repeat (first | exact Grow.refl _ | refine Grow.andr ?_ | refine Grow.plus ?_ _ | refine Grow.alloc ?_ _ | refine Grow.drew ?_ | refine Grow.drewN ?_ _))⟩
  · have hf : findI J.marks c = -1 := by unfold findI; rw [if_neg h]
    have hb : (decide (ahead J.marks c < J.marks.length) && gt (rowAt J.marks (ahead J.marks c)) 0 == c) = false := by
      rw [Bool.eq_false_iff]; intro h2; apply h; simpa using h2
    rw [hf]
    rw [hb] at HB
    clear h hf hb
    generalize ahead J.marks c = na at *
    go_enter Tryd.func90, Tryd.ntmps90
    go_wp2_with (go_at_call 105; refine HB.out.mono ?_; rintro e' w' ⟨rfl, nx, rfl⟩)
    go_ret
    exact ⟨rfl, (by repeat (first | exact Grow.refl _ | refine Grow.andr ?_ | refine Grow.plus ?_ _ | refine Grow.alloc ?_ _ | refine Grow.drew ?_ | refine Grow.drewN ?_ _))⟩
/-- What holds of every journal. -/
structure JnOk (J : Jn) : Prop where
  sorted : Sorted J.marks
  behind : ∀ i, i < J.marks.length → 0 ≤ gt (rowAt J.marks i) 1 ∧ gt (rowAt J.marks i) 1 ≤ J.evs.length
  mono : ∀ i j, i ≤ j → j < J.marks.length → gt (rowAt J.marks i) 1 ≤ gt (rowAt J.marks j) 1
  below : ∀ i, i < J.marks.length → gt (rowAt J.marks i) 0 ≤ J.last
  last0 : 0 ≤ J.last
  lastN : J.last ≤ 1000000
  many : J.marks.length ≤ 1000000
  evsN : J.evs.length ≤ 65536
/-- The events behind a live checkpoint. -/
def Jn.span (J : Jn) (c : Int) : List (List Int) := J.evs.drop (gt (rowAt J.marks (ahead J.marks c)) 1).toNat
def Jn.live (J : Jn) (c : Int) : Prop := ahead J.marks c < J.marks.length ∧ gt (rowAt J.marks (ahead J.marks c)) 0 = c
theorem find_live {J : Jn} {c : Int} (h : J.live c) : findI J.marks c = ahead J.marks c := by unfold findI; exact if_pos h
theorem find_dead {J : Jn} {c : Int} (h : ¬ J.live c) : findI J.marks c = -1 := by unfold findI; exact if_neg h
set_option maxRecDepth 100000 in
theorem jspan_dead (w : World) (b : Nat) (se sm : Sl) (J : Jn) (R : RepJ w b se sm J) (K : JnOk J) (c : Int) (hl : ¬ J.live c) :
    Calls Tryd.prog 54 #[.pointer (some ⟨b, 0, none⟩), .int .i64 c] w fun e w' => e = .returned (.tuple #[.slice none 0 0, errV 16]) ∧ Grow w w' := by
  have HF := Lib.hid (jfind_any w b se sm J R K.sorted (by have := K.many; omega) c)
  rw [find_dead hl] at HF
  clear R K hl
  go_enter Tryd.func54, Tryd.ntmps54
  go_wp2_with (go_at_call 90; refine HF.out.mono ?_; rintro e' w' ⟨rfl, nx, rfl⟩)
  go_ret2
  exact ⟨rfl, (by repeat (first | exact Grow.refl _ | refine Grow.andr ?_ | refine Grow.plus ?_ _ | refine Grow.alloc ?_ _ | refine Grow.drew ?_ | refine Grow.drewN ?_ _))⟩
set_option maxRecDepth 100000 in
set_option maxHeartbeats 2000000 in
theorem jspan_live (w : World) (b : Nat) (se sm : Sl) (J : Jn) (R : RepJ w b se sm J) (K : JnOk J) (c : Int) (hl : J.live c) :
    Calls Tryd.prog 54 #[.pointer (some ⟨b, 0, none⟩), .int .i64 c] w fun e w' => ∃ s' : Sl, e = .returned (.tuple #[s'.val, .nilIface]) ∧ Own w' s' 42 6 w.heap.size (flat (J.span c)) ∧ Grow w w' := by
  have HF := Lib.hid (jfind_any w b se sm J R K.sorted (by have := K.many; omega) c)
  rw [find_live hl] at HF
  have hc := cell_of_blk R.free R.blk
  have hlt := R.lt
  obtain ⟨hb0, hb1⟩ := K.behind _ hl.1
  obtain ⟨qb, qw, qsz, qsub, qc⟩ := R.mks.at (by omega) _ hl.1
  have qc1 := qc 1 (by omega)
  have hna := hl.1
  rw [← R.mks.len] at hna
  have hev := K.evsN
  unfold Jn.span
  generalize hna2 : ahead J.marks c = na at *
  generalize gt (rowAt J.marks na) 1 = q at *
  obtain ⟨k, rfl⟩ := Int.eq_ofNat_of_zero_le hb0
  rw [Int.toNat_natCast]
  have hfr := R.evs.from k (by omega)
  have hk2 : (k : Int) ≤ se.n := by rw [R.evs.len]; exact hb1
  have HFR := Lib.hid hfr
  have HN : Hid ((J.evs.drop k).length ≤ 1048576) := (by simp; omega : (J.evs.drop k).length ≤ 1048576)
  clear R K hl hna2 qsz qsub qw qc hfr hb0 hb1
  go_enter Tryd.func54, Tryd.ntmps54
  go_wp2_with (go_at_call 90; refine HF.out.mono ?_; rintro e' w' ⟨rfl, nx, rfl⟩)
  go_region_law (first | (refine step_wanted (by rfl) ?_; go_simp; go_at_call 91; refine (cloned_events _ (se.from k 6) (J.evs.drop k) (HFR.out.grow (by repeat (first | exact Grow.refl _ | refine Grow.andr ?_ | refine Grow.plus ?_ _ | refine Grow.alloc ?_ _ | refine Grow.drew ?_ | refine Grow.drewN ?_ _))) HN.out).mono ?_; rintro e' w' ⟨s', rfl, hO, _, ny, rfl⟩; have HO := Lib.hid hO; clear hO))
  all_goals
    go_wp2_with fail
    go_ret2
    have h1 := HO.out.mono (base' := w.heap.size) (Grow.size (by repeat (first | exact Grow.refl _ | refine Grow.andr ?_ | refine Grow.plus ?_ _ | refine Grow.alloc ?_ _ | refine Grow.drew ?_ | refine Grow.drewN ?_ _)))
    (try simp only [drew_plus] at h1); (try simp only [plus_plus] at h1)
    exact ⟨s', rfl, h1, (by repeat (first | exact Grow.refl _ | refine Grow.andr ?_ | refine Grow.plus ?_ _ | refine Grow.alloc ?_ _ | refine Grow.drew ?_ | refine Grow.drewN ?_ _))⟩
/-- The journal behind a going back. -/
def Jn.cut (J : Jn) (at' : Nat) : Jn := { J with evs := J.evs.take (gt (rowAt J.marks at') 1).toNat, marks := J.marks.take (at' + 1) }
theorem RepJ.cut_post {w : World} {b : Nat} {se sm : Sl} {J : Jn} (R : RepJ w b se sm J) (se' sm' : Sl) (na : Nat) (h1 : se' = se.cut (gt (rowAt J.marks na) 1).toNat) (h2 : sm' = sm.cut (na + 1)) (hl : na < J.marks.length) (hq : gt (rowAt J.marks na) 1 ≤ J.evs.length) (hqc : gt (rowAt J.marks na) 1 ≤ se.c) (hnc : na + 1 ≤ sm.c) :
    JnPost w b se sm (J.cut na) (w.setRow b (jnA se' sm' J.last)) := by
  subst h1 h2
  have k1 : Kept (fun k => k = b) w (w.setRow b (jnA (se.cut (gt (rowAt J.marks na) 1).toNat) (sm.cut (na + 1)) J.last)) := (Kept.refl _ _).setRow b _ (fun _ => rfl)
  have e1 := R.evs.kept k1 (fun hl e => R.apE (by have e : se.b = b := e; rw [← e]; exact owns_ofR R.evs hl))
  have e2 := R.evr.kept k1 (fun k hk e => R.apE (by have e : k = b := e; rw [← e]; exact hk))
  have e3 := R.mks.kept k1 (fun hl e => R.apM (by have e : sm.b = b := e; rw [← e]; exact owns_ofR R.mks hl))
  have e4 := R.mkr.kept k1 (fun k hk e => R.apM (by have e : k = b := e; rw [← e]; exact hk))
  refine ⟨_, _, ⟨by rw [blk_setRow _ _ _ _ R.free, if_pos rfl]; rfl, by rw [free_setRow]; exact R.free, e1.upto _ (by omega), e2.cut _ (by omega), e3.upto _ (by omega), e4.cut _ hnc, fun h => R.apE (cut_owns.1 h), fun h => R.apM (cut_owns.1 h), fun k h1 h2 => R.apX k (cut_owns.1 h1) (cut_owns.1 h2), fun k h => ?_, fun k h => ?_⟩, k1.mono (fun k _ h => Or.inl h), fun k hk => Or.inl (hk.imp (fun h => h) (fun h => h.imp cut_owns.1 cut_owns.1))⟩
  · rw [size_setRow]; exact R.inE k (cut_owns.1 h)
  · rw [size_setRow]; exact R.inM k (cut_owns.1 h)
set_option maxRecDepth 100000 in
set_option maxHeartbeats 2000000 in
theorem jcut_any (w : World) (b : Nat) (se sm : Sl) (J : Jn) (R : RepJ w b se sm J) (K : JnOk J) (na : Nat) (hl : na < J.marks.length) :
    Calls Tryd.prog 94 #[.pointer (some ⟨b, 0, none⟩), .int .i64 na] w fun e w' => e = .returned (.tuple #[]) ∧ JnPost w b se sm (J.cut na) w' := by
  have hc := cell_of_blk R.free R.blk
  have hf := frozen_of_free R.free
  have hfree := R.free
  have hset := setCell_of_blk R.free R.blk
  have hlt := R.lt
  obtain ⟨hb0, hb1⟩ := K.behind _ hl
  obtain ⟨qb, qw, qsz, qsub, qc⟩ := R.mks.at (by omega) _ hl
  have qc1 := qc 1 (by omega)
  have hna : na < sm.n := by rw [R.mks.len]; exact hl
  have hnc : na + 1 ≤ sm.c := Nat.le_trans hna R.mks.cap
  have hq : gt (rowAt J.marks na) 1 ≤ se.c := by have := R.evs.cap; have := R.evs.len; omega
  have hi1 : (na : Int) + 1 ≤ sm.c := by omega
  have hi2 : ((na : Int) + 1).toNat = na + 1 := by omega
  have hnb : na < 1000000 := by have := K.many; omega
  have hnd : na < sm.c := by omega
  have hnz : (0 : Int) ≤ (na : Int) + 1 := by omega
  have hni : (na : Int) < sm.c := by omega
  have HR := Lib.hid R
  have HL := Lib.hid hl
  generalize hqq : gt (rowAt J.marks na) 1 = q at *
  have HQ := Lib.hid hqq
  clear R K hl qsz qsub qw qc hqq
  go_enter Tryd.func94, Tryd.ntmps94
  go_wp2_with fail
  refine wp_region_order [0, 1, 2, 3, 4, 5, 6, 7, 8, 9, 10, 11, 12, 13, 14, 15, 16, 17, 18, 19, 20, 21, 22, 23] 24 [] (by kernel_rfl) (by kernel_rfl) ?_; simp only [pickO, List.getElem?_cons_zero, List.getElem?_cons_succ]; (repeat (go_big_quiet_step ( fail ))); refine wpQuiet_nil ?_; rintro _ ⟨nx, rfl⟩
  go_wp2_with fail
  go_end0
  refine ⟨rfl, ?_⟩
  have hk := HR.out.cut_post (se.cut q.toNat) (sm.cut (na + 1)) na (by rw [HQ.out]) rfl HL.out (by rw [HQ.out]; omega) (by rw [HQ.out]; exact hq) hnc
  obtain ⟨se', sm', h1, h2, h3⟩ := hk
  exact ⟨se', sm', h1.grow (by repeat (first | exact Grow.refl _ | refine Grow.andr ?_ | refine Grow.plus ?_ _ | refine Grow.alloc ?_ _ | refine Grow.drew ?_ | refine Grow.drewN ?_ _)), h2.plus _, fun k hk => (h3 k hk).imp (fun h => h) (fun h => ⟨h.1, Nat.lt_of_lt_of_le h.2 (Grow.size (by repeat (first | exact Grow.refl _ | refine Grow.andr ?_ | refine Grow.plus ?_ _ | refine Grow.alloc ?_ _ | refine Grow.drew ?_ | refine Grow.drewN ?_ _)))⟩)⟩
end Go.Proofs.YtmmkmhpchoelkaaDoor
