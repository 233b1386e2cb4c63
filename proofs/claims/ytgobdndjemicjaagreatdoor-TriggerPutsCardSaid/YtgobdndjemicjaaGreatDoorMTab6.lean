/- The table of all cards. -/
import Derived.Test.YtgobdndjemicjaaGreatDoorMTab5
namespace Go.Proofs.YtgobdndjemicjaaGreatDoor
open Go Go.RowKit
theorem zai {fn : Func} {p q : Tmp} (h : fn.results = #[.cell p 44, .tmp q]) (tmps : Array Value) (w : World) (b : Nat) (hp : tmps.getD p undef = .pointer (some ⟨b, 0, none⟩)) (h1 : (w.blk b).size = 13) :
 (results fn tmps).run Tryz.prog w = .ok (.tuple #[.agg (sub (w.blk b) 0 13), tmps.getD q undef]) w := by
 unfold results
 rw [h]
 have e1 := zjf w b h1
 have hp' : tmps[p]?.getD undef = .pointer (some ⟨b, 0, none⟩) := by simpa using hp
 simp [asAddr, hp', e1]
@[go_sem] theorem z99 (w : World) (cs : Array Value) (q : IntKind) (i : Int) (h0 : 0 ≤ i) (h1 : i < 5) : (Instr.index 170 (.agg cs) (.int q i)).run Tryz.prog w = .ok (.agg (sub cs (i.toNat * 56) 56)) w :=
 zch w 170 169 5 56 Tryz.underlying170 (fun w => by kernel_rfl) (fun w => by kernel_rfl) cs q i h0 h1
@[go_sem] theorem ycp (w : World) (cs : Array Value) (q : IntKind) (i : Int) (h0 : 0 ≤ i) (h1 : i < 4) : (Instr.index 169 (.agg cs) (.int q i)).run Tryz.prog w = .ok (.agg (sub cs (i.toNat * 14) 14)) w :=
 zch w 169 38 4 14 Tryz.underlying169 (fun w => by kernel_rfl) (fun w => by kernel_rfl) cs q i h0 h1
@[go_sem] theorem yaa (w : World) (cs : Array Value) (q : IntKind) (i : Int) (h0 : 0 ≤ i) (h1 : i < 5) : (Instr.index 167 (.agg cs) (.int q i)).run Tryz.prog w = .ok (.agg (sub cs (i.toNat * 84) 84)) w :=
 zch w 167 166 5 84 Tryz.underlying167 (fun w => by kernel_rfl) (fun w => by kernel_rfl) cs q i h0 h1
@[go_sem] theorem ycq (w : World) (cs : Array Value) (q : IntKind) (i : Int) (h0 : 0 ≤ i) (h1 : i < 6) : (Instr.index 166 (.agg cs) (.int q i)).run Tryz.prog w = .ok (.agg (sub cs (i.toNat * 14) 14)) w :=
 zch w 166 38 6 14 Tryz.underlying166 (fun w => by kernel_rfl) (fun w => by kernel_rfl) cs q i h0 h1
@[go_sem] theorem zyp (w : World) (a : Int) (f : Bool) (c0 c1 c2 c3 c4 c5 : Int) (k o n c : Nat) : (za2 44 #[(0, .int .i64 2), (1, .int .i64 a), (2, .bool f), (3, .agg (cellsOf [c0, c1, c2, c3, c4, c5])), (7, .slice (some ⟨k, o, none⟩) n c)]).run Tryz.prog w = .ok (.value (.agg (CdV.arr ⟨2, a, f, c0, c1, c2, c3, c4, c5, 0, 0, 0, .mk k o n c⟩))) w := by kernel_rfl
@[go_sem] theorem zyn (w : World) (a : Int) (c0 c1 c2 c3 c4 c5 : Int) (k o n c : Nat) : (za2 44 #[(0, .int .i64 3), (1, .int .i64 a), (3, .agg (cellsOf [c0, c1, c2, c3, c4, c5])), (7, .slice (some ⟨k, o, none⟩) n c)]).run Tryz.prog w = .ok (.value (.agg (CdV.arr ⟨3, a, false, c0, c1, c2, c3, c4, c5, 0, 0, 0, .mk k o n c⟩))) w := by kernel_rfl
@[go_sem] theorem zyq (w : World) (p t s : Int) : (za2 44 #[(0, .int .i64 1), (1, .int .i64 5), (4, .int .i64 p), (5, .int .i64 t), (6, .int .i64 s)]).run Tryz.prog w = .ok (.value (.agg (CdV.arr ⟨1, 5, false, 0, 0, 0, 0, 0, 0, p, t, s, .nil⟩))) w := by kernel_rfl
def z08 (w w' : World) (r : Ending) (d : CardN) : Prop := ∃ c : CdV, r = .returned (.tuple #[.agg c.arr, .nilIface]) ∧ CardOk w' w.heap.size c d ∧ Grow w w'
def zfc (w w' : World) (r : Ending) (d : CardF) : Prop := ∃ c : CdV, r = .returned (.tuple #[.agg c.arr, .nilIface]) ∧ CardIs w' w.heap.size c d ∧ Grow w w'
theorem CardOk.to {b : Nat} {w w1 w2 w3 : World} {m n : Nat} {c : CdV} {d : CardN} (h : CardOk w n c d) (g : Grow w w1) (ho : Off b w1 w2) (hb : b < n) (hm : m ≤ n) (g3 : Grow w2 w3) : CardOk w3 m c d :=
 (((h.grow g).off ho hb).low hm).grow g3
theorem CardOk.tune {w : World} {n : Nat} {c : CdV} {d : CardN} (h : CardOk w n c d) (p t s : Int) : CardOk w n { c with pw := p, tf := t, says := s } { d with pw := p, tf := t, says := s } := ⟨h.kind, rfl, rfl, rfl, h.abs⟩
theorem AbsOk.append {w : World} {n : Nat} {l l' : List AbV} {m m' : List AbN} (h : AbsOk w n l m) (h' : AbsOk w n l' m') : AbsOk w n (l ++ l') (m ++ m') := by
 induction h with
 | nil => exact h'
 | cons h _ ih => exact .cons h ih
theorem zve : ∀ n : Nat, n < 30 → zj9 (((n : Int) % 5).toNat) 1 ((n : Int) / 5) = zbe (n % 5) 1 ((n / 5 : Nat) : Int) := by decide +kernel
theorem zue : ∀ n : Nat, n < 20 → zj9 (((n : Int) % 5).toNat) 1 ((n : Int) / 5 + 1) = zbe (n % 5) 1 (((n / 5 : Nat) : Int) + 1) := by decide +kernel
theorem zvi (m : Nat) (hm : m < 8) : cardF (m + 112) = ⟨1, 5, false, noCost, (m : Int) / 2 + 1, (m : Int) / 2 + 1, (m : Int) % 2, []⟩ := by
 have : m = 0 ∨ m = 1 ∨ m = 2 ∨ m = 3 ∨ m = 4 ∨ m = 5 ∨ m = 6 ∨ m = 7 := by omega
 rcases this with rfl | rfl | rfl | rfl | rfl | rfl | rfl | rfl <;> rfl
set_option maxRecDepth 100000 in
set_option maxHeartbeats 2000000 in
theorem zpp (w : World) (n : Nat) (hn : n < 10) : Calls Tryz.prog 94 #[.int .i64 (n : Int)] w fun r w' => zfc w w' r (cardF n) := by
 go_enter Tryz.func94, Tryz.ntmps94
 go_wp2_with (go_at_call 151; refine (zvc _ n hn).mono ?_; rintro e' w' ⟨c, rfl, hc, nx, rfl⟩; have HC := Lib.hid hc; clear hc)
 refine bodyPost_ret (zai rfl _ _ _ rfl ?_) rfl ?_
 · go_simp
 · exact ⟨c, by go_simp, HC.out.to (b := w.heap.size) grI (Off.plus (Off.base w _ _ _ rfl) _) (by first | (go_simp; done) | (go_simp; omega) | (simp only [Sl.b]; go_simp; omega)) (by first | (go_simp; done) | (go_simp; omega) | (simp only [Sl.b]; go_simp; omega)) grI, grI⟩
set_option maxRecDepth 100000 in
set_option maxHeartbeats 2000000 in
theorem zta (w : World) (n : Nat) (hn : n < 40) : Calls Tryz.prog 94 #[.int .i64 ((n : Int) + 10)] w fun r w' => zfc w w' r (zbq (n % 5) (n / 5)) := by
 go_enter Tryz.func94, Tryz.ntmps94
 go_wp2_with (go_at_call 152; refine (zwm _ n hn).mono ?_; rintro e' w' ⟨c, rfl, hc, nx, rfl⟩; have HC := Lib.hid hc; clear hc)
 refine bodyPost_ret (zai rfl _ _ _ rfl ?_) rfl ?_
 · go_simp
 · exact ⟨c, by go_simp, HC.out.to (b := w.heap.size) grI (Off.plus (Off.base w _ _ _ rfl) _) (by first | (go_simp; done) | (go_simp; omega) | (simp only [Sl.b]; go_simp; omega)) (by first | (go_simp; done) | (go_simp; omega) | (simp only [Sl.b]; go_simp; omega)) grI, grI⟩
set_option maxRecDepth 100000 in
set_option maxHeartbeats 2000000 in
theorem zno (w : World) (n : Nat) (hn : n < 12) : Calls Tryz.prog 94 #[.int .i64 ((n : Int) + 100)] w fun r w' => zfc w w' r (zef n) := by
 go_enter Tryz.func94, Tryz.ntmps94
 go_wp2_with (go_at_call 156; refine (zq2 _ n hn).mono ?_; rintro e' w' ⟨c, rfl, hc, nx, rfl⟩; have HC := Lib.hid hc; clear hc)
 refine bodyPost_ret (zai rfl _ _ _ rfl ?_) rfl ?_
 · go_simp
 · exact ⟨c, by go_simp, HC.out.to (b := w.heap.size) grI (Off.plus (Off.base w _ _ _ rfl) _) (by first | (go_simp; done) | (go_simp; omega) | (simp only [Sl.b]; go_simp; omega)) (by first | (go_simp; done) | (go_simp; omega) | (simp only [Sl.b]; go_simp; omega)) grI, grI⟩
set_option maxRecDepth 100000 in
set_option maxHeartbeats 2000000 in
theorem ztd (w : World) (n : Nat) (hn : n < 8) : Calls Tryz.prog 94 #[.int .i64 ((n : Int) + 112)] w fun r w' => zfc w w' r ⟨1, 5, false, noCost, (n : Int) / 2 + 1, (n : Int) / 2 + 1, (n : Int) % 2, []⟩ := by
 go_enter Tryz.func94, Tryz.ntmps94
 go_wp2_with fail
 refine bodyPost_ret (zai rfl _ _ _ rfl ?_) rfl ?_
 · go_simp
 · refine ⟨_, (by go_simp; rfl), ⟨rfl, rfl, rfl, rfl, rfl, rfl, rfl, [], RowsV.nil _ _, .inl rfl, .nil⟩, grI⟩
set_option maxRecDepth 100000 in
set_option maxHeartbeats 2000000 in
theorem ztc (w : World) (n : Nat) (hn : n < 30) : Calls Tryz.prog 94 #[.int .i64 ((n : Int) + 50)] w fun r w' => zfc w w' r (zfs (n % 5) (n / 5)) := by
 have d1 : 0 ≤ (n : Int) % 5 ∧ (n : Int) % 5 < 5 := by omega
 have d2 : 0 ≤ (n : Int) / 5 ∧ (n : Int) / 5 < 6 := by omega
 have HCol : Hid ((n : Int) % 5 = ((n % 5 : Nat) : Int)) := by rw [Hid]; omega
 have HFa : Hid (((n : Int) / 5 % 2 == 0) = (n / 5 % 2 == 0)) := by
  rw [Hid]; rcases Nat.mod_two_eq_zero_or_one (n / 5) with h | h
  · rw [h, show (n : Int) / 5 % 2 = 0 by omega]; rfl
  · rw [h, show (n : Int) / 5 % 2 = 1 by omega]; rfl
 have HCo := Lib.hid (zve n hn)
 go_enter Tryz.func94, Tryz.ntmps94
 go_wp2_with (first | (go_at_call 153; refine (za4 _ _ _ _ (by omega) (by omega)).mono ?_; rintro e' w' ⟨d0, d1, d2, d3, d4, d5, rfl, hc, nx, rfl⟩; have HC := Lib.hid hc; clear hc) | (go_at_call 154; refine (zvf _).mono ?_; rintro e' w' ⟨x, rfl, hx, nx, rfl⟩; obtain ⟨a, ha, ha0⟩ := hx (n % 5) (n / 5) (by omega) (by omega); (try simp only [zad] at ha0); (try simp only [zac] at ha0); have HX := Lib.hid ha0; clear hx ha0))
 refine bodyPost_ret (zai rfl _ _ _ rfl ?_) rfl ?_
 · go_simp
 · refine ⟨_, (by go_simp; rfl), ⟨rfl, HCol.out, HFa.out, HC.out.trans HCo.out, rfl, rfl, rfl, ?_⟩, grI⟩
   refine ⟨[a], RowsV.one (x := AbV.arr a) (by go_simp) (by go_simp) (by go_simp), .inr (by first | (go_simp; done) | (go_simp; omega) | (simp only [Sl.b]; go_simp; omega)), .cons ?_ .nil⟩
   exact ((HX.out.off (b := w.heap.size) (Off.plus (Off.base w _ _ _ rfl) _) (by first | (go_simp; done) | (go_simp; omega) | (simp only [Sl.b]; go_simp; omega))).less (by first | (go_simp; done) | (go_simp; omega) | (simp only [Sl.b]; go_simp; omega))).grow grI
set_option maxRecDepth 100000 in
set_option maxHeartbeats 2000000 in
theorem ztb (w : World) (n : Nat) (hn : n < 20) : Calls Tryz.prog 94 #[.int .i64 ((n : Int) + 80)] w fun r w' => zfc w w' r (zfr (n % 5) (n / 5)) := by
 have d1 : 0 ≤ (n : Int) % 5 ∧ (n : Int) % 5 < 5 := by omega
 have d2 : 0 ≤ (n : Int) / 5 ∧ (n : Int) / 5 < 4 := by omega
 have HCol : Hid ((n : Int) % 5 = ((n % 5 : Nat) : Int)) := by rw [Hid]; omega
 have HCo := Lib.hid (zue n hn)
 go_enter Tryz.func94, Tryz.ntmps94
 go_wp2_with (first | (go_at_call 153; refine (za4 _ _ _ _ (by omega) (by omega)).mono ?_; rintro e' w' ⟨d0, d1, d2, d3, d4, d5, rfl, hc, nx, rfl⟩; have HC := Lib.hid hc; clear hc) | (go_at_call 155; refine (zuf _).mono ?_; rintro e' w' ⟨x, rfl, hx, nx, rfl⟩; obtain ⟨a, ha, ha0⟩ := hx (n % 5) (n / 5) (by omega) (by omega); (try simp only [zad] at ha0); (try simp only [zac] at ha0); have HX := Lib.hid ha0; clear hx ha0))
 refine bodyPost_ret (zai rfl _ _ _ rfl ?_) rfl ?_
 · go_simp
 · rename_i n1
   refine ⟨_, (by go_simp; rfl), ⟨rfl, HCol.out, rfl, HC.out.trans HCo.out, rfl, rfl, rfl, ?_⟩, grI⟩
   refine ⟨[a], RowsV.one (x := AbV.arr a) (by go_simp) (by go_simp) (by go_simp), .inr (by first | (go_simp; done) | (go_simp; omega) | (simp only [Sl.b]; go_simp; omega)), .cons ?_ .nil⟩
   exact ((HX.out.off (b := w.heap.size) (Off.plus (Off.base w _ _ _ rfl) _) (by first | (go_simp; done) | (go_simp; omega) | (simp only [Sl.b]; go_simp; omega))).less (by first | (go_simp; done) | (go_simp; omega) | (simp only [Sl.b]; go_simp; omega))).grow grI
theorem znm (w : World) (n : Nat) (hn : n < 120) : Calls Tryz.prog 94 #[.int .i64 (n : Int)] w fun r w' => zfc w w' r (cardF n) := by
 by_cases h10 : n < 10
 · exact zpp w n h10
 by_cases h50 : n < 50
 · obtain ⟨m, rfl⟩ : ∃ m, n = m + 10 := ⟨n - 10, by omega⟩
   have h := zta w m (by omega)
   rw [cardF, if_neg (by omega), if_neg h10, if_pos h50, Nat.add_sub_cancel]; exact h
 by_cases h80 : n < 80
 · obtain ⟨m, rfl⟩ : ∃ m, n = m + 50 := ⟨n - 50, by omega⟩
   have h := ztc w m (by omega)
   rw [cardF, if_neg (by omega), if_neg h10, if_neg h50, if_pos h80, Nat.add_sub_cancel]; exact h
 by_cases h100 : n < 100
 · obtain ⟨m, rfl⟩ : ∃ m, n = m + 80 := ⟨n - 80, by omega⟩
   have h := ztb w m (by omega)
   rw [cardF, if_neg (by omega), if_neg h10, if_neg h50, if_neg h80, if_pos h100, Nat.add_sub_cancel]; exact h
 by_cases h112 : n < 112
 · obtain ⟨m, rfl⟩ : ∃ m, n = m + 100 := ⟨n - 100, by omega⟩
   have h := zno w m (by omega)
   rw [cardF, if_neg (by omega), if_neg h10, if_neg h50, if_neg h80, if_neg h100, if_pos h112, Nat.add_sub_cancel]; exact h
 · obtain ⟨m, rfl⟩ : ∃ m, n = m + 112 := ⟨n - 112, by omega⟩
   have h := ztd w m (by omega)
   have e : cardF (m + 112) = ⟨1, 5, false, noCost, (m : Int) / 2 + 1, (m : Int) / 2 + 1, (m : Int) % 2, []⟩ := zvi m (by omega)
   rw [e]; exact h
theorem zjt (w : World) (n : Nat) (hn : n < 120) : Calls Tryz.prog 94 #[.int .i64 (n : Int)] w fun r w' => z08 w w' r (cardN n) :=
 (znm w n hn).mono fun _ _ ⟨c, h1, h2, h3⟩ => ⟨c, h1, h2.ok hn, h3⟩
end Go.Proofs.YtgobdndjemicjaaGreatDoor
