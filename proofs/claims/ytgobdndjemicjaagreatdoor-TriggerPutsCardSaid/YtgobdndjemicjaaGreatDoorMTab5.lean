/- Beasts, and the table of all cards. -/
import Derived.Test.YtgobdndjemicjaaGreatDoorMTab4
namespace Go.Proofs.YtgobdndjemicjaaGreatDoor
open Go Go.RowKit
@[go_sem] theorem zyf (w : World) (a p t s : Int) (c0 c1 c2 c3 c4 c5 : Int) : (za2 44 #[(0, .int .i64 1), (1, .int .i64 a), (3, .agg (cellsOf [c0, c1, c2, c3, c4, c5])), (4, .int .i64 p), (5, .int .i64 t), (6, .int .i64 s)]).run Tryz.prog w = .ok (.value (.agg (CdV.arr ⟨1, a, false, c0, c1, c2, c3, c4, c5, p, t, s, .nil⟩))) w := by kernel_rfl
@[go_sem] theorem z0w (w : World) (b o sb so n c : Nat) (h : (w.cell? ⟨b, o, none⟩).isSome = true) (hf : w.frozen? ⟨b, o, none⟩ = false) : (zas 42 (.pointer (some ⟨b, o, none⟩)) (.slice (some ⟨sb, so, none⟩) n c)).run Tryz.prog w = .ok .skip (w.setCell ⟨b, o, none⟩ (.slice (some ⟨sb, so, none⟩) n c)) :=
 zcj w b o 42 (.mk sb so n c) (by kernel_rfl) h hf
theorem AbIs.nums (w : World) (n : Nat) {wh c0 c1 c2 c3 c4 c5 tg o a b c : Int} {tap : Bool} {f : AbF} (h1 : wh = f.wh) (h2 : [c0, c1, c2, c3, c4, c5] = f.cost) (h3 : tap = f.tap) (h4 : tg = f.tg) (h5 : o = f.ef.op) (h6 : a = f.ef.n) (h7 : b = f.ef.m) (h8 : c = f.ef.who) (h9 : f.ef.subs = []) :
 AbIs w n ⟨wh, c0, c1, c2, c3, c4, c5, tap, tg, ⟨o, a, b, c, .nil⟩⟩ f :=
 ⟨h1, h2, h3, h4, ⟨h5, h6, h7, h8, by rw [h9]; exact RowsV.nil _ _, fun _ h => h.elim⟩⟩
theorem zej : ∀ i : Nat, i < 40 → (i : Int) / 5 / 2 + 1 = gt zc1 (i / 5) ∧ ((i : Int) / 5 + 1) / 2 + 1 = gt zcm (i / 5) ∧ wrap64 (2 ^ (i / 5)) = gt zdk (i / 5) := by decide +kernel
theorem zei : ∀ i : Nat, i < 40 → zj9 (((i : Int) % 5).toNat) (1 + (i : Int) / 5 / 4) ((i : Int) / 5) = zbe (i % 5) (if 3 < i / 5 then 2 else 1) ((i / 5 : Nat) : Int) := by decide +kernel
theorem znl : zj9 3 1 0 = noCost.set 3 1 ∧ zj9 4 1 0 = noCost.set 4 1 := by decide +kernel
set_option maxRecDepth 100000 in
set_option maxHeartbeats 2000000 in
theorem z62 (w : World) (i : Nat) (hi : i < 40) (hm : i % 5 = 0) : Calls Tryz.prog 152 #[.int .i64 (i : Int)] w fun r w' => ∃ c : CdV, r = .returned (.agg c.arr) ∧ CardIs w' w.heap.size c (zbq (i % 5) (i / 5)) ∧ Grow w w' := by
 have hF : zbq (i % 5) (i / 5) = ⟨1, 0, false, zbe (i % 5) (if 3 < i / 5 then 2 else 1) ((i / 5 : Nat) : Int), gt zc1 (i / 5), gt zcm (i / 5), gt zdk (i / 5), [zf3 ⟨2, ((i / 5 : Nat) : Int) + 1, 0, 0, []⟩]⟩ := by unfold zbq; rw [hm]; simp
 obtain ⟨n1, n2, n3⟩ := zej i hi
 have hco := zei i hi
 have hmi : (i : Int) % 5 = 0 := by omega
 have m0 : ((i : Int) % 5 == 0) = true := by rw [hmi]; rfl
 have m1 : ((i : Int) % 5 == 1) = false := by rw [hmi]; rfl
 have m2 : ((i : Int) % 5 == 2) = false := by rw [hmi]; rfl
 have m3 : ((i : Int) % 5 == 3) = false := by rw [hmi]; rfl
 have HF := Lib.hid hF
 have HP := Lib.hid n1
 have HT := Lib.hid n2
 have HW := Lib.hid n3
 have HCo := Lib.hid hco
 have HK : Hid ((i : Int) / 5 + 1 = ((i / 5 : Nat) : Int) + 1) := by rw [Hid]; omega
 have HM := Lib.hid hmi
 clear hF n1 n2 n3 hco hm hmi
 go_enter Tryz.func152, Tryz.ntmps152
 go_wp2_with (first | (go_at_call 199; refine (zbl _ _ _ _ _).mono ?_; rintro e' w' ⟨rfl, nx, rfl⟩) | (go_at_call 198; refine (zbo _ _ _).mono ?_; rintro e' w' ⟨rfl, nx, rfl⟩) | (go_at_call 153; refine (za4 _ _ _ _ (by omega) (by omega)).mono ?_; rintro e' w' ⟨d0, d1, d2, d3, d4, d5, rfl, hc, nx, rfl⟩; first | (have HC1 := Lib.hid (hc.trans HCo.out); clear hc) | (have HC2 := Lib.hid hc; clear hc)) | (go_at_call 200; refine (za0 _ _ _ _ _ _ _ _ _ _).mono ?_; rintro e' w' ⟨rfl, nx, rfl⟩))
 refine bodyPost_ret (zbm rfl _ _ _ rfl ?_) rfl ?_
 · go_simp
 · rw [HF.out]
   refine ⟨_, (by go_simp; rfl), ⟨rfl, HM.out, rfl, HC1.out, by show _ = gt zc1 (i / 5); rw [← HP.out], by show _ = gt zcm (i / 5); rw [← HT.out], HW.out, ?_⟩, grI⟩
   exact ⟨[_], RowsV.one (x := AbV.arr _) (by go_simp) (by go_simp; rfl) (by go_simp), .inr (by first | (go_simp; done) | (go_simp; omega) | (simp only [Sl.b]; go_simp; omega)), .cons (AbIs.nums _ _ (by rfl) (by rfl) (by rfl) (by rfl) (by rfl) HK.out (by rfl) (by rfl) (by rfl)) .nil⟩
set_option maxRecDepth 100000 in
set_option maxHeartbeats 2000000 in
theorem z1c (w : World) (i : Nat) (hi : i < 40) (hm : i % 5 = 1) (h2 : i / 5 % 2 = 0) : Calls Tryz.prog 152 #[.int .i64 (i : Int)] w fun r w' => ∃ c : CdV, r = .returned (.agg c.arr) ∧ CardIs w' w.heap.size c (zbq (i % 5) (i / 5)) ∧ Grow w w' := by
 have hF : zbq (i % 5) (i / 5) = ⟨1, 1, false, zbe (i % 5) (if 3 < i / 5 then 2 else 1) ((i / 5 : Nat) : Int), gt zc1 (i / 5), gt zcm (i / 5), gt zdk (i / 5), []⟩ := by unfold zbq; rw [hm]; simp [h2]
 obtain ⟨n1, n2, n3⟩ := zej i hi
 have hco := zei i hi
 have hmi : (i : Int) % 5 = 1 := by omega
 have m0 : ((i : Int) % 5 == 0) = false := by rw [hmi]; rfl
 have m1 : ((i : Int) % 5 == 1) = true := by rw [hmi]; rfl
 have m2 : ((i : Int) % 5 == 2) = false := by rw [hmi]; rfl
 have m3 : ((i : Int) % 5 == 3) = false := by rw [hmi]; rfl
 have k2 : (i : Int) / 5 % 2 = 0 := by omega
 have k3 : ((i : Int) / 5 % 2 == 1) = false := by rw [k2]; rfl
 have HF := Lib.hid hF
 have HP := Lib.hid n1
 have HT := Lib.hid n2
 have HW := Lib.hid n3
 have HCo := Lib.hid hco
 have HK : Hid ((i : Int) / 5 + 1 = ((i / 5 : Nat) : Int) + 1) := by rw [Hid]; omega
 have HM := Lib.hid hmi
 clear hF n1 n2 n3 hco hm hmi
 go_enter Tryz.func152, Tryz.ntmps152
 go_wp2_with (first | (go_at_call 199; refine (zbl _ _ _ _ _).mono ?_; rintro e' w' ⟨rfl, nx, rfl⟩) | (go_at_call 198; refine (zbo _ _ _).mono ?_; rintro e' w' ⟨rfl, nx, rfl⟩) | (go_at_call 153; refine (za4 _ _ _ _ (by omega) (by omega)).mono ?_; rintro e' w' ⟨d0, d1, d2, d3, d4, d5, rfl, hc, nx, rfl⟩; first | (have HC1 := Lib.hid (hc.trans HCo.out); clear hc) | (have HC2 := Lib.hid hc; clear hc)) | (go_at_call 200; refine (za0 _ _ _ _ _ _ _ _ _ _).mono ?_; rintro e' w' ⟨rfl, nx, rfl⟩))
 refine bodyPost_ret (zbm rfl _ _ _ rfl ?_) rfl ?_
 · go_simp
 · rw [HF.out]
   refine ⟨_, (by go_simp; rfl), ⟨rfl, HM.out, rfl, HC1.out, by show _ = gt zc1 (i / 5); rw [← HP.out], by show _ = gt zcm (i / 5); rw [← HT.out], HW.out, ?_⟩, grI⟩
   exact ⟨[], RowsV.nil _ _, .inl rfl, .nil⟩
set_option maxRecDepth 100000 in
set_option maxHeartbeats 2000000 in
theorem z1d (w : World) (i : Nat) (hi : i < 40) (hm : i % 5 = 1) (h2 : i / 5 % 2 = 1) : Calls Tryz.prog 152 #[.int .i64 (i : Int)] w fun r w' => ∃ c : CdV, r = .returned (.agg c.arr) ∧ CardIs w' w.heap.size c (zbq (i % 5) (i / 5)) ∧ Grow w w' := by
 have hF : zbq (i % 5) (i / 5) = ⟨1, 1, false, zbe (i % 5) (if 3 < i / 5 then 2 else 1) ((i / 5 : Nat) : Int), gt zc1 (i / 5), gt zcm (i / 5), gt zdk (i / 5), [zf3 ⟨4, 1, 0, 0, []⟩]⟩ := by unfold zbq; rw [hm]; simp [h2]
 obtain ⟨n1, n2, n3⟩ := zej i hi
 have hco := zei i hi
 have hmi : (i : Int) % 5 = 1 := by omega
 have m0 : ((i : Int) % 5 == 0) = false := by rw [hmi]; rfl
 have m1 : ((i : Int) % 5 == 1) = true := by rw [hmi]; rfl
 have m2 : ((i : Int) % 5 == 2) = false := by rw [hmi]; rfl
 have m3 : ((i : Int) % 5 == 3) = false := by rw [hmi]; rfl
 have k2 : (i : Int) / 5 % 2 = 1 := by omega
 have k3 : ((i : Int) / 5 % 2 == 1) = true := by rw [k2]; rfl
 have HF := Lib.hid hF
 have HP := Lib.hid n1
 have HT := Lib.hid n2
 have HW := Lib.hid n3
 have HCo := Lib.hid hco
 have HK : Hid ((i : Int) / 5 + 1 = ((i / 5 : Nat) : Int) + 1) := by rw [Hid]; omega
 have HM := Lib.hid hmi
 clear hF n1 n2 n3 hco hm hmi
 go_enter Tryz.func152, Tryz.ntmps152
 go_wp2_with (first | (go_at_call 199; refine (zbl _ _ _ _ _).mono ?_; rintro e' w' ⟨rfl, nx, rfl⟩) | (go_at_call 198; refine (zbo _ _ _).mono ?_; rintro e' w' ⟨rfl, nx, rfl⟩) | (go_at_call 153; refine (za4 _ _ _ _ (by omega) (by omega)).mono ?_; rintro e' w' ⟨d0, d1, d2, d3, d4, d5, rfl, hc, nx, rfl⟩; first | (have HC1 := Lib.hid (hc.trans HCo.out); clear hc) | (have HC2 := Lib.hid hc; clear hc)) | (go_at_call 200; refine (za0 _ _ _ _ _ _ _ _ _ _).mono ?_; rintro e' w' ⟨rfl, nx, rfl⟩))
 refine bodyPost_ret (zbm rfl _ _ _ rfl ?_) rfl ?_
 · go_simp
 · rw [HF.out]
   refine ⟨_, (by go_simp; rfl), ⟨rfl, HM.out, rfl, HC1.out, by show _ = gt zc1 (i / 5); rw [← HP.out], by show _ = gt zcm (i / 5); rw [← HT.out], HW.out, ?_⟩, grI⟩
   exact ⟨[_], RowsV.one (x := AbV.arr _) (by go_simp) (by go_simp; rfl) (by go_simp), .inr (by first | (go_simp; done) | (go_simp; omega) | (simp only [Sl.b]; go_simp; omega)), .cons ⟨rfl, rfl, rfl, rfl, EfIs.plain _ _ _ _ _ _⟩ .nil⟩
set_option maxRecDepth 100000 in
set_option maxHeartbeats 2000000 in
theorem z63 (w : World) (i : Nat) (hi : i < 40) (hm : i % 5 = 2) : Calls Tryz.prog 152 #[.int .i64 (i : Int)] w fun r w' => ∃ c : CdV, r = .returned (.agg c.arr) ∧ CardIs w' w.heap.size c (zbq (i % 5) (i / 5)) ∧ Grow w w' := by
 have hF : zbq (i % 5) (i / 5) = ⟨1, 2, false, zbe (i % 5) (if 3 < i / 5 then 2 else 1) ((i / 5 : Nat) : Int), gt zc1 (i / 5), gt zcm (i / 5), gt zdk (i / 5), [⟨3, noCost, false, 0, ⟨3, gt zc1 (i / 5), 0, 1, []⟩⟩]⟩ := by unfold zbq; rw [hm]; simp
 obtain ⟨n1, n2, n3⟩ := zej i hi
 have hco := zei i hi
 have hmi : (i : Int) % 5 = 2 := by omega
 have m0 : ((i : Int) % 5 == 0) = false := by rw [hmi]; rfl
 have m1 : ((i : Int) % 5 == 1) = false := by rw [hmi]; rfl
 have m2 : ((i : Int) % 5 == 2) = true := by rw [hmi]; rfl
 have m3 : ((i : Int) % 5 == 3) = false := by rw [hmi]; rfl
 have HF := Lib.hid hF
 have HP := Lib.hid n1
 have HT := Lib.hid n2
 have HW := Lib.hid n3
 have HCo := Lib.hid hco
 have HK : Hid ((i : Int) / 5 + 1 = ((i / 5 : Nat) : Int) + 1) := by rw [Hid]; omega
 have HM := Lib.hid hmi
 clear hF n1 n2 n3 hco hm hmi
 go_enter Tryz.func152, Tryz.ntmps152
 go_wp2_with (first | (go_at_call 199; refine (zbl _ _ _ _ _).mono ?_; rintro e' w' ⟨rfl, nx, rfl⟩) | (go_at_call 198; refine (zbo _ _ _).mono ?_; rintro e' w' ⟨rfl, nx, rfl⟩) | (go_at_call 153; refine (za4 _ _ _ _ (by omega) (by omega)).mono ?_; rintro e' w' ⟨d0, d1, d2, d3, d4, d5, rfl, hc, nx, rfl⟩; first | (have HC1 := Lib.hid (hc.trans HCo.out); clear hc) | (have HC2 := Lib.hid hc; clear hc)) | (go_at_call 200; refine (za0 _ _ _ _ _ _ _ _ _ _).mono ?_; rintro e' w' ⟨rfl, nx, rfl⟩))
 refine bodyPost_ret (zbm rfl _ _ _ rfl ?_) rfl ?_
 · go_simp
 · rw [HF.out]
   refine ⟨_, (by go_simp; rfl), ⟨rfl, HM.out, rfl, HC1.out, by show _ = gt zc1 (i / 5); rw [← HP.out], by show _ = gt zcm (i / 5); rw [← HT.out], HW.out, ?_⟩, grI⟩
   exact ⟨[_], RowsV.one (x := AbV.arr _) (by go_simp) (by go_simp; rfl) (by go_simp), .inr (by first | (go_simp; done) | (go_simp; omega) | (simp only [Sl.b]; go_simp; omega)), .cons (AbIs.nums _ _ (by rfl) (by rfl) (by rfl) (by rfl) (by rfl) HP.out (by rfl) (by rfl) (by rfl)) .nil⟩
set_option maxRecDepth 100000 in
set_option maxHeartbeats 2000000 in
theorem z64 (w : World) (i : Nat) (hi : i < 40) (hm : i % 5 = 3) : Calls Tryz.prog 152 #[.int .i64 (i : Int)] w fun r w' => ∃ c : CdV, r = .returned (.agg c.arr) ∧ CardIs w' w.heap.size c (zbq (i % 5) (i / 5)) ∧ Grow w w' := by
 have hF : zbq (i % 5) (i / 5) = ⟨1, 3, false, zbe (i % 5) (if 3 < i / 5 then 2 else 1) ((i / 5 : Nat) : Int), gt zc1 (i / 5) + 1, gt zcm (i / 5), gt zdk (i / 5), [⟨1, noCost.set 3 1, true, 3, ⟨1, 1, 0, 2, []⟩⟩]⟩ := by unfold zbq; rw [hm]; simp
 obtain ⟨n1, n2, n3⟩ := zej i hi
 have hco := zei i hi
 have hmi : (i : Int) % 5 = 3 := by omega
 have m0 : ((i : Int) % 5 == 0) = false := by rw [hmi]; rfl
 have m1 : ((i : Int) % 5 == 1) = false := by rw [hmi]; rfl
 have m2 : ((i : Int) % 5 == 2) = false := by rw [hmi]; rfl
 have m3 : ((i : Int) % 5 == 3) = true := by rw [hmi]; rfl
 have HF := Lib.hid hF
 have HP := Lib.hid n1
 have HT := Lib.hid n2
 have HW := Lib.hid n3
 have HCo := Lib.hid hco
 have HK : Hid ((i : Int) / 5 + 1 = ((i / 5 : Nat) : Int) + 1) := by rw [Hid]; omega
 have HM := Lib.hid hmi
 clear hF n1 n2 n3 hco hm hmi
 go_enter Tryz.func152, Tryz.ntmps152
 go_wp2_with (first | (go_at_call 199; refine (zbl _ _ _ _ _).mono ?_; rintro e' w' ⟨rfl, nx, rfl⟩) | (go_at_call 198; refine (zbo _ _ _).mono ?_; rintro e' w' ⟨rfl, nx, rfl⟩) | (go_at_call 153; refine (za4 _ _ _ _ (by omega) (by omega)).mono ?_; rintro e' w' ⟨d0, d1, d2, d3, d4, d5, rfl, hc, nx, rfl⟩; first | (have HC1 := Lib.hid (hc.trans HCo.out); clear hc) | (have HC2 := Lib.hid hc; clear hc)) | (go_at_call 200; refine (za0 _ _ _ _ _ _ _ _ _ _).mono ?_; rintro e' w' ⟨rfl, nx, rfl⟩))
 refine bodyPost_ret (zbm rfl _ _ _ rfl ?_) rfl ?_
 · go_simp
 · rw [HF.out]
   refine ⟨_, (by go_simp; rfl), ⟨rfl, HM.out, rfl, HC1.out, by show _ = gt zc1 (i / 5) + 1; rw [← HP.out], by show _ = gt zcm (i / 5); rw [← HT.out], HW.out, ?_⟩, grI⟩
   exact ⟨[_], RowsV.one (x := AbV.arr _) (by go_simp) (by go_simp; rfl) (by go_simp), .inr (by first | (go_simp; done) | (go_simp; omega) | (simp only [Sl.b]; go_simp; omega)), .cons ⟨rfl, ((HC2.out.trans (congrArg (fun z : Int => zj9 z.toNat 1 0) HM.out)).trans znl.1), rfl, rfl, EfIs.plain _ _ _ _ _ _⟩ .nil⟩
set_option maxRecDepth 100000 in
set_option maxHeartbeats 2000000 in
theorem z65 (w : World) (i : Nat) (hi : i < 40) (hm : i % 5 = 4) : Calls Tryz.prog 152 #[.int .i64 (i : Int)] w fun r w' => ∃ c : CdV, r = .returned (.agg c.arr) ∧ CardIs w' w.heap.size c (zbq (i % 5) (i / 5)) ∧ Grow w w' := by
 have hF : zbq (i % 5) (i / 5) = ⟨1, 4, false, zbe (i % 5) (if 3 < i / 5 then 2 else 1) ((i / 5 : Nat) : Int), gt zc1 (i / 5), gt zcm (i / 5) + 1, gt zdk (i / 5), [⟨1, noCost.set 4 1, false, 0, ⟨10, 1, 1, 3, []⟩⟩]⟩ := by unfold zbq; rw [hm]; simp
 obtain ⟨n1, n2, n3⟩ := zej i hi
 have hco := zei i hi
 have hmi : (i : Int) % 5 = 4 := by omega
 have m0 : ((i : Int) % 5 == 0) = false := by rw [hmi]; rfl
 have m1 : ((i : Int) % 5 == 1) = false := by rw [hmi]; rfl
 have m2 : ((i : Int) % 5 == 2) = false := by rw [hmi]; rfl
 have m3 : ((i : Int) % 5 == 3) = false := by rw [hmi]; rfl
 have HF := Lib.hid hF
 have HP := Lib.hid n1
 have HT := Lib.hid n2
 have HW := Lib.hid n3
 have HCo := Lib.hid hco
 have HK : Hid ((i : Int) / 5 + 1 = ((i / 5 : Nat) : Int) + 1) := by rw [Hid]; omega
 have HM := Lib.hid hmi
 clear hF n1 n2 n3 hco hm hmi
 go_enter Tryz.func152, Tryz.ntmps152
 go_wp2_with (first | (go_at_call 199; refine (zbl _ _ _ _ _).mono ?_; rintro e' w' ⟨rfl, nx, rfl⟩) | (go_at_call 198; refine (zbo _ _ _).mono ?_; rintro e' w' ⟨rfl, nx, rfl⟩) | (go_at_call 153; refine (za4 _ _ _ _ (by omega) (by omega)).mono ?_; rintro e' w' ⟨d0, d1, d2, d3, d4, d5, rfl, hc, nx, rfl⟩; first | (have HC1 := Lib.hid (hc.trans HCo.out); clear hc) | (have HC2 := Lib.hid hc; clear hc)) | (go_at_call 200; refine (za0 _ _ _ _ _ _ _ _ _ _).mono ?_; rintro e' w' ⟨rfl, nx, rfl⟩))
 refine bodyPost_ret (zbm rfl _ _ _ rfl ?_) rfl ?_
 · go_simp
 · rw [HF.out]
   refine ⟨_, (by go_simp; rfl), ⟨rfl, HM.out, rfl, HC1.out, by show _ = gt zc1 (i / 5); rw [← HP.out], by show _ = gt zcm (i / 5) + 1; rw [← HT.out], HW.out, ?_⟩, grI⟩
   exact ⟨[_], RowsV.one (x := AbV.arr _) (by go_simp) (by go_simp; rfl) (by go_simp), .inr (by first | (go_simp; done) | (go_simp; omega) | (simp only [Sl.b]; go_simp; omega)), .cons ⟨rfl, ((HC2.out.trans (congrArg (fun z : Int => zj9 z.toNat 1 0) HM.out)).trans znl.2), rfl, rfl, EfIs.plain _ _ _ _ _ _⟩ .nil⟩
theorem zwm (w : World) (i : Nat) (hi : i < 40) : Calls Tryz.prog 152 #[.int .i64 (i : Int)] w fun r w' => ∃ c : CdV, r = .returned (.agg c.arr) ∧ CardIs w' w.heap.size c (zbq (i % 5) (i / 5)) ∧ Grow w w' := by
 have : i % 5 = 0 ∨ i % 5 = 1 ∨ i % 5 = 2 ∨ i % 5 = 3 ∨ i % 5 = 4 := by omega
 rcases this with h | h | h | h | h
 · exact z62 w i hi h
 · rcases Nat.mod_two_eq_zero_or_one (i / 5) with h2 | h2
   · exact z1c w i hi h h2
   · exact z1d w i hi h h2
 · exact z63 w i hi h
 · exact z64 w i hi h
 · exact z65 w i hi h
end Go.Proofs.YtgobdndjemicjaaGreatDoor
