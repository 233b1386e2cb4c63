/- The walks of exec's repeat, with what it repeats. -/
import Derived.Test.YthfalocligkamaaGreatDoorMEx5
namespace Go.Proofs.YthfalocligkamaaGreatDoor
open Go Go.RowKit Go.Shelf
theorem zit {f : Em → Em} {E : Em} {k : Nat} (h : (reps f E k).err ≠ 0) : ∀ n, k ≤ n → reps f E n = reps f E k := by
 intro n hn
 induction n with
 | zero => obtain rfl : k = 0 := by omega
           rfl
 | succ n ih =>
   by_cases hk : k = n + 1
   · rw [hk]
   · have := ih (by omega)
     rw [reps, this, if_pos h]
theorem zlt : Kc True (fun _ => True) (fun _ => True) := by refine ⟨?_, ?_, ?_, ?_⟩ <;> intros <;> trivial
theorem Oq.jv {d : List Int} {E : Em} (h : Oq d E) : Jv d (fun _ => True) E := ⟨h, Or.inr trivial⟩
theorem Oq.reps {d : List Int} {f : Em → Em} (hf : ∀ {E : Em}, Oq d E → Oq d (f E)) {E : Em} (h : Oq d E) (k : Nat) : Oq d (reps f E k) := (Jv.reps (P := fun _ => True) (fun h => ⟨hf h.1, Or.inr trivial⟩) h.jv k).1
set_option maxRecDepth 100000 in
set_option maxHeartbeats 4000000 in
theorem zy4 (w : World) (b : Nat) (own : Nat → Prop) (E : Em) (R : Emt w b own E) {d : List Int} (hQ : Oq d E) (hd : d.length ≤ 1048576) (GL : GlobE w own) (x : Ctx) (p : Nat) (_hp : p < 2) (q0 q2 : Nat) (B0 : Boxd w q0 (doR b x)) (B2 : Boxd w q2 #[.int .i64 (p : Int)]) :
 Calls Tryz.prog 73 #[.pointer (some ⟨q0, 0, none⟩), .pointer (some ⟨q2, 0, none⟩)] w fun r w' => r = .returned (.tuple #[]) ∧ EPost w b own (E.draw p) w' := by
 have HD := Lib.hid (fun W (g : Grow w W) => zw6 W b own E (R.grow g) (hQ.mo hd) (GL.grow g) p)
 obtain ⟨b1, b2, b3⟩ := B0
 obtain ⟨c1, c2, c3⟩ := B2
 clear R hQ GL
 generalize E.draw p = E2 at *
 go_enter Tryz.func73, Tryz.ntmps73
 go_wp2_with fail
 refine (HD.out _ grI).mono ?_
 rintro e' w2 ⟨rfl, hE⟩
 have HE := Lib.hid hE
 clear hE
 go_wp2_with fail
 go_end0
 exact ⟨rfl, EPost.low grI HE.out⟩
set_option maxRecDepth 100000 in
set_option maxHeartbeats 4000000 in
theorem zzb (w : World) (b : Nat) (own : Nat → Prop) (E : Em) (R : Emt w b own E) {d : List Int} (hQ : Oq d E) (hd : d.length ≤ 1048576) (GL : GlobE w own) (x : Ctx) (N : Int) (hN : N ≤ 1000000) (p : Nat) (hp : p < 2) (q0 q2 : Nat) (B0 : Boxd w q0 (doR b x)) (B2 : Boxd w q2 #[.int .i64 (p : Int)]) (h0 : ¬ own q0) (h2 : ¬ own q2) :
 Calls Tryz.prog 72 #[.agg (doR b x), .int .i64 N, .func (.func 73) #[] #[.pointer (some ⟨q0, 0, none⟩), .pointer (some ⟨q2, 0, none⟩)]] w fun r w' => r = .returned (.tuple #[]) ∧ EPost w b own (reps (fun E : Em => E.draw p) E N.toNat) w' := by
 have HOq : Hid (∀ k, Oq d (reps (fun E : Em => E.draw p) E k)) := fun k => Oq.reps (fun HQ => HQ.draw _) hQ k
 have HSc : Hid (∀ k, reps (fun E : Em => E.draw p) E (k + 1) = if (reps (fun E : Em => E.draw p) E k).err ≠ 0 then reps (fun E : Em => E.draw p) E k else (fun E : Em => E.draw p) (reps (fun E : Em => E.draw p) E k)) := fun _ => rfl
 have HBad : Hid (∀ k, (reps (fun E : Em => E.draw p) E k).err ≠ 0 → ∀ n, k ≤ n → reps (fun E : Em => E.draw p) E n = reps (fun E : Em => E.draw p) E k) := fun k h => zit h
 have HCl : Hid (∀ (wx : World), Grow w wx → ∀ (wr : World) (own2 : Nat → Prop) (k : Nat), Turn wx b own (reps (fun E : Em => E.draw p) E k) wr own2 → ∀ W, Grow wr W → Calls Tryz.prog 73 #[.pointer (some ⟨q0, 0, none⟩), .pointer (some ⟨q2, 0, none⟩)] W fun r w' => r = .returned (.tuple #[]) ∧ EPost W b own2 ((fun E : Em => E.draw p) (reps (fun E : Em => E.draw p) E k)) w') := fun wx gx wr own2 k T W g =>
  zy4 W b own2 _ (T.em.grow g) (HOq k) hd ((T.glob (GL.grow gx)).grow g) x p hp q0 q2 (((B0.grow gx).kept T.kept h0).grow g) (((B2.grow gx).kept T.kept h2).grow g)
 have HR := Lib.hid R
 have HQ0 := Lib.hid hQ
 clear R hQ GL B0 B2 h0 h2
 have h00 : Hid (reps (fun E : Em => E.draw p) E 0 = E) := rfl
 generalize (fun E : Em => E.draw p) = F at *
 go_enter Tryz.func72, Tryz.ntmps72
 go_wp2_with fail
 have hg0 : Grow w (w.alloc (.cells (doR b x) 70)) := grI
 have hT0 : Turn (w.alloc (.cells (doR b x) 70)) b own (reps F E 0) (w.alloc (.cells (doR b x) 70)) own := by rw [h00.out]; exact Turn.first (HR.out.grow hg0)
 have HB := Lib.hid (Boxd.new w (doR b x) 70)
 have HT0 := Lib.hid hT0
 have HG0 := Lib.hid hg0
 have HWX := Lib.hid (show ¬ own w.heap.size from fun h => by have := HR.out.lt _ h; omega)
 clear hT0 hg0
 generalize w.alloc (.cells (doR b x) 70) = w1 at *
 go_loopw [6] (fun i wr => ∃ (k : Nat) (own2 : Nat → Prop), (k : Int) ≤ max N 0 ∧ i = .int .i64 k ∧ Turn w1 b own (reps F E k) wr own2) (fun i _ => N.toNat - (intOf i).toNat)
 case atStart => exact ⟨0, own, by omega, rfl, HT0.out⟩
 case round =>
  obtain ⟨k, own2, hk, rfl, hT⟩ := hrel
  have HT := Lib.hid hT
  clear hT
  obtain ⟨hb1, hb2, hb3⟩ := HB.out.kept HT.out.kept HWX.out
  by_cases hlt : (k : Int) < N
  · have hkm : (k : Int) < 1000000 := by omega
    by_cases he : (reps F E k).err = 0
    · have HEr := Lib.hid (fun W (g : Grow wr W) => by have := zas W b own2 _ (HT.out.em.grow g); rw [he, za4] at this; exact this)
      have HP := Lib.hid (fun W (g : Grow wr W) => HCl.out w1 HG0.out wr own2 k HT.out W g)
      have hs := HSc.out k
      rw [if_neg (by rw [he]; simp)] at hs
      rw [← hs] at HP
      clear he hs
      go_wp2_with (go_at_call 17; refine (HEr.out _ grI).mono ?_; rintro e' w' ⟨rfl, nx, rfl⟩)
      refine (HP.out _ grI).mono ?_
      rintro e' w4 ⟨rfl, hE⟩
      obtain ⟨own4, T4⟩ := HT.out.step grI hE
      have HT4 := Lib.hid T4
      clear hE T4 hb1 hb2 hb3
      go_wp2_with fail
      go_roundw
      case rel => exact ⟨k + 1, own4, by omega, by go_num, HT4.out⟩
      case measure => simp [intOf]; omega
    · have HEr := Lib.hid (fun W (g : Grow wr W) => by have := zas W b own2 _ (HT.out.em.grow g); rw [zap he] at this; exact this)
      have HB2 := Lib.hid (HBad.out k he N.toNat (by omega))
      clear he
      go_wp2_with (go_at_call 17; refine (HEr.out _ grI).mono ?_; rintro e' w' ⟨rfl, nx, rfl⟩)
      go_end0
      exact ⟨rfl, by rw [HB2.out]; exact (HT.out.post HG0.out).more grI⟩
  · have hke : k = N.toNat := by omega
    subst hke
    have hlt' : N ≤ (N.toNat : Int) := by omega
    go_wp2_with fail
    go_end0
    exact ⟨rfl, (HT.out.post HG0.out).more grI⟩
set_option maxRecDepth 100000 in
set_option maxHeartbeats 4000000 in
theorem zy5 (w : World) (b : Nat) (own : Nat → Prop) (E : Em) (R : Emt w b own E) {d : List Int} (hQ : Oq d E) (hd : d.length ≤ 1048576) (GL : GlobE w own) (x : Ctx) (p : Nat) (hp : p < 2) (q0 q2 : Nat) (B0 : Boxd w q0 (doR b x)) (B2 : Boxd w q2 #[.int .i64 (p : Int)]) :
 Calls Tryz.prog 75 #[.pointer (some ⟨q0, 0, none⟩), .pointer (some ⟨q2, 0, none⟩)] w fun r w' => r = .returned (.tuple #[]) ∧ EPost w b own (E.mill p) w' := by
 have HD := Lib.hid (fun W (g : Grow w W) => zza W b own E (R.grow g) hQ hd (GL.grow g) x p (by omega))
 obtain ⟨b1, b2, b3⟩ := B0
 obtain ⟨c1, c2, c3⟩ := B2
 clear R hQ GL
 generalize E.mill p = E2 at *
 go_enter Tryz.func75, Tryz.ntmps75
 go_wp2_with fail
 refine (HD.out _ grI).mono ?_
 rintro e' w2 ⟨rfl, hE⟩
 have HE := Lib.hid hE
 clear hE
 go_wp2_with fail
 go_end0
 exact ⟨rfl, EPost.low grI HE.out⟩
set_option maxRecDepth 100000 in
set_option maxHeartbeats 4000000 in
theorem zzc (w : World) (b : Nat) (own : Nat → Prop) (E : Em) (R : Emt w b own E) {d : List Int} (hQ : Oq d E) (hd : d.length ≤ 1048576) (GL : GlobE w own) (x : Ctx) (N : Int) (hN : N ≤ 1000000) (p : Nat) (hp : p < 2) (q0 q2 : Nat) (B0 : Boxd w q0 (doR b x)) (B2 : Boxd w q2 #[.int .i64 (p : Int)]) (h0 : ¬ own q0) (h2 : ¬ own q2) :
 Calls Tryz.prog 72 #[.agg (doR b x), .int .i64 N, .func (.func 75) #[] #[.pointer (some ⟨q0, 0, none⟩), .pointer (some ⟨q2, 0, none⟩)]] w fun r w' => r = .returned (.tuple #[]) ∧ EPost w b own (reps (fun E : Em => E.mill p) E N.toNat) w' := by
 have HOq : Hid (∀ k, Oq d (reps (fun E : Em => E.mill p) E k)) := fun k => Oq.reps (fun HQ => (HQ.jv.mill zlt p).1) hQ k
 have HSc : Hid (∀ k, reps (fun E : Em => E.mill p) E (k + 1) = if (reps (fun E : Em => E.mill p) E k).err ≠ 0 then reps (fun E : Em => E.mill p) E k else (fun E : Em => E.mill p) (reps (fun E : Em => E.mill p) E k)) := fun _ => rfl
 have HBad : Hid (∀ k, (reps (fun E : Em => E.mill p) E k).err ≠ 0 → ∀ n, k ≤ n → reps (fun E : Em => E.mill p) E n = reps (fun E : Em => E.mill p) E k) := fun k h => zit h
 have HCl : Hid (∀ (wx : World), Grow w wx → ∀ (wr : World) (own2 : Nat → Prop) (k : Nat), Turn wx b own (reps (fun E : Em => E.mill p) E k) wr own2 → ∀ W, Grow wr W → Calls Tryz.prog 75 #[.pointer (some ⟨q0, 0, none⟩), .pointer (some ⟨q2, 0, none⟩)] W fun r w' => r = .returned (.tuple #[]) ∧ EPost W b own2 ((fun E : Em => E.mill p) (reps (fun E : Em => E.mill p) E k)) w') := fun wx gx wr own2 k T W g =>
  zy5 W b own2 _ (T.em.grow g) (HOq k) hd ((T.glob (GL.grow gx)).grow g) x p hp q0 q2 (((B0.grow gx).kept T.kept h0).grow g) (((B2.grow gx).kept T.kept h2).grow g)
 have HR := Lib.hid R
 have HQ0 := Lib.hid hQ
 clear R hQ GL B0 B2 h0 h2
 have h00 : Hid (reps (fun E : Em => E.mill p) E 0 = E) := rfl
 generalize (fun E : Em => E.mill p) = F at *
 go_enter Tryz.func72, Tryz.ntmps72
 go_wp2_with fail
 have hg0 : Grow w (w.alloc (.cells (doR b x) 70)) := grI
 have hT0 : Turn (w.alloc (.cells (doR b x) 70)) b own (reps F E 0) (w.alloc (.cells (doR b x) 70)) own := by rw [h00.out]; exact Turn.first (HR.out.grow hg0)
 have HB := Lib.hid (Boxd.new w (doR b x) 70)
 have HT0 := Lib.hid hT0
 have HG0 := Lib.hid hg0
 have HWX := Lib.hid (show ¬ own w.heap.size from fun h => by have := HR.out.lt _ h; omega)
 clear hT0 hg0
 generalize w.alloc (.cells (doR b x) 70) = w1 at *
 go_loopw [6] (fun i wr => ∃ (k : Nat) (own2 : Nat → Prop), (k : Int) ≤ max N 0 ∧ i = .int .i64 k ∧ Turn w1 b own (reps F E k) wr own2) (fun i _ => N.toNat - (intOf i).toNat)
 case atStart => exact ⟨0, own, by omega, rfl, HT0.out⟩
 case round =>
  obtain ⟨k, own2, hk, rfl, hT⟩ := hrel
  have HT := Lib.hid hT
  clear hT
  obtain ⟨hb1, hb2, hb3⟩ := HB.out.kept HT.out.kept HWX.out
  by_cases hlt : (k : Int) < N
  · have hkm : (k : Int) < 1000000 := by omega
    by_cases he : (reps F E k).err = 0
    · have HEr := Lib.hid (fun W (g : Grow wr W) => by have := zas W b own2 _ (HT.out.em.grow g); rw [he, za4] at this; exact this)
      have HP := Lib.hid (fun W (g : Grow wr W) => HCl.out w1 HG0.out wr own2 k HT.out W g)
      have hs := HSc.out k
      rw [if_neg (by rw [he]; simp)] at hs
      rw [← hs] at HP
      clear he hs
      go_wp2_with (go_at_call 17; refine (HEr.out _ grI).mono ?_; rintro e' w' ⟨rfl, nx, rfl⟩)
      refine (HP.out _ grI).mono ?_
      rintro e' w4 ⟨rfl, hE⟩
      obtain ⟨own4, T4⟩ := HT.out.step grI hE
      have HT4 := Lib.hid T4
      clear hE T4 hb1 hb2 hb3
      go_wp2_with fail
      go_roundw
      case rel => exact ⟨k + 1, own4, by omega, by go_num, HT4.out⟩
      case measure => simp [intOf]; omega
    · have HEr := Lib.hid (fun W (g : Grow wr W) => by have := zas W b own2 _ (HT.out.em.grow g); rw [zap he] at this; exact this)
      have HB2 := Lib.hid (HBad.out k he N.toNat (by omega))
      clear he
      go_wp2_with (go_at_call 17; refine (HEr.out _ grI).mono ?_; rintro e' w' ⟨rfl, nx, rfl⟩)
      go_end0
      exact ⟨rfl, by rw [HB2.out]; exact (HT.out.post HG0.out).more grI⟩
  · have hke : k = N.toNat := by omega
    subst hke
    have hlt' : N ≤ (N.toNat : Int) := by omega
    go_wp2_with fail
    go_end0
    exact ⟨rfl, (HT.out.post HG0.out).more grI⟩
set_option maxRecDepth 100000 in
set_option maxHeartbeats 4000000 in
theorem zy6 (w : World) (b : Nat) (own : Nat → Prop) (E : Em) (R : Emt w b own E) {d : List Int} (hQ : Oq d E) (hd : d.length ≤ 1048576) (GL : GlobE w own) (x : Ctx) (p : Nat) (_hp : p < 2) (q0 q2 : Nat) (B0 : Boxd w q0 (doR b x)) (B2 : Boxd w q2 #[.int .i64 (p : Int)]) (op n m who : Int) (a : Option Addr) (kk c : Nat) (q1 : Nat) (B1 : Boxd w q1 (exR op n m who a kk c)) :
 Calls Tryz.prog 77 #[.pointer (some ⟨q0, 0, none⟩), .pointer (some ⟨q2, 0, none⟩), .pointer (some ⟨q1, 0, none⟩)] w fun r w' => r = .returned (.tuple #[]) ∧ EPost w b own (E.token p m) w' := by
 have HD := Lib.hid (fun W (g : Grow w W) => zug W b own E (R.grow g) hQ hd (GL.grow g) x p m)
 obtain ⟨b1, b2, b3⟩ := B0
 obtain ⟨c1, c2, c3⟩ := B2
 obtain ⟨d1, d2, d3⟩ := B1
 clear R hQ GL
 generalize E.token p m = E2 at *
 go_enter Tryz.func77, Tryz.ntmps77
 go_wp2_with fail
 refine (HD.out _ grI).mono ?_
 rintro e' w2 ⟨rfl, hE⟩
 have HE := Lib.hid hE
 clear hE
 go_wp2_with fail
 go_end0
 exact ⟨rfl, EPost.low grI HE.out⟩
set_option maxRecDepth 100000 in
set_option maxHeartbeats 4000000 in
theorem zzd (w : World) (b : Nat) (own : Nat → Prop) (E : Em) (R : Emt w b own E) {d : List Int} (hQ : Oq d E) (hd : d.length ≤ 1048576) (GL : GlobE w own) (x : Ctx) (N : Int) (hN : N ≤ 1000000) (p : Nat) (hp : p < 2) (q0 q2 : Nat) (B0 : Boxd w q0 (doR b x)) (B2 : Boxd w q2 #[.int .i64 (p : Int)]) (h0 : ¬ own q0) (h2 : ¬ own q2) (op n m who : Int) (a : Option Addr) (kk c : Nat) (q1 : Nat) (B1 : Boxd w q1 (exR op n m who a kk c)) (h1 : ¬ own q1) :
 Calls Tryz.prog 72 #[.agg (doR b x), .int .i64 N, .func (.func 77) #[] #[.pointer (some ⟨q0, 0, none⟩), .pointer (some ⟨q2, 0, none⟩), .pointer (some ⟨q1, 0, none⟩)]] w fun r w' => r = .returned (.tuple #[]) ∧ EPost w b own (reps (fun E : Em => E.token p m) E N.toNat) w' := by
 have HOq : Hid (∀ k, Oq d (reps (fun E : Em => E.token p m) E k)) := fun k => Oq.reps (fun HQ => (HQ.jv.token zlt p m trivial).1) hQ k
 have HSc : Hid (∀ k, reps (fun E : Em => E.token p m) E (k + 1) = if (reps (fun E : Em => E.token p m) E k).err ≠ 0 then reps (fun E : Em => E.token p m) E k else (fun E : Em => E.token p m) (reps (fun E : Em => E.token p m) E k)) := fun _ => rfl
 have HBad : Hid (∀ k, (reps (fun E : Em => E.token p m) E k).err ≠ 0 → ∀ n, k ≤ n → reps (fun E : Em => E.token p m) E n = reps (fun E : Em => E.token p m) E k) := fun k h => zit h
 have HCl : Hid (∀ (wx : World), Grow w wx → ∀ (wr : World) (own2 : Nat → Prop) (k : Nat), Turn wx b own (reps (fun E : Em => E.token p m) E k) wr own2 → ∀ W, Grow wr W → Calls Tryz.prog 77 #[.pointer (some ⟨q0, 0, none⟩), .pointer (some ⟨q2, 0, none⟩), .pointer (some ⟨q1, 0, none⟩)] W fun r w' => r = .returned (.tuple #[]) ∧ EPost W b own2 ((fun E : Em => E.token p m) (reps (fun E : Em => E.token p m) E k)) w') := fun wx gx wr own2 k T W g =>
  zy6 W b own2 _ (T.em.grow g) (HOq k) hd ((T.glob (GL.grow gx)).grow g) x p hp q0 q2 (((B0.grow gx).kept T.kept h0).grow g) (((B2.grow gx).kept T.kept h2).grow g) op n m who a kk c q1 (((B1.grow gx).kept T.kept h1).grow g)
 have HR := Lib.hid R
 have HQ0 := Lib.hid hQ
 clear R hQ GL B0 B2 h0 h2 B1 h1
 have h00 : Hid (reps (fun E : Em => E.token p m) E 0 = E) := rfl
 generalize (fun E : Em => E.token p m) = F at *
 go_enter Tryz.func72, Tryz.ntmps72
 go_wp2_with fail
 have hg0 : Grow w (w.alloc (.cells (doR b x) 70)) := grI
 have hT0 : Turn (w.alloc (.cells (doR b x) 70)) b own (reps F E 0) (w.alloc (.cells (doR b x) 70)) own := by rw [h00.out]; exact Turn.first (HR.out.grow hg0)
 have HB := Lib.hid (Boxd.new w (doR b x) 70)
 have HT0 := Lib.hid hT0
 have HG0 := Lib.hid hg0
 have HWX := Lib.hid (show ¬ own w.heap.size from fun h => by have := HR.out.lt _ h; omega)
 clear hT0 hg0
 generalize w.alloc (.cells (doR b x) 70) = w1 at *
 go_loopw [6] (fun i wr => ∃ (k : Nat) (own2 : Nat → Prop), (k : Int) ≤ max N 0 ∧ i = .int .i64 k ∧ Turn w1 b own (reps F E k) wr own2) (fun i _ => N.toNat - (intOf i).toNat)
 case atStart => exact ⟨0, own, by omega, rfl, HT0.out⟩
 case round =>
  obtain ⟨k, own2, hk, rfl, hT⟩ := hrel
  have HT := Lib.hid hT
  clear hT
  obtain ⟨hb1, hb2, hb3⟩ := HB.out.kept HT.out.kept HWX.out
  by_cases hlt : (k : Int) < N
  · have hkm : (k : Int) < 1000000 := by omega
    by_cases he : (reps F E k).err = 0
    · have HEr := Lib.hid (fun W (g : Grow wr W) => by have := zas W b own2 _ (HT.out.em.grow g); rw [he, za4] at this; exact this)
      have HP := Lib.hid (fun W (g : Grow wr W) => HCl.out w1 HG0.out wr own2 k HT.out W g)
      have hs := HSc.out k
      rw [if_neg (by rw [he]; simp)] at hs
      rw [← hs] at HP
      clear he hs
      go_wp2_with (go_at_call 17; refine (HEr.out _ grI).mono ?_; rintro e' w' ⟨rfl, nx, rfl⟩)
      refine (HP.out _ grI).mono ?_
      rintro e' w4 ⟨rfl, hE⟩
      obtain ⟨own4, T4⟩ := HT.out.step grI hE
      have HT4 := Lib.hid T4
      clear hE T4 hb1 hb2 hb3
      go_wp2_with fail
      go_roundw
      case rel => exact ⟨k + 1, own4, by omega, by go_num, HT4.out⟩
      case measure => simp [intOf]; omega
    · have HEr := Lib.hid (fun W (g : Grow wr W) => by have := zas W b own2 _ (HT.out.em.grow g); rw [zap he] at this; exact this)
      have HB2 := Lib.hid (HBad.out k he N.toNat (by omega))
      clear he
      go_wp2_with (go_at_call 17; refine (HEr.out _ grI).mono ?_; rintro e' w' ⟨rfl, nx, rfl⟩)
      go_end0
      exact ⟨rfl, by rw [HB2.out]; exact (HT.out.post HG0.out).more grI⟩
  · have hke : k = N.toNat := by omega
    subst hke
    have hlt' : N ≤ (N.toNat : Int) := by omega
    go_wp2_with fail
    go_end0
    exact ⟨rfl, (HT.out.post HG0.out).more grI⟩
set_option maxRecDepth 100000 in
set_option maxHeartbeats 4000000 in
theorem zy7 (w : World) (b : Nat) (own : Nat → Prop) (E : Em) (R : Emt w b own E) {d : List Int} (hQ : Oq d E) (hd : d.length ≤ 1048576) (GL : GlobE w own) (x : Ctx) (p : Nat) (hp : p < 2) (q0 q2 : Nat) (B0 : Boxd w q0 (doR b x)) (B2 : Boxd w q2 #[.int .i64 (p : Int)]) :
 Calls Tryz.prog 82 #[.pointer (some ⟨q0, 0, none⟩), .pointer (some ⟨q2, 0, none⟩)] w fun r w' => r = .returned (.tuple #[]) ∧ EPost w b own (E.discard p) w' := by
 have HD := Lib.hid (fun W (g : Grow w W) => zoh W b own E (R.grow g) hQ hd (GL.grow g) x p (by omega))
 obtain ⟨b1, b2, b3⟩ := B0
 obtain ⟨c1, c2, c3⟩ := B2
 clear R hQ GL
 generalize E.discard p = E2 at *
 go_enter Tryz.func82, Tryz.ntmps82
 go_wp2_with fail
 refine (HD.out _ grI).mono ?_
 rintro e' w2 ⟨rfl, hE⟩
 have HE := Lib.hid hE
 clear hE
 go_wp2_with fail
 go_end0
 exact ⟨rfl, EPost.low grI HE.out⟩
set_option maxRecDepth 100000 in
set_option maxHeartbeats 4000000 in
theorem zze (w : World) (b : Nat) (own : Nat → Prop) (E : Em) (R : Emt w b own E) {d : List Int} (hQ : Oq d E) (hd : d.length ≤ 1048576) (GL : GlobE w own) (x : Ctx) (N : Int) (hN : N ≤ 1000000) (p : Nat) (hp : p < 2) (q0 q2 : Nat) (B0 : Boxd w q0 (doR b x)) (B2 : Boxd w q2 #[.int .i64 (p : Int)]) (h0 : ¬ own q0) (h2 : ¬ own q2) :
 Calls Tryz.prog 72 #[.agg (doR b x), .int .i64 N, .func (.func 82) #[] #[.pointer (some ⟨q0, 0, none⟩), .pointer (some ⟨q2, 0, none⟩)]] w fun r w' => r = .returned (.tuple #[]) ∧ EPost w b own (reps (fun E : Em => E.discard p) E N.toNat) w' := by
 have HOq : Hid (∀ k, Oq d (reps (fun E : Em => E.discard p) E k)) := fun k => Oq.reps (fun HQ => (HQ.jv.discard zlt p trivial).1) hQ k
 have HSc : Hid (∀ k, reps (fun E : Em => E.discard p) E (k + 1) = if (reps (fun E : Em => E.discard p) E k).err ≠ 0 then reps (fun E : Em => E.discard p) E k else (fun E : Em => E.discard p) (reps (fun E : Em => E.discard p) E k)) := fun _ => rfl
 have HBad : Hid (∀ k, (reps (fun E : Em => E.discard p) E k).err ≠ 0 → ∀ n, k ≤ n → reps (fun E : Em => E.discard p) E n = reps (fun E : Em => E.discard p) E k) := fun k h => zit h
 have HCl : Hid (∀ (wx : World), Grow w wx → ∀ (wr : World) (own2 : Nat → Prop) (k : Nat), Turn wx b own (reps (fun E : Em => E.discard p) E k) wr own2 → ∀ W, Grow wr W → Calls Tryz.prog 82 #[.pointer (some ⟨q0, 0, none⟩), .pointer (some ⟨q2, 0, none⟩)] W fun r w' => r = .returned (.tuple #[]) ∧ EPost W b own2 ((fun E : Em => E.discard p) (reps (fun E : Em => E.discard p) E k)) w') := fun wx gx wr own2 k T W g =>
  zy7 W b own2 _ (T.em.grow g) (HOq k) hd ((T.glob (GL.grow gx)).grow g) x p hp q0 q2 (((B0.grow gx).kept T.kept h0).grow g) (((B2.grow gx).kept T.kept h2).grow g)
 have HR := Lib.hid R
 have HQ0 := Lib.hid hQ
 clear R hQ GL B0 B2 h0 h2
 have h00 : Hid (reps (fun E : Em => E.discard p) E 0 = E) := rfl
 generalize (fun E : Em => E.discard p) = F at *
 go_enter Tryz.func72, Tryz.ntmps72
 go_wp2_with fail
 have hg0 : Grow w (w.alloc (.cells (doR b x) 70)) := grI
 have hT0 : Turn (w.alloc (.cells (doR b x) 70)) b own (reps F E 0) (w.alloc (.cells (doR b x) 70)) own := by rw [h00.out]; exact Turn.first (HR.out.grow hg0)
 have HB := Lib.hid (Boxd.new w (doR b x) 70)
 have HT0 := Lib.hid hT0
 have HG0 := Lib.hid hg0
 have HWX := Lib.hid (show ¬ own w.heap.size from fun h => by have := HR.out.lt _ h; omega)
 clear hT0 hg0
 generalize w.alloc (.cells (doR b x) 70) = w1 at *
 go_loopw [6] (fun i wr => ∃ (k : Nat) (own2 : Nat → Prop), (k : Int) ≤ max N 0 ∧ i = .int .i64 k ∧ Turn w1 b own (reps F E k) wr own2) (fun i _ => N.toNat - (intOf i).toNat)
 case atStart => exact ⟨0, own, by omega, rfl, HT0.out⟩
 case round =>
  obtain ⟨k, own2, hk, rfl, hT⟩ := hrel
  have HT := Lib.hid hT
  clear hT
  obtain ⟨hb1, hb2, hb3⟩ := HB.out.kept HT.out.kept HWX.out
  by_cases hlt : (k : Int) < N
  · have hkm : (k : Int) < 1000000 := by omega
    by_cases he : (reps F E k).err = 0
    · have HEr := Lib.hid (fun W (g : Grow wr W) => by have := zas W b own2 _ (HT.out.em.grow g); rw [he, za4] at this; exact this)
      have HP := Lib.hid (fun W (g : Grow wr W) => HCl.out w1 HG0.out wr own2 k HT.out W g)
      have hs := HSc.out k
      rw [if_neg (by rw [he]; simp)] at hs
      rw [← hs] at HP
      clear he hs
      go_wp2_with (go_at_call 17; refine (HEr.out _ grI).mono ?_; rintro e' w' ⟨rfl, nx, rfl⟩)
      refine (HP.out _ grI).mono ?_
      rintro e' w4 ⟨rfl, hE⟩
      obtain ⟨own4, T4⟩ := HT.out.step grI hE
      have HT4 := Lib.hid T4
      clear hE T4 hb1 hb2 hb3
      go_wp2_with fail
      go_roundw
      case rel => exact ⟨k + 1, own4, by omega, by go_num, HT4.out⟩
      case measure => simp [intOf]; omega
    · have HEr := Lib.hid (fun W (g : Grow wr W) => by have := zas W b own2 _ (HT.out.em.grow g); rw [zap he] at this; exact this)
      have HB2 := Lib.hid (HBad.out k he N.toNat (by omega))
      clear he
      go_wp2_with (go_at_call 17; refine (HEr.out _ grI).mono ?_; rintro e' w' ⟨rfl, nx, rfl⟩)
      go_end0
      exact ⟨rfl, by rw [HB2.out]; exact (HT.out.post HG0.out).more grI⟩
  · have hke : k = N.toNat := by omega
    subst hke
    have hlt' : N ≤ (N.toNat : Int) := by omega
    go_wp2_with fail
    go_end0
    exact ⟨rfl, (HT.out.post HG0.out).more grI⟩
end Go.Proofs.YthfalocligkamaaGreatDoor
namespace Go.Proofs.YthfalocligkamaaGreatDoor
open Go Go.RowKit Go.Shelf
set_option maxRecDepth 100000 in
set_option maxHeartbeats 8000000 in
theorem zkm (w : World) (b : Nat) (own : Nat → Prop) (E : Em) (R : Emt w b own E) {d : List Int} (hQ : Oq d E) (hd : d.length ≤ 1048576) (GL : GlobE w own) (x : Ctx) (op n m who : Int) (a : Option Addr) (k c : Nat) (p : Nat) (hp : p = 0 ∨ p = 1) (hc : x.ctl = 0 ∨ x.ctl = 1) (hn : -255 ≤ n ∧ n ≤ 255) :
 Calls Tryz.prog 51 #[.agg (doR b x), .agg (exR op n m who a k c), .int .i64 (p : Int)] w fun r w' => r = .returned (.tuple #[]) ∧ EPost w b own (E.toPl op n m x.ctl p) w' := by
 have hp2 : p < 2 := by omega
 have B0 : Boxd (((w.alloc (.cells (doR b x) 70)).alloc (.cells (exR op n m who a k c) 32)).alloc (.cells #[.int .i64 (p : Int)] 3)) w.heap.size (doR b x) := (Boxd.new w (doR b x) 70).grow grI
 have B1 : Boxd (((w.alloc (.cells (doR b x) 70)).alloc (.cells (exR op n m who a k c) 32)).alloc (.cells #[.int .i64 (p : Int)] 3)) (w.heap.size + 1) (exR op n m who a k c) := by
  have := Boxd.new (w.alloc (.cells (doR b x) 70)) (exR op n m who a k c) 32
  rw [zaa] at this
  exact this.grow grI
 have B2 : Boxd (((w.alloc (.cells (doR b x) 70)).alloc (.cells (exR op n m who a k c) 32)).alloc (.cells #[.int .i64 (p : Int)] 3)) (w.heap.size + 1 + 1) #[.int .i64 (p : Int)] := by
  have := Boxd.new ((w.alloc (.cells (doR b x) 70)).alloc (.cells (exR op n m who a k c) 32)) #[.int .i64 (p : Int)] 3
  rw [zaa, zaa] at this
  exact this
 have o0 : ¬ own w.heap.size := fun h => by have := R.lt _ h; omega
 have o1 : ¬ own (w.heap.size + 1) := fun h => by have := R.lt _ h; omega
 have o2 : ¬ own (w.heap.size + 1 + 1) := fun h => by have := R.lt _ h; omega
 have hg0 : Grow w (((w.alloc (.cells (doR b x) 70)).alloc (.cells (exR op n m who a k c) 32)).alloc (.cells #[.int .i64 (p : Int)] 3)) := grI
 have R3 := R.grow hg0
 have G3 := GL.grow hg0
 have HMo := Lib.hid (hQ.mo hd)
 by_cases e2 : op = 2
 · subst e2
   have hE2 : E.toPl 2 n m x.ctl p = E.life p n := rfl
   rw [hE2]
   have H := Lib.hid (fun W (g : Grow w W) => zjp W b own E (R.grow g) HMo.out p n)
   clear hE2
   clear R hQ GL B0 B1 B2 o0 o1 o2 hg0 R3 G3 HMo
   generalize E.life p n = E2 at *
   go_enter Tryz.func51, Tryz.ntmps51
   go_wp2_with fail
   refine (H.out _ grI).mono ?_
   rintro e' w2 ⟨rfl, hE⟩
   have HE := Lib.hid hE
   clear hE
   go_wp2_with fail
   go_end0
   exact ⟨rfl, EPost.low grI HE.out⟩
 by_cases e3 : op = 3
 · subst e3
   have hE2 : E.toPl 3 n m x.ctl p = E.life p (-n) := rfl
   rw [hE2]
   have H := Lib.hid (fun W (g : Grow w W) => zjp W b own E (R.grow g) HMo.out p (-n))
   clear hE2
   clear R hQ GL B0 B1 B2 o0 o1 o2 hg0 R3 G3 HMo
   generalize E.life p (-n) = E2 at *
   obtain ⟨n0, n1⟩ := hn
   go_enter Tryz.func51, Tryz.ntmps51
   go_wp2_with fail
   refine (H.out _ grI).mono ?_
   rintro e' w2 ⟨rfl, hE⟩
   have HE := Lib.hid hE
   clear hE
   go_wp2_with fail
   go_end0
   exact ⟨rfl, EPost.low grI HE.out⟩
 by_cases e1 : op = 1
 · subst e1
   have hE2 : E.toPl 1 n m x.ctl p = E.life p (-n) := rfl
   rw [hE2]
   have H := Lib.hid (fun W (g : Grow w W) => zjp W b own E (R.grow g) HMo.out p (-n))
   clear hE2
   clear R hQ GL B0 B1 B2 o0 o1 o2 hg0 R3 G3 HMo
   generalize E.life p (-n) = E2 at *
   obtain ⟨n0, n1⟩ := hn
   go_enter Tryz.func51, Tryz.ntmps51
   go_wp2_with fail
   refine (H.out _ grI).mono ?_
   rintro e' w2 ⟨rfl, hE⟩
   have HE := Lib.hid hE
   clear hE
   go_wp2_with fail
   go_end0
   exact ⟨rfl, EPost.low grI HE.out⟩
 by_cases e4 : op = 4
 · subst e4
   have hE2 : E.toPl 4 n m x.ctl p = reps (fun E : Em => E.draw p) E n.toNat := rfl
   rw [hE2]
   have H := Lib.hid (zzb _ b own E R3 hQ hd G3 x n (by omega) p hp2 _ _ B0 B2 o0 o2)
   clear hE2
   clear R hQ GL B0 B1 B2 o0 o1 o2 hg0 R3 G3 HMo
   generalize reps (fun E : Em => E.draw p) E n.toNat = E2 at *
   go_enter Tryz.func51, Tryz.ntmps51
   go_wp2_with fail
   refine (H.out).mono ?_
   rintro e' w2 ⟨rfl, hE⟩
   have HE := Lib.hid hE
   clear hE
   go_wp2_with fail
   go_end0
   exact ⟨rfl, EPost.low grI HE.out⟩
 by_cases e5 : op = 5
 · subst e5
   have hE2 : E.toPl 5 n m x.ctl p = reps (fun E : Em => E.mill p) E n.toNat := rfl
   rw [hE2]
   have H := Lib.hid (zzc _ b own E R3 hQ hd G3 x n (by omega) p hp2 _ _ B0 B2 o0 o2)
   clear hE2
   clear R hQ GL B0 B1 B2 o0 o1 o2 hg0 R3 G3 HMo
   generalize reps (fun E : Em => E.mill p) E n.toNat = E2 at *
   go_enter Tryz.func51, Tryz.ntmps51
   go_wp2_with fail
   refine (H.out).mono ?_
   rintro e' w2 ⟨rfl, hE⟩
   have HE := Lib.hid hE
   clear hE
   go_wp2_with fail
   go_end0
   exact ⟨rfl, EPost.low grI HE.out⟩
 by_cases e14 : op = 14
 · subst e14
   have hE2 : E.toPl 14 n m x.ctl p = reps (fun E : Em => E.token p m) E n.toNat := rfl
   rw [hE2]
   have H := Lib.hid (zzd _ b own E R3 hQ hd G3 x n (by omega) p hp2 _ _ B0 B2 o0 o2 _ _ _ _ _ _ _ _ B1 o1)
   clear hE2
   clear R hQ GL B0 B1 B2 o0 o1 o2 hg0 R3 G3 HMo
   generalize reps (fun E : Em => E.token p m) E n.toNat = E2 at *
   go_enter Tryz.func51, Tryz.ntmps51
   go_wp2_with fail
   refine (H.out).mono ?_
   rintro e' w2 ⟨rfl, hE⟩
   have HE := Lib.hid hE
   clear hE
   go_wp2_with fail
   go_end0
   exact ⟨rfl, EPost.low grI HE.out⟩
 by_cases e15 : op = 15
 · subst e15
   have hE2 : E.toPl 15 n m x.ctl p = E.mana p m n := rfl
   rw [hE2]
   have H := Lib.hid (fun W (g : Grow w W) => zw9 W b own E (R.grow g) HMo.out p m n)
   clear hE2
   clear R hQ GL B0 B1 B2 o0 o1 o2 hg0 R3 G3 HMo
   generalize E.mana p m n = E2 at *
   go_enter Tryz.func51, Tryz.ntmps51
   go_wp2_with fail
   refine (H.out _ grI).mono ?_
   rintro e' w2 ⟨rfl, hE⟩
   have HE := Lib.hid hE
   clear hE
   go_wp2_with fail
   go_end0
   exact ⟨rfl, EPost.low grI HE.out⟩
 by_cases e16 : op = 16
 · subst e16
   have hE2 : E.toPl 16 n m x.ctl p = E.shows (E.state.list p) 3 (min n ((E.state.list p).length : Int)).toNat := rfl
   rw [hE2]
   have H := Lib.hid (fun W (g : Grow w W) => zj5 W b own E (R.grow g) hQ hd x p hp n 3)
   clear hE2
   clear R hQ GL B0 B1 B2 o0 o1 o2 hg0 R3 G3 HMo
   generalize E.shows (E.state.list p) 3 (min n ((E.state.list p).length : Int)).toNat = E2 at *
   go_enter Tryz.func51, Tryz.ntmps51
   go_wp2_with fail
   refine (H.out _ grI).mono ?_
   rintro e' w2 ⟨rfl, hE⟩
   have HE := Lib.hid hE
   clear hE
   go_wp2_with fail
   go_end0
   exact ⟨rfl, EPost.low grI HE.out⟩
 by_cases e17 : op = 17
 · subst e17
   rcases hc with hc | hc
   · have hE2 : E.toPl 17 n m x.ctl p = E.shows (E.state.list p) 1 (min n ((E.state.list p).length : Int)).toNat := by
      show E.shows (E.state.list p) (x.ctl + 1) _ = _
      rw [hc]; rfl
     rw [hE2]
     have H := Lib.hid (fun W (g : Grow w W) => zj5 W b own E (R.grow g) hQ hd x p hp n 1)
     clear hE2
     clear R hQ GL B0 B1 B2 o0 o1 o2 hg0 R3 G3 HMo
     generalize E.shows (E.state.list p) 1 (min n ((E.state.list p).length : Int)).toNat = E2 at *
     go_enter Tryz.func51, Tryz.ntmps51
     go_wp2_with fail
     refine (H.out _ grI).mono ?_
     rintro e' w2 ⟨rfl, hE⟩
     have HE := Lib.hid hE
     clear hE
     go_wp2_with fail
     go_end0
     exact ⟨rfl, EPost.low grI HE.out⟩
   · have hE2 : E.toPl 17 n m x.ctl p = E.shows (E.state.list p) 2 (min n ((E.state.list p).length : Int)).toNat := by
      show E.shows (E.state.list p) (x.ctl + 1) _ = _
      rw [hc]; rfl
     rw [hE2]
     have H := Lib.hid (fun W (g : Grow w W) => zj5 W b own E (R.grow g) hQ hd x p hp n 2)
     clear hE2
     clear R hQ GL B0 B1 B2 o0 o1 o2 hg0 R3 G3 HMo
     generalize E.shows (E.state.list p) 2 (min n ((E.state.list p).length : Int)).toNat = E2 at *
     go_enter Tryz.func51, Tryz.ntmps51
     go_wp2_with fail
     refine (H.out _ grI).mono ?_
     rintro e' w2 ⟨rfl, hE⟩
     have HE := Lib.hid hE
     clear hE
     go_wp2_with fail
     go_end0
     exact ⟨rfl, EPost.low grI HE.out⟩
 by_cases e18 : op = 18
 · subst e18
   have hE2 : E.toPl 18 n m x.ctl p = E.shuffle p := rfl
   rw [hE2]
   have H := Lib.hid (fun W (g : Grow w W) => zni W b own E (R.grow g) HMo.out p)
   clear hE2
   clear R hQ GL B0 B1 B2 o0 o1 o2 hg0 R3 G3 HMo
   generalize E.shuffle p = E2 at *
   go_enter Tryz.func51, Tryz.ntmps51
   go_wp2_with fail
   refine (H.out _ grI).mono ?_
   rintro e' w2 ⟨rfl, hE⟩
   have HE := Lib.hid hE
   clear hE
   go_wp2_with fail
   go_end0
   exact ⟨rfl, EPost.low grI HE.out⟩
 by_cases e19 : op = 19
 · subst e19
   have hE2 : E.toPl 19 n m x.ctl p = reps (fun E : Em => E.discard p) E n.toNat := rfl
   rw [hE2]
   have H := Lib.hid (zze _ b own E R3 hQ hd G3 x n (by omega) p hp2 _ _ B0 B2 o0 o2)
   clear hE2
   clear R hQ GL B0 B1 B2 o0 o1 o2 hg0 R3 G3 HMo
   generalize reps (fun E : Em => E.discard p) E n.toNat = E2 at *
   go_enter Tryz.func51, Tryz.ntmps51
   go_wp2_with fail
   refine (H.out).mono ?_
   rintro e' w2 ⟨rfl, hE⟩
   have HE := Lib.hid hE
   clear hE
   go_wp2_with fail
   go_end0
   exact ⟨rfl, EPost.low grI HE.out⟩
 · have hE2 : E.toPl op n m x.ctl p = E := by unfold Em.toPl; rw [if_neg (by omega), if_neg (by omega), if_neg (by omega), if_neg (by omega), if_neg (by omega), if_neg (by omega), if_neg (by omega), if_neg (by omega), if_neg (by omega), if_neg (by omega)]
   rw [hE2]
   have HR := Lib.hid R
   have b2 : (op == 2) = false := by simpa using e2
   have b3 : (op == 3) = false := by simpa using e3
   have b1 : (op == 1) = false := by simpa using e1
   have b4 : (op == 4) = false := by simpa using e4
   have b5 : (op == 5) = false := by simpa using e5
   have b14 : (op == 14) = false := by simpa using e14
   have b15 : (op == 15) = false := by simpa using e15
   have b16 : (op == 16) = false := by simpa using e16
   have b17 : (op == 17) = false := by simpa using e17
   have b18 : (op == 18) = false := by simpa using e18
   have b19 : (op == 19) = false := by simpa using e19
   clear hE2 e2 e3 e1 e4 e5 e14 e15 e16 e17 e18 e19
   clear R hQ GL B0 B1 B2 o0 o1 o2 hg0 R3 G3 HMo
   go_enter Tryz.func51, Tryz.ntmps51
   go_wp2_with fail
   go_end0
   exact ⟨rfl, HR.out.stay grI⟩
end Go.Proofs.YthfalocligkamaaGreatDoor
