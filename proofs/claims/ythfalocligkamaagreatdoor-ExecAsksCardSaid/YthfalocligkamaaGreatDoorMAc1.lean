/- The walks of an emitter's Player and Life. -/
import Derived.Test.YthfalocligkamaaGreatDoorMEm
import Derived.Test.YthfalocligkamaaGreatDoorMEm9
import Derived.Test.YthfalocligkamaaGreatDoorMEmNew
import Derived.Test.YthfalocligkamaaGreatDoorMIs19
import Derived.Test.YthfalocligkamaaGreatDoorMEv2
namespace Go.Proofs.YthfalocligkamaaGreatDoor
open Go Go.RowKit Go.Shelf
def Em.setPl (E : Em) (p f n : Int) : Em :=
 if E.err ≠ 0 then E
 else if evCheck [3, p, f, 0, 0, 0] ≠ 0 then E.do1 [3, p, f, 0, 0, 0]
 else E.set [3, p, f, 0, 0, 0] (E.now.num (p.toNat * 9 + f.toNat)) n
def betw (n least most : Int) : Int := max (min n most) least
def Em.life (E : Em) (p more : Int) : Em :=
 if E.err ≠ 0 then E
 else if ¬ (p = 0 ∨ p = 1) then { E with err := 1 }
 else E.setPl p 0 (betw (E.now.num (p.toNat * 9) + betw more (-2147483648) 2147483648) (-1073741824) 1073741824)
theorem EmOk.setPl {E : Em} {n : Nat} (h : EmOk E n) (p f v : Int) : EmOk (E.setPl p f v) (n + 1) := by
 unfold Em.setPl
 split
 · exact h.mono (Nat.le_succ n)
 split
 · exact h.do1 _
 · exact h.set _ _ _
theorem EmOk.life {E : Em} {n : Nat} (h : EmOk E n) (p v : Int) : EmOk (E.life p v) (n + 1) := by
 unfold Em.life
 split
 · exact h.mono (Nat.le_succ n)
 split
 · exact ⟨(h.mono (Nat.le_succ n)).small, h.evs, (h.mono (Nat.le_succ n)).pend⟩
 · exact h.setPl _ _ _
theorem z0p {p f : Int} (h : evCheck [3, p, f, 0, 0, 0] = 0) : 0 ≤ p ∧ p < 2 ∧ 0 ≤ f ∧ f < 9 := by
 unfold evCheck zce zbr zcu inR zcv inB at h
 simp only [gt, List.getD_cons_zero, List.getD_cons_succ] at h
 simp at h
 omega
@[go_sem] theorem zzt (w : World) (a f : Int) : (za0 90 #[(0, .int .i64 3), (1, .int .i64 a), (2, .int .i64 f)]).run Tryz.prog w = .ok (.value (.agg (cellsOf [3, a, f, 0, 0, 0]))) w := by kernel_rfl
set_option maxRecDepth 100000 in
set_option maxHeartbeats 4000000 in
theorem zhu (w : World) (b : Nat) (own : Nat → Prop) (E : Em) (R : Emt w b own E) (n : Nat) (K : EmOk E n) (hn : n + 1 ≤ 1000000) (p f v : Int) :
 Calls Tryz.prog 103 #[.pointer (some ⟨b, 0, none⟩), .int .i64 p, .int .i64 f, .int .i64 v] w fun r w' => r = .returned (.tuple #[]) ∧ EPost w b own (E.setPl p f v) w' := by
 have hown := R.lt
 have HEr := Lib.hid (fun W (g : Grow w W) => zas W b own E (R.grow g))
 have HR0 := Lib.hid R
 unfold Em.setPl
 by_cases he : E.err = 0
 · rw [if_neg (by rw [he]; simp)]
   rw [he, za4] at HEr
   have HC := Lib.hid (fun W => zbv [3, p, f, 0, 0, 0] rfl W)
   have HD := Lib.hid (fun W (g : Grow w W) (q : Nat) (h : W.blk q = cellsOf [3, p, f, 0, 0, 0]) (hq : ¬ own q) => ze1 W b own E (R.grow g) n K (.mk q 0 1 1) [[3, p, f, 0, 0, 0]] ((zd4 W q 6 _ rfl h).rows (by omega) (zij (fun r hr => by rw [List.mem_singleton] at hr; subst hr; rfl))) (fun _ => hq) (by simp; omega))
   have HS := Lib.hid (fun W (g : Grow w W) was => zlm W b own E (R.grow g) n K hn [3, p, f, 0, 0, 0] rfl was v)
   have HL := Lib.hid hown
   obtain ⟨V, sd, se, sp, hr, ho⟩ := R
   have hH := hr.host
   have hcell := zaf (hH).free (hH).blk; have hfz := zah (hH).free; have hset := zag (hH).free (hH).blk; have hblk := (hH).blk; have hfree := (hH).free; have hlt := (hH).lt; have hne1 : ¬ b = (w).heap.size := (by omega); have hne2 : ¬ (w).heap.size = b := (by omega)
   have hck : evCheck [3, p, f, 0, 0, 0] = 0 → 0 ≤ p ∧ p < 2 ∧ 0 ≤ f ∧ f < 9 := z0p
   clear hr ho hH hblk K hown he
   by_cases hc : evCheck [3, p, f, 0, 0, 0] = 0
   · obtain ⟨p0, p1, f0, f1⟩ := hck hc
     rw [hc, za4] at HC
     clear hck
     rw [if_neg (by rw [hc]; simp)]
     obtain ⟨q, rfl⟩ := Int.eq_ofNat_of_zero_le p0
     obtain ⟨j, rfl⟩ := Int.eq_ofNat_of_zero_le f0
     rw [Int.toNat_natCast, Int.toNat_natCast]
     have hj : j < 9 := by omega
     have hq : q < 2 := by omega
     have hcg : (hoA V E.now.num (emR sd se sp E.err))[12 + q * 9 + j]? = some (I (E.now.num (q * 9 + j))) := by
      rw [zgb _ _ _ _ (by omega), show 12 + q * 9 + j = 12 + (q * 9 + j) by omega, za7 _ _ _ (by omega)]
     have hcc : w.cell? ⟨b, 12 + q * 9 + j, none⟩ = some (I (E.now.num (q * 9 + j))) := by rw [hcell]; exact hcg
     clear hc hcell hcg hset
     generalize E.now.num (q * 9 + j) = u at *
     go_enter Tryz.func103, Tryz.ntmps103
     go_wp2_with (first | (go_at_call 17; refine (HEr.out _ grI).mono ?_; rintro e' w' ⟨rfl, nx, rfl⟩) | (go_at_call 119; refine (HC.out _).mono ?_; rintro e' w' ⟨rfl, nx, rfl⟩))
     go_region_law (refine zak (by rfl) ?_; go_simp; go_at_call 120; refine (HS.out _ grI _).mono ?_; rintro e' w2 ⟨rfl, hE⟩; have HE := Lib.hid hE; clear hE)
     all_goals
      go_wp2_with fail
      go_end0
      exact ⟨rfl, EPost.low grI HE.out⟩
   · rw [if_pos hc]
     rw [zap hc] at HC
     clear hc hck
     go_enter Tryz.func103, Tryz.ntmps103
     go_wp2_with (first | (go_at_call 17; refine (HEr.out _ grI).mono ?_; rintro e' w' ⟨rfl, nx, rfl⟩) | (go_at_call 119; refine (HC.out _).mono ?_; rintro e' w' ⟨rfl, nx, rfl⟩) | (go_at_call 112; refine (HD.out _ grI _ (by go_simp) (fun hq => by have := HL.out _ hq; (try simp only [zac, zaa] at this); omega)).mono ?_; rintro e' w' ⟨rfl, hE⟩; have HE := Lib.hid hE; clear hE))
     refine bodyPost_ret (results_none rfl _ _ _) rfl ?_
     exact ⟨rfl, EPost.low grI HE.out⟩
 · rw [if_pos he]
   rw [zap he] at HEr
   clear he R K hown
   go_enter Tryz.func103, Tryz.ntmps103
   go_wp2_with (go_at_call 17; refine (HEr.out _ grI).mono ?_; rintro e' w' ⟨rfl, nx, rfl⟩)
   refine bodyPost_ret (results_none rfl _ _ _) rfl ?_
   exact ⟨rfl, .of_grow HR0.out grI⟩
theorem ziz (w : World) (n a b : Int) : Calls Tryz.prog 102 #[.int .i64 n, .int .i64 a, .int .i64 b] w fun e w' => e = .returned (.int .i64 (betw n a b)) ∧ Grow w w' := by
 go_enter Tryz.func102, Tryz.ntmps102
 go_wp2_with fail
 go_ret
 exact ⟨rfl, grI⟩
theorem zd5 (w : World) (b : Nat) (own : Nat → Prop) (E : Em) (R : Emt w b own E) (he : E.err = 0) (p : Int) (hp : p = 0 ∨ p = 1) :
 Calls Tryz.prog 101 #[.pointer (some ⟨b, 0, none⟩), .int .i64 p] w fun e w' => e = .returned (.bool true) ∧ Grow w w' := by
 have HM := Lib.hid (fun W (g : Grow w W) => zg9 W b own E (R.grow g) he 1)
 clear R he
 rcases hp with rfl | rfl
 · go_enter Tryz.func101, Tryz.ntmps101
   go_wp2_with (go_at_call 106; refine (HM.out _ grI).mono ?_; rintro e' w' ⟨rfl, nx, rfl⟩)
   go_ret
   exact ⟨rfl, grI⟩
 · go_enter Tryz.func101, Tryz.ntmps101
   go_wp2_with (go_at_call 106; refine (HM.out _ grI).mono ?_; rintro e' w' ⟨rfl, nx, rfl⟩)
   go_ret
   exact ⟨rfl, grI⟩
set_option maxRecDepth 100000 in
set_option maxHeartbeats 4000000 in
theorem zsb (w : World) (b : Nat) (own : Nat → Prop) (E : Em) (R : Emt w b own E) (he : E.err = 0) (n : Nat) (K : EmOk E n) (hn : n + 1 ≤ 1000000) (p : Nat) (hp : p < 2) (hv : -1073741824 ≤ E.now.num (p * 9) ∧ E.now.num (p * 9) ≤ 1073741824) (more : Int) :
 Calls Tryz.prog 71 #[.pointer (some ⟨b, 0, none⟩), .int .i64 (p : Int), .int .i64 more] w fun r w' => r = .returned (.tuple #[]) ∧ EPost w b own (E.life p more) w' := by
 have HP := Lib.hid (fun W (g : Grow w W) => zd5 W b own E (R.grow g) he (p : Int) (by omega))
 have HB := Lib.hid (fun W => ziz W)
 have HS := Lib.hid (fun W (g : Grow w W) v => zhu W b own E (R.grow g) n K hn (p : Int) 0 v)
 have HE0 : Hid (∀ v, v = betw (E.now.num (p * 9) + betw more (-2147483648) 2147483648) (-1073741824) 1073741824 → E.life p more = E.setPl p 0 v) := fun v h => by
  subst h
  unfold Em.life
  rw [if_neg (by rw [he]; simp), if_neg (by omega), Int.toNat_natCast]
 obtain ⟨V, sd, se, sp, hr, ho⟩ := R
 have hH := hr.host
 have hcell := zaf (hH).free (hH).blk; have hfz := zah (hH).free; have hset := zag (hH).free (hH).blk; have hblk := (hH).blk; have hfree := (hH).free; have hlt := (hH).lt; have hne1 : ¬ b = (w).heap.size := (by omega); have hne2 : ¬ (w).heap.size = b := (by omega)
 have hcc : w.cell? ⟨b, 12 + p * 9, none⟩ = some (I (E.now.num (p * 9))) := by rw [hcell, zgb _ _ _ _ (by omega), za7 _ _ _ (by omega)]
 have hbb : -2147483648 ≤ betw more (-2147483648) 2147483648 ∧ betw more (-2147483648) 2147483648 ≤ 2147483648 := by unfold betw; omega
 have hwr : wrap64 (E.now.num (p * 9) + betw more (-2147483648) 2147483648) = E.now.num (p * 9) + betw more (-2147483648) 2147483648 := by unfold wrap64; omega
 have hpi : (p : Int) < 2 := by omega
 have hp0 : (0 : Int) ≤ (p : Int) := by omega
 clear hr ho hH hblk K he hcell hset hbb hv
 generalize E.now.num (p * 9) = u at *
 go_enter Tryz.func71, Tryz.ntmps71
 go_wp2_with (first | (go_at_call 101; refine (HP.out _ grI).mono ?_; rintro e' w' ⟨rfl, nx, rfl⟩) | (go_at_call 102; refine (HB.out _ _ _ _).mono ?_; rintro e' w' ⟨rfl, nx, rfl⟩) | (go_at_call 103; refine (HS.out _ grI _).mono ?_; rintro e' w2 ⟨rfl, hE⟩; have HE := Lib.hid hE; clear hE))
 go_end0
 exact ⟨rfl, by rw [HE0.out _ rfl]; exact EPost.low grI HE.out⟩
end Go.Proofs.YthfalocligkamaaGreatDoor
namespace Go.Proofs.YthfalocligkamaaGreatDoor
open Go Go.RowKit Go.Shelf
def Em.make (E : Em) (c o k : Int) : Em := if E.err ≠ 0 then E else E.do1 [0, c, o, k, 0, 0]
def Em.made (E : Em) (c o k : Int) : Int := if E.err ≠ 0 then 0 else if (E.do1 [0, c, o, k, 0, 0]).err ≠ 0 then 0 else E.now.objs.length
def Em.mana (E : Em) (p place more : Int) : Em :=
 if E.err ≠ 0 then E
 else if ¬ (p = 0 ∨ p = 1) then { E with err := 1 }
 else if ¬ (0 ≤ place ∧ place ≤ 5) then { E with err := 6 }
 else E.setPl p (1 + place) (betw (E.now.num (p.toNat * 9 + (1 + place).toNat) + betw more (-2000) 2000) 0 1000)
@[go_sem] theorem zur (w : World) (a b c : Int) : (za0 90 #[(0, .int .i64 0), (1, .int .i64 a), (2, .int .i64 b), (3, .int .i64 c)]).run Tryz.prog w = .ok (.value (.agg (cellsOf [0, a, b, c, 0, 0]))) w := by kernel_rfl
set_option maxRecDepth 100000 in
set_option maxHeartbeats 4000000 in
theorem zsc (w : World) (b : Nat) (own : Nat → Prop) (E : Em) (R : Emt w b own E) (he : E.err = 0) (n : Nat) (K : EmOk E n) (hn : n + 1 ≤ 1000000) (c o k : Int) :
 Calls Tryz.prog 105 #[.pointer (some ⟨b, 0, none⟩), .int .i64 c, .int .i64 o, .int .i64 k] w fun r w' => r = .returned (.int .i64 (E.made c o k)) ∧ EPost w b own (E.make c o k) w' := by
 have hown := R.lt
 have HEr := Lib.hid (fun W (g : Grow w W) => zas W b own E (R.grow g))
 have HR0 := Lib.hid R
 have e1 : E.make c o k = E.do1 [0, c, o, k, 0, 0] := by unfold Em.make; rw [if_neg (by rw [he]; simp)]
 have e2 : E.made c o k = if (E.do1 [0, c, o, k, 0, 0]).err ≠ 0 then 0 else (E.now.objs.length : Int) := by unfold Em.made; rw [if_neg (by rw [he]; simp)]
 rw [e1, e2]
 rw [he, za4] at HEr
 have HD := Lib.hid (fun W (g : Grow w W) (q : Nat) (h : W.blk q = cellsOf [0, c, o, k, 0, 0]) (hq : ¬ own q) => ze1 W b own E (R.grow g) n K (.mk q 0 1 1) [[0, c, o, k, 0, 0]] ((zd4 W q 6 _ rfl h).rows (by omega) (zij (fun r hr => by rw [List.mem_singleton] at hr; subst hr; rfl))) (fun _ => hq) (by simp; omega))
 have HL := Lib.hid hown
 obtain ⟨V, sd, se, sp, hr, ho⟩ := R
 have hH := hr.host
 have hcell := zaf (hH).free (hH).blk; have hfz := zah (hH).free; have hset := zag (hH).free (hH).blk; have hblk := (hH).blk; have hfree := (hH).free; have hlt := (hH).lt; have hne1 : ¬ b = (w).heap.size := (by omega); have hne2 : ¬ (w).heap.size = b := (by omega)
 have hN := hr.host.rep.objs.len
 clear hr ho hH hblk K hown he e1 e2
 by_cases h2 : (E.do1 [0, c, o, k, 0, 0]).err = 0
 · rw [if_neg (by rw [h2]; simp)]
   have HH2 := Lib.hid h2
   clear h2
   go_enter Tryz.func105, Tryz.ntmps105
   go_wp2_with (go_at_call 17; refine (HEr.out _ grI).mono ?_; rintro e' w' ⟨rfl, nx, rfl⟩)
   refine (HD.out _ grI _ (by go_simp) (fun hq => by have := HL.out _ hq; (try simp only [zac, zaa] at this); omega)).mono ?_
   rintro e' w2 ⟨rfl, hE⟩
   obtain ⟨own2, T2⟩ := (Turn.first HR0.out).step grI hE
   have HE2 := Lib.hid (fun W (g : Grow w2 W) => zas W b own2 _ (T2.em.grow g))
   have HT := Lib.hid T2
   clear hE T2 HD HEr
   change Hid (∀ W, Grow w2 W → Calls Tryz.prog 17 #[.pointer (some ⟨b, 0, none⟩)] W fun e w' => e = .returned (errV (E.do1 [0, c, o, k, 0, 0]).err) ∧ Grow W w') at HE2
   change Hid (Turn w b own (E.do1 [0, c, o, k, 0, 0]) w2 own2) at HT
   rw [HH2.out, za4] at HE2
   go_wp2_with (go_at_call 17; refine (HE2.out _ grI).mono ?_; rintro e' w' ⟨rfl, nx, rfl⟩)
   go_ret
   exact ⟨rfl, (HT.out.post (Grow.refl _)).more grI⟩
 · rw [if_pos h2]
   have HH2 := Lib.hid h2
   clear h2
   go_enter Tryz.func105, Tryz.ntmps105
   go_wp2_with (go_at_call 17; refine (HEr.out _ grI).mono ?_; rintro e' w' ⟨rfl, nx, rfl⟩)
   refine (HD.out _ grI _ (by go_simp) (fun hq => by have := HL.out _ hq; (try simp only [zac, zaa] at this); omega)).mono ?_
   rintro e' w2 ⟨rfl, hE⟩
   obtain ⟨own2, T2⟩ := (Turn.first HR0.out).step grI hE
   have HE2 := Lib.hid (fun W (g : Grow w2 W) => zas W b own2 _ (T2.em.grow g))
   have HT := Lib.hid T2
   clear hE T2 HD HEr
   change Hid (∀ W, Grow w2 W → Calls Tryz.prog 17 #[.pointer (some ⟨b, 0, none⟩)] W fun e w' => e = .returned (errV (E.do1 [0, c, o, k, 0, 0]).err) ∧ Grow W w') at HE2
   change Hid (Turn w b own (E.do1 [0, c, o, k, 0, 0]) w2 own2) at HT
   rw [zap HH2.out] at HE2
   go_wp2_with (go_at_call 17; refine (HE2.out _ grI).mono ?_; rintro e' w' ⟨rfl, nx, rfl⟩)
   go_ret
   exact ⟨rfl, (HT.out.post (Grow.refl _)).more grI⟩
theorem EmOk.make {E : Em} {n : Nat} (h : EmOk E n) (c o k : Int) : EmOk (E.make c o k) (n + 1) := by
 unfold Em.make
 split
 · exact h.mono (Nat.le_succ n)
 · exact h.do1 _
theorem zhe (w : World) (b : Nat) (own : Nat → Prop) (E : Em) (R : Emt w b own E) (he : E.err = 0) (p : Int) (hp : ¬ (p = 0 ∨ p = 1)) :
 Calls Tryz.prog 101 #[.pointer (some ⟨b, 0, none⟩), .int .i64 p] w fun e w' => e = .returned (.bool false) ∧ EPost w b own { E with err := 1 } w' := by
 have HM := Lib.hid (fun W (g : Grow w W) => ziq W b own E (R.grow g) false 1 (by decide))
 have e1 : E.must false 1 = { E with err := 1 } := by unfold Em.must; rw [if_neg (by rw [he]; simp)]; rfl
 rw [e1, Bool.and_false] at HM
 clear R he e1
 have h0 : (p == 0) = false := by simp; omega
 have h1 : (p == 1) = false := by simp; omega
 clear hp
 go_enter Tryz.func101, Tryz.ntmps101
 go_wp2_with (go_at_call 106; refine (HM.out _ grI).mono ?_; rintro e' w' ⟨rfl, hE⟩; have HE := Lib.hid hE; clear hE)
 go_ret
 exact ⟨rfl, EPost.low grI HE.out⟩
set_option maxRecDepth 100000 in
theorem z7p (w : World) (b : Nat) (own : Nat → Prop) (E : Em) (R : Emt w b own E) (he : E.err = 0) (p more : Int) (hp : ¬ (p = 0 ∨ p = 1)) :
 Calls Tryz.prog 71 #[.pointer (some ⟨b, 0, none⟩), .int .i64 p, .int .i64 more] w fun r w' => r = .returned (.tuple #[]) ∧ EPost w b own (E.life p more) w' := by
 have HP := Lib.hid (fun W (g : Grow w W) => zhe W b own E (R.grow g) he p hp)
 have e1 : E.life p more = { E with err := 1 } := by unfold Em.life; rw [if_neg (by rw [he]; simp), if_pos hp]
 rw [e1]
 clear R he hp e1
 go_enter Tryz.func71, Tryz.ntmps71
 go_wp2_with (go_at_call 101; refine (HP.out _ grI).mono ?_; rintro e' w' ⟨rfl, hE⟩; have HE := Lib.hid hE; clear hE)
 first | go_end0 | refine bodyPost_ret (results_none rfl _ _ _) rfl ?_
 exact ⟨rfl, EPost.low grI HE.out⟩
def zvb (S : St) : Prop := ∀ q, q < 18 → -1073741824 ≤ S.num q ∧ S.num q ≤ 1073741824
theorem zv4 (w : World) (b : Nat) (own : Nat → Prop) (E : Em) (R : Emt w b own E) (he : E.err = 0) (n : Nat) (K : EmOk E n) (hn : n + 1 ≤ 1000000) (hv : zvb E.now) (p more : Int) :
 Calls Tryz.prog 71 #[.pointer (some ⟨b, 0, none⟩), .int .i64 p, .int .i64 more] w fun r w' => r = .returned (.tuple #[]) ∧ EPost w b own (E.life p more) w' := by
 by_cases hp : p = 0 ∨ p = 1
 · obtain ⟨q, rfl⟩ := Int.eq_ofNat_of_zero_le (show 0 ≤ p by omega)
   exact zsb w b own E R he n K hn q (by omega) (hv _ (by omega)) more
 · exact z7p w b own E R he p more hp
set_option maxRecDepth 100000 in
theorem z7v (w : World) (b : Nat) (own : Nat → Prop) (E : Em) (R : Emt w b own E) (he : E.err = 0) (p place more : Int) (hp : ¬ (p = 0 ∨ p = 1)) :
 Calls Tryz.prog 79 #[.pointer (some ⟨b, 0, none⟩), .int .i64 p, .int .i64 place, .int .i64 more] w fun r w' => r = .returned (.tuple #[]) ∧ EPost w b own (E.mana p place more) w' := by
 have HP := Lib.hid (fun W (g : Grow w W) => zhe W b own E (R.grow g) he p hp)
 have e1 : E.mana p place more = { E with err := 1 } := by unfold Em.mana; rw [if_neg (by rw [he]; simp), if_pos hp]
 rw [e1]
 clear R he hp e1
 go_enter Tryz.func79, Tryz.ntmps79
 go_wp2_with (go_at_call 101; refine (HP.out _ grI).mono ?_; rintro e' w' ⟨rfl, hE⟩; have HE := Lib.hid hE; clear hE)
 first | go_end0 | refine bodyPost_ret (results_none rfl _ _ _) rfl ?_
 exact ⟨rfl, EPost.low grI HE.out⟩
set_option maxRecDepth 100000 in
set_option maxHeartbeats 4000000 in
theorem zw3 (w : World) (b : Nat) (own : Nat → Prop) (E : Em) (R : Emt w b own E) (he : E.err = 0) (p place more : Int) (hp : p = 0 ∨ p = 1) (hl : ¬ (0 ≤ place ∧ place ≤ 5)) :
 Calls Tryz.prog 79 #[.pointer (some ⟨b, 0, none⟩), .int .i64 p, .int .i64 place, .int .i64 more] w fun r w' => r = .returned (.tuple #[]) ∧ EPost w b own (E.mana p place more) w' := by
 have HP := Lib.hid (fun W (g : Grow w W) => zd5 W b own E (R.grow g) he p hp)
 have HM : Hid (∀ W, Grow w W → ∀ c : Bool, c = false → Calls Tryz.prog 106 #[.pointer (some ⟨b, 0, none⟩), .bool c, .int .i64 6] W fun e w' => e = .returned (.bool false) ∧ EPost W b own { E with err := 6 } w') := fun W g c hc => by
  subst hc
  have h := ziq W b own E (R.grow g) false 6 (by decide)
  have e1 : E.must false 6 = { E with err := 6 } := by unfold Em.must; rw [if_neg (by rw [he]; simp)]; rfl
  rw [e1, Bool.and_false] at h
  exact h
 have e1 : E.mana p place more = { E with err := 6 } := by unfold Em.mana; rw [if_neg (by rw [he]; simp), if_neg (by omega), if_pos hl]
 rw [e1]
 clear R he hp e1
 by_cases h0 : 0 ≤ place
 · have h5 : ¬ place ≤ 5 := by omega
   clear hl
   go_enter Tryz.func79, Tryz.ntmps79
   go_wp2_with (first | (go_at_call 101; refine (HP.out _ grI).mono ?_; rintro e' w' ⟨rfl, nx, rfl⟩) | (go_at_call 106; refine (HM.out _ grI _ (by first | rfl | (simp; omega))).mono ?_; rintro e' w' ⟨rfl, hE⟩; have HE := Lib.hid hE; clear hE))
   first | go_end0 | refine bodyPost_ret (results_none rfl _ _ _) rfl ?_
   exact ⟨rfl, EPost.low grI HE.out⟩
 · clear hl
   go_enter Tryz.func79, Tryz.ntmps79
   go_wp2_with (first | (go_at_call 101; refine (HP.out _ grI).mono ?_; rintro e' w' ⟨rfl, nx, rfl⟩) | (go_at_call 106; refine (HM.out _ grI _ (by first | rfl | (simp; omega))).mono ?_; rintro e' w' ⟨rfl, hE⟩; have HE := Lib.hid hE; clear hE))
   first | go_end0 | refine bodyPost_ret (results_none rfl _ _ _) rfl ?_
   exact ⟨rfl, EPost.low grI HE.out⟩
set_option maxRecDepth 100000 in
set_option maxHeartbeats 4000000 in
theorem zsd (w : World) (b : Nat) (own : Nat → Prop) (E : Em) (R : Emt w b own E) (he : E.err = 0) (n : Nat) (K : EmOk E n) (hn : n + 1 ≤ 1000000) (p l : Nat) (hp : p < 2) (hl : l < 6) (hv : -1073741824 ≤ E.now.num (p * 9 + (1 + l)) ∧ E.now.num (p * 9 + (1 + l)) ≤ 1073741824) (more : Int) :
 Calls Tryz.prog 79 #[.pointer (some ⟨b, 0, none⟩), .int .i64 (p : Int), .int .i64 (l : Int), .int .i64 more] w fun r w' => r = .returned (.tuple #[]) ∧ EPost w b own (E.mana p l more) w' := by
 have HP := Lib.hid (fun W (g : Grow w W) => zd5 W b own E (R.grow g) he (p : Int) (by omega))
 have HM := Lib.hid (fun W (g : Grow w W) => zg9 W b own E (R.grow g) he 6)
 have HB := Lib.hid (fun W => ziz W)
 have HS := Lib.hid (fun W (g : Grow w W) f v => zhu W b own E (R.grow g) n K hn (p : Int) f v)
 have HE0 : Hid (∀ v, v = betw (E.now.num (p * 9 + (1 + l)) + betw more (-2000) 2000) 0 1000 → E.mana p l more = E.setPl p (1 + (l : Int)) v) := fun v h => by
  subst h
  unfold Em.mana
  rw [if_neg (by rw [he]; simp), if_neg (by omega), if_neg (by omega), Int.toNat_natCast, show (1 + (l : Int)).toNat = 1 + l by omega]
 obtain ⟨V, sd, se, sp, hr, ho⟩ := R
 have hH := hr.host
 have hcell := zaf (hH).free (hH).blk; have hfz := zah (hH).free; have hset := zag (hH).free (hH).blk; have hblk := (hH).blk; have hfree := (hH).free; have hlt := (hH).lt; have hne1 : ¬ b = (w).heap.size := (by omega); have hne2 : ¬ (w).heap.size = b := (by omega)
 have hcc : w.cell? ⟨b, 12 + p * 9 + (1 + l), none⟩ = some (I (E.now.num (p * 9 + (1 + l)))) := by rw [hcell, zgb _ _ _ _ (by omega), show 12 + p * 9 + (1 + l) = 12 + (p * 9 + (1 + l)) by omega, za7 _ _ _ (by omega)]
 have hbb : -2000 ≤ betw more (-2000) 2000 ∧ betw more (-2000) 2000 ≤ 2000 := by unfold betw; omega
 have hwr : wrap64 (E.now.num (p * 9 + (1 + l)) + betw more (-2000) 2000) = E.now.num (p * 9 + (1 + l)) + betw more (-2000) 2000 := by unfold wrap64; omega
 have hpi : (p : Int) < 2 := by omega
 have hp0 : (0 : Int) ≤ (p : Int) := by omega
 have hl0 : (0 : Int) ≤ (l : Int) := by omega
 have hl5 : (l : Int) ≤ 5 := by omega
 clear hr ho hH hblk K he hcell hset hbb hv
 generalize E.now.num (p * 9 + (1 + l)) = u at *
 go_enter Tryz.func79, Tryz.ntmps79
 go_wp2_with (first | (go_at_call 101; refine (HP.out _ grI).mono ?_; rintro e' w' ⟨rfl, nx, rfl⟩) | (go_at_call 106; refine (HM.out _ grI).mono ?_; rintro e' w' ⟨rfl, nx, rfl⟩) | (go_at_call 102; refine (HB.out _ _ _ _).mono ?_; rintro e' w' ⟨rfl, nx, rfl⟩) | (go_at_call 103; refine (HS.out _ grI _ _).mono ?_; rintro e' w2 ⟨rfl, hE⟩; have HE := Lib.hid hE; clear hE))
 go_end0
 exact ⟨rfl, by rw [HE0.out _ rfl]; exact EPost.low grI HE.out⟩
theorem zv7 (w : World) (b : Nat) (own : Nat → Prop) (E : Em) (R : Emt w b own E) (he : E.err = 0) (n : Nat) (K : EmOk E n) (hn : n + 1 ≤ 1000000) (hv : zvb E.now) (p place more : Int) :
 Calls Tryz.prog 79 #[.pointer (some ⟨b, 0, none⟩), .int .i64 p, .int .i64 place, .int .i64 more] w fun r w' => r = .returned (.tuple #[]) ∧ EPost w b own (E.mana p place more) w' := by
 by_cases hp : p = 0 ∨ p = 1
 · by_cases hl : 0 ≤ place ∧ place ≤ 5
   · obtain ⟨q, rfl⟩ := Int.eq_ofNat_of_zero_le (show 0 ≤ p by omega)
     obtain ⟨l, rfl⟩ := Int.eq_ofNat_of_zero_le hl.1
     exact zsd w b own E R he n K hn q l (by omega) (by omega) (hv _ (by omega)) more
   · exact zw3 w b own E R he p place more hp hl
 · exact z7v w b own E R he p place more hp
theorem EmOk.mana {E : Em} {n : Nat} (h : EmOk E n) (p l v : Int) : EmOk (E.mana p l v) (n + 1) := by
 have h2 := h.mono (Nat.le_succ n)
 unfold Em.mana
 split
 · exact h2
 split
 · exact ⟨h2.small, h2.evs, h2.pend⟩
 split
 · exact ⟨h2.small, h2.evs, h2.pend⟩
 · exact h.setPl _ _ _
end Go.Proofs.YthfalocligkamaaGreatDoor
namespace Go.Proofs.YthfalocligkamaaGreatDoor
open Go Go.RowKit Go.Shelf
def Em.pick (E : Em) (n : Int) : Em := if E.err ≠ 0 then E else (E.fail (zeb E.draws (E.now.num 23) n).2.2).setGame 5 (zeb E.draws (E.now.num 23) n).2.1
def Em.picked (E : Em) (n : Int) : Int := if (E.pick n).err ≠ 0 then 0 else (zeb E.draws (E.now.num 23) n).1
def Em.draw (E : Em) (p : Int) : Em :=
 if E.err ≠ 0 then E
 else if ¬ (p = 0 ∨ p = 1) then { E with err := 1 }
 else if E.now.list p.toNat = [] then E.setPl p 8 1
 else E.put (gt (E.now.list p.toNat) ((E.now.list p.toNat).length - 1)) 2
theorem EmOk.pick {E : Em} {n : Nat} (h : EmOk E n) (k : Int) : EmOk (E.pick k) (n + 1) := by
 unfold Em.pick
 split
 · exact h.mono (Nat.le_succ n)
 · exact (h.fail _).setGame _ _
set_option maxRecDepth 100000 in
set_option maxHeartbeats 4000000 in
theorem zse (w : World) (b : Nat) (own : Nat → Prop) (E : Em) (R : Emt w b own E) (he : E.err = 0) (n : Nat) (K : EmOk E n) (hn : n + 1 ≤ 1000000) (hd : E.draws.length ≤ 1048576) (hc : E.now.num 23 ≤ 1073741824) (m : Int) (hm : m ≤ 9223372036854775807) :
 Calls Tryz.prog 114 #[.pointer (some ⟨b, 0, none⟩), .int .i64 m] w fun r w' => r = .returned (.int .i64 (E.picked m)) ∧ EPost w b own (E.pick m) w' := by
 have HEr := Lib.hid (fun W (g : Grow w W) => zas W b own E (R.grow g))
 have HR0 := Lib.hid R
 have HK := Lib.hid K
 have e1 : E.pick m = (E.fail (zeb E.draws (E.now.num 23) m).2.2).setGame 5 (zeb E.draws (E.now.num 23) m).2.1 := by unfold Em.pick; rw [if_neg (by rw [he]; simp)]
 have e2 : E.picked m = if (E.pick m).err ≠ 0 then 0 else (zeb E.draws (E.now.num 23) m).1 := rfl
 rw [e2, e1]
 rw [he, za4] at HEr
 have HF := Lib.hid (fun W (g : Grow w W) v => ze2 W b own E (R.grow g) v)
 obtain ⟨V, sd, se, sp, hr, ho⟩ := R
 have hcd : w.cell? ⟨b, 37, none⟩ = some sd.val := (zaf hr.host.free hr.host.blk 37).trans (z5f _ _ _ _ _ _)
 have hcg : w.cell? ⟨b, 35, none⟩ = some (I (E.now.num 23)) := by rw [zaf hr.host.free hr.host.blk 35, zgb _ _ _ _ (by omega), show 35 = 12 + 23 from rfl, za7 _ _ _ (by omega)]
 have HP := Lib.hid (fun W (g : Grow w W) => z2x W sd E.draws (E.now.num 23) m (hr.drs.grow g) hd hc hm)
 have hlt := hr.host.lt
 clear hr ho K he e1 e2
 generalize E.now.num 23 = u at *
 generalize hq : zeb E.draws u m = q at *
 obtain ⟨x, c, er⟩ := q
 clear hq
 simp only at HP ⊢
 by_cases h2 : ((E.fail er).setGame 5 c).err = 0
 · rw [if_neg (by rw [h2]; simp)]
   have HH2 := Lib.hid h2
   clear h2
   go_enter Tryz.func114, Tryz.ntmps114
   go_wp2_with (go_at_call 17; refine (HEr.out _ grI).mono ?_; rintro e' w' ⟨rfl, nx, rfl⟩)
   refine zab (by kernel_rfl) (by kernel_rfl) ?_; (repeat (go_big_quiet_step ( (go_at_call 142; first | refine Calls.grow2 ((HP.out _ grI).mono fun _ _ h => ⟨h.1, h.2 ▸ Grow.refl _⟩) | refine Calls.grow ((HP.out _ grI).mono fun _ _ h => ⟨h.1, h.2 ▸ Grow.refl _⟩)) ))); refine wpQuiet_nil ?_; rintro _ ⟨nx, rfl⟩
   go_wp2_with fail
   refine (HF.out _ grI er).mono ?_
   rintro e' w2 ⟨rfl, hE⟩
   obtain ⟨own2, T2⟩ := (Turn.first HR0.out).step grI hE
   have HG := Lib.hid (fun W (g : Grow w2 W) v => zee W b own2 _ (T2.em.grow g) n (HK.out.fail er) hn 5 v)
   have HT := Lib.hid T2
   clear hE T2 HF HEr HP
   go_wp2_with fail
   refine (HG.out _ grI c).mono ?_
   rintro e' w3 ⟨rfl, hE⟩
   obtain ⟨own3, T3⟩ := HT.out.step grI hE
   have HE3 := Lib.hid (fun W (g : Grow w3 W) => zas W b own3 _ (T3.em.grow g))
   have HT3 := Lib.hid T3
   clear hE T3 HG HT
   rw [HH2.out, za4] at HE3
   go_wp2_with (go_at_call 17; refine (HE3.out _ grI).mono ?_; rintro e' w' ⟨rfl, nx, rfl⟩)
   go_ret
   exact ⟨rfl, (HT3.out.post (Grow.refl _)).more grI⟩
 · rw [if_pos h2]
   have HH2 := Lib.hid h2
   clear h2
   go_enter Tryz.func114, Tryz.ntmps114
   go_wp2_with (go_at_call 17; refine (HEr.out _ grI).mono ?_; rintro e' w' ⟨rfl, nx, rfl⟩)
   refine zab (by kernel_rfl) (by kernel_rfl) ?_; (repeat (go_big_quiet_step ( (go_at_call 142; first | refine Calls.grow2 ((HP.out _ grI).mono fun _ _ h => ⟨h.1, h.2 ▸ Grow.refl _⟩) | refine Calls.grow ((HP.out _ grI).mono fun _ _ h => ⟨h.1, h.2 ▸ Grow.refl _⟩)) ))); refine wpQuiet_nil ?_; rintro _ ⟨nx, rfl⟩
   go_wp2_with fail
   refine (HF.out _ grI er).mono ?_
   rintro e' w2 ⟨rfl, hE⟩
   obtain ⟨own2, T2⟩ := (Turn.first HR0.out).step grI hE
   have HG := Lib.hid (fun W (g : Grow w2 W) v => zee W b own2 _ (T2.em.grow g) n (HK.out.fail er) hn 5 v)
   have HT := Lib.hid T2
   clear hE T2 HF HEr HP
   go_wp2_with fail
   refine (HG.out _ grI c).mono ?_
   rintro e' w3 ⟨rfl, hE⟩
   obtain ⟨own3, T3⟩ := HT.out.step grI hE
   have HE3 := Lib.hid (fun W (g : Grow w3 W) => zas W b own3 _ (T3.em.grow g))
   have HT3 := Lib.hid T3
   clear hE T3 HG HT
   rw [zap HH2.out] at HE3
   go_wp2_with (go_at_call 17; refine (HE3.out _ grI).mono ?_; rintro e' w' ⟨rfl, nx, rfl⟩)
   go_ret
   exact ⟨rfl, (HT3.out.post (Grow.refl _)).more grI⟩
set_option maxRecDepth 100000 in
theorem z6w (w : World) (b : Nat) (own : Nat → Prop) (E : Em) (R : Emt w b own E) (he : E.err = 0) (p : Int) (hp : ¬ (p = 0 ∨ p = 1)) :
 Calls Tryz.prog 74 #[.pointer (some ⟨b, 0, none⟩), .int .i64 p] w fun r w' => r = .returned (.tuple #[]) ∧ EPost w b own (E.draw p) w' := by
 have HP := Lib.hid (fun W (g : Grow w W) => zhe W b own E (R.grow g) he p hp)
 have e1 : E.draw p = { E with err := 1 } := by unfold Em.draw; rw [if_neg (by rw [he]; simp), if_pos hp]
 rw [e1]
 clear R he hp e1
 go_enter Tryz.func74, Tryz.ntmps74
 go_wp2_with (go_at_call 101; refine (HP.out _ grI).mono ?_; rintro e' w' ⟨rfl, hE⟩; have HE := Lib.hid hE; clear hE)
 first | go_end0 | refine bodyPost_ret (results_none rfl _ _ _) rfl ?_
 exact ⟨rfl, EPost.low grI HE.out⟩
set_option maxRecDepth 100000 in
set_option maxHeartbeats 4000000 in
theorem zsa (w : World) (b : Nat) (own : Nat → Prop) (E : Em) (R : Emt w b own E) (he : E.err = 0) (n : Nat) (K : EmOk E n) (hn : n + 20 ≤ 1000000) (GL : GlobE w own) (hzone : ∀ i, i < E.now.objs.length → 0 ≤ gt (rowAt E.now.objs i) 3 ∧ gt (rowAt E.now.objs i) 3 < 11) (p : Nat) (hp : p < 2) :
 Calls Tryz.prog 74 #[.pointer (some ⟨b, 0, none⟩), .int .i64 (p : Int)] w fun r w' => r = .returned (.tuple #[]) ∧ EPost w b own (E.draw p) w' := by
 have HP := Lib.hid (fun W (g : Grow w W) => zd5 W b own E (R.grow g) he (p : Int) (by omega))
 have HS := Lib.hid (fun W (g : Grow w W) => zhu W b own E (R.grow g) n K (by omega) (p : Int) 8 1)
 have HU := Lib.hid (fun W (g : Grow w W) id => zql W b own E (R.grow g) n K hn (GL.grow g) (fun _ => hzone) id 2)
 have e1 : E.draw p = if E.now.list p = [] then E.setPl p 8 1 else E.put (gt (E.now.list p) ((E.now.list p).length - 1)) 2 := by unfold Em.draw; rw [if_neg (by rw [he]; simp), if_neg (by omega), Int.toNat_natCast]
 rw [e1]
 have hS := K.small
 obtain ⟨V, sd, se, sp, hr, ho⟩ := R
 have hH := hr.host
 have hcell := zaf (hH).free (hH).blk; have hfz := zah (hH).free; have hset := zag (hH).free (hH).blk; have hblk := (hH).blk; have hfree := (hH).free; have hlt := (hH).lt; have hne1 : ¬ b = (w).heap.size := (by omega); have hne2 : ¬ (w).heap.size = b := (by omega)
 have HT := Lib.hid (fun W (g : Grow w W) => zj2 E.now V W (hr.host.rep.grow g) p (by omega) (by have := hS.list p (by omega); omega))
 have hw0 : wrap64 (0 + (p : Int)) = (p : Int) := by unfold wrap64; omega
 clear hr ho K he e1 GL hzone hS
 by_cases h : E.now.list p = []
 · rw [if_pos h]
   rw [if_pos h, decide_eq_false (by rw [h]; simp)] at HT
   clear h
   go_enter Tryz.func74, Tryz.ntmps74
   go_wp2_with (first | (go_at_call 101; refine (HP.out _ grI).mono ?_; rintro e' w' ⟨rfl, nx, rfl⟩) | (go_at_call 104; refine (HT.out _ grI).mono ?_; rintro e' w' ⟨rfl, nx, rfl⟩) | (go_at_call 103; refine (HS.out _ grI).mono ?_; rintro e' w2 ⟨rfl, hE⟩; have HE := Lib.hid hE; clear hE))
   first | go_end0 | refine bodyPost_ret (results_none rfl _ _ _) rfl ?_
   exact ⟨rfl, EPost.low grI HE.out⟩
 · rw [if_neg h]
   rw [if_neg h, decide_eq_true h] at HT
   clear h
   generalize gt (E.now.list p) ((E.now.list p).length - 1) = id at *
   go_enter Tryz.func74, Tryz.ntmps74
   go_wp2_with (first | (go_at_call 101; refine (HP.out _ grI).mono ?_; rintro e' w' ⟨rfl, nx, rfl⟩) | (go_at_call 104; refine (HT.out _ grI).mono ?_; rintro e' w' ⟨rfl, nx, rfl⟩) | (go_at_call 85; refine (HU.out _ grI _).mono ?_; rintro e' w2 ⟨rfl, hE⟩; have HE := Lib.hid hE; clear hE))
   first | go_end0 | refine bodyPost_ret (results_none rfl _ _ _) rfl ?_
   exact ⟨rfl, EPost.low grI HE.out⟩
theorem zv2 (w : World) (b : Nat) (own : Nat → Prop) (E : Em) (R : Emt w b own E) (he : E.err = 0) (n : Nat) (K : EmOk E n) (hn : n + 20 ≤ 1000000) (GL : GlobE w own) (hzone : ∀ i, i < E.now.objs.length → 0 ≤ gt (rowAt E.now.objs i) 3 ∧ gt (rowAt E.now.objs i) 3 < 11) (p : Int) :
 Calls Tryz.prog 74 #[.pointer (some ⟨b, 0, none⟩), .int .i64 p] w fun r w' => r = .returned (.tuple #[]) ∧ EPost w b own (E.draw p) w' := by
 by_cases hp : p = 0 ∨ p = 1
 · obtain ⟨q, rfl⟩ := Int.eq_ofNat_of_zero_le (show 0 ≤ p by omega)
   exact zsa w b own E R he n K hn GL hzone q (by omega)
 · exact z6w w b own E R he p hp
end Go.Proofs.YthfalocligkamaaGreatDoor
