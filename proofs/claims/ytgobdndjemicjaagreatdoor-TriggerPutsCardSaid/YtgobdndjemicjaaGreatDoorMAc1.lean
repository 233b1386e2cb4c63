/- The walks of an emitter's Make, Mana, Life, Pick, Draw, Taken where it has no error. -/
import Derived.Test.YtgobdndjemicjaaGreatDoorMEmPl
import Derived.Test.YtgobdndjemicjaaGreatDoorMEm9
import Derived.Test.YtgobdndjemicjaaGreatDoorMEmNew
import Derived.Test.YtgobdndjemicjaaGreatDoorMIs19
import Derived.Test.YtgobdndjemicjaaGreatDoorMEv2
namespace Go.Proofs.YtgobdndjemicjaaGreatDoor
open Go Go.RowKit Go.Shelf
def Em.make (E : Em) (c o k : Int) : Em := if E.err ≠ 0 then E else E.do1 [0, c, o, k, 0, 0]
def Em.made (E : Em) (c o k : Int) : Int := if E.err ≠ 0 then 0 else if (E.do1 [0, c, o, k, 0, 0]).err ≠ 0 then 0 else E.now.objs.length
@[go_sem] theorem zvu (w : World) (a b c : Int) : (za2 122 #[(0, .int .i64 0), (1, .int .i64 a), (2, .int .i64 b), (3, .int .i64 c)]).run Tryz.prog w = .ok (.value (.agg (cellsOf [0, a, b, c, 0, 0]))) w := by kernel_rfl
set_option maxRecDepth 100000 in
set_option maxHeartbeats 4000000 in
theorem ztj (w : World) (b : Nat) (own : Nat → Prop) (E : Em) (R : Emt w b own E) (he : E.err = 0) (n : Nat) (K : EmOk E n) (hn : n + 1 ≤ 1000000) (c o k : Int) :
 Calls Tryz.prog 71 #[.pointer (some ⟨b, 0, none⟩), .int .i64 c, .int .i64 o, .int .i64 k] w fun r w' => r = .returned (.int .i64 (E.made c o k)) ∧ EPost w b own (E.make c o k) w' := by
 have hown := R.lt
 have HEr := Lib.hid (fun W (g : Grow w W) => zbd W b own E (R.grow g))
 have HR0 := Lib.hid R
 have e1 : E.make c o k = E.do1 [0, c, o, k, 0, 0] := by unfold Em.make; rw [if_neg (by rw [he]; simp)]
 have e2 : E.made c o k = if (E.do1 [0, c, o, k, 0, 0]).err ≠ 0 then 0 else (E.now.objs.length : Int) := by unfold Em.made; rw [if_neg (by rw [he]; simp)]
 rw [e1, e2]
 rw [he, zbf] at HEr
 have HD := Lib.hid (fun W (g : Grow w W) (q : Nat) (h : W.blk q = cellsOf [0, c, o, k, 0, 0]) (hq : ¬ own q) => ziq W b own E (R.grow g) n K (.mk q 0 1 1) [[0, c, o, k, 0, 0]] ((zdc W q 6 _ rfl h).rows (by omega) (zk3 (fun r hr => by rw [List.mem_singleton] at hr; subst hr; rfl))) (fun _ => hq) (by simp; omega))
 have HL := Lib.hid hown
 obtain ⟨V, sd, se, sp, hr, ho⟩ := R
 have hH := hr.host
 have hcell := zae (hH).free (hH).blk; have hfz := zag (hH).free; have hset := zah (hH).free (hH).blk; have hblk := (hH).blk; have hfree := (hH).free; have hlt := (hH).lt; have hne1 : ¬ b = (w).heap.size := (by omega); have hne2 : ¬ (w).heap.size = b := (by omega)
 have hN := hr.host.rep.objs.len
 clear hr ho hH hblk K hown he e1 e2
 by_cases h2 : (E.do1 [0, c, o, k, 0, 0]).err = 0
 · rw [if_neg (by rw [h2]; simp)]
   have HH2 := Lib.hid h2
   clear h2
   go_enter Tryz.func71, Tryz.ntmps71
   go_wp2_with (go_at_call 17; refine (HEr.out _ grI).mono ?_; rintro e' w' ⟨rfl, nx, rfl⟩)
   refine (HD.out _ grI _ (by go_simp) (fun hq => by have := HL.out _ hq; (try simp only [zab, zaa] at this); omega)).mono ?_
   rintro e' w2 ⟨rfl, hE⟩
   obtain ⟨own2, T2⟩ := (Turn.first HR0.out).step grI hE
   have HE2 := Lib.hid (fun W (g : Grow w2 W) => zbd W b own2 _ (T2.em.grow g))
   have HT := Lib.hid T2
   clear hE T2 HD HEr
   change Hid (∀ W, Grow w2 W → Calls Tryz.prog 17 #[.pointer (some ⟨b, 0, none⟩)] W fun e w' => e = .returned (errV (E.do1 [0, c, o, k, 0, 0]).err) ∧ Grow W w') at HE2
   change Hid (Turn w b own (E.do1 [0, c, o, k, 0, 0]) w2 own2) at HT
   rw [HH2.out, zbf] at HE2
   go_wp2_with (go_at_call 17; refine (HE2.out _ grI).mono ?_; rintro e' w' ⟨rfl, nx, rfl⟩)
   go_ret
   exact ⟨rfl, (HT.out.post (Grow.refl _)).more grI⟩
 · rw [if_pos h2]
   have HH2 := Lib.hid h2
   clear h2
   go_enter Tryz.func71, Tryz.ntmps71
   go_wp2_with (go_at_call 17; refine (HEr.out _ grI).mono ?_; rintro e' w' ⟨rfl, nx, rfl⟩)
   refine (HD.out _ grI _ (by go_simp) (fun hq => by have := HL.out _ hq; (try simp only [zab, zaa] at this); omega)).mono ?_
   rintro e' w2 ⟨rfl, hE⟩
   obtain ⟨own2, T2⟩ := (Turn.first HR0.out).step grI hE
   have HE2 := Lib.hid (fun W (g : Grow w2 W) => zbd W b own2 _ (T2.em.grow g))
   have HT := Lib.hid T2
   clear hE T2 HD HEr
   change Hid (∀ W, Grow w2 W → Calls Tryz.prog 17 #[.pointer (some ⟨b, 0, none⟩)] W fun e w' => e = .returned (errV (E.do1 [0, c, o, k, 0, 0]).err) ∧ Grow W w') at HE2
   change Hid (Turn w b own (E.do1 [0, c, o, k, 0, 0]) w2 own2) at HT
   rw [zat HH2.out] at HE2
   go_wp2_with (go_at_call 17; refine (HE2.out _ grI).mono ?_; rintro e' w' ⟨rfl, nx, rfl⟩)
   go_ret
   exact ⟨rfl, (HT.out.post (Grow.refl _)).more grI⟩
theorem EmOk.make {E : Em} {n : Nat} (h : EmOk E n) (c o k : Int) : EmOk (E.make c o k) (n + 1) := by
 unfold Em.make
 split
 · exact h.mono (Nat.le_succ n)
 · exact h.do1 _
def yat (S : St) : Prop := ∀ q, q < 18 → -1073741824 ≤ S.num q ∧ S.num q ≤ 1073741824
end Go.Proofs.YtgobdndjemicjaaGreatDoor
namespace Go.Proofs.YtgobdndjemicjaaGreatDoor
open Go Go.RowKit Go.Shelf
def Em.pick (E : Em) (n : Int) : Em := if E.err ≠ 0 then E else (E.fail (z8u E.draws (E.now.num 23) n).2.2).setGame 5 (z8u E.draws (E.now.num 23) n).2.1
theorem EmOk.pick {E : Em} {n : Nat} (h : EmOk E n) (k : Int) : EmOk (E.pick k) (n + 1) := by
 unfold Em.pick
 split
 · exact h.mono (Nat.le_succ n)
 · exact (h.fail _).setGame _ _
def Em.taken (E : Em) : Em := { E with pend := [] }
set_option maxRecDepth 100000 in
set_option maxHeartbeats 2000000 in
theorem znw (w : World) (b : Nat) (own : Nat → Prop) (E : Em) (R : Emt w b own E) (he : E.err = 0) (hl : E.pend.length ≤ 1048576) :
 Calls Tryz.prog 21 #[.pointer (some ⟨b, 0, none⟩)] w fun e w' => ∃ s : Sl, e = .returned s.val ∧ Own w' s 99 3 w.heap.size (zci E.pend) ∧ s.n = E.pend.length ∧ Grow w w' := by
 have HE := Lib.hid (fun W (g : Grow w W) => zbd W b own E (R.grow g))
 obtain ⟨V, sd, se, sp, hr, ho⟩ := R
 have hc : w.cell? ⟨b, 39, none⟩ = some sp.val := (zae hr.host.free hr.host.blk 39).trans (zn6 _ _ _ _ _ _)
 have hlt := hr.host.lt
 have hwid := hr.pend.wid
 have HC := Lib.hid (fun W (g : Grow w W) => zja W sp E.pend (hr.pend.grow g) hl)
 clear hr ho
 rw [he, zbf] at HE
 have HW := Lib.hid hwid
 clear he hl hwid
 go_enter Tryz.func21, Tryz.ntmps21
 go_wp2_with (first | (go_at_call 17; refine (HE.out _ grI).mono ?_; rintro e' w' ⟨rfl, nx, rfl⟩) | (go_at_call 54; refine (HC.out _ grI).mono ?_; rintro e' w' ⟨s, rfl, hO, _, nx, rfl⟩; have hn := (hO.rows (by omega) HW.out).len; (try simp only [zad] at hO); (try simp only [zac] at hO); have HO := Lib.hid hO; have HN := Lib.hid hn; clear hO hn))
 go_ret
 refine ⟨s, rfl, ?_, HN.out, grI⟩
 have h1 := HO.out
 simp only [zab] at h1
 exact h1.mono (by omega)
set_option maxRecDepth 100000 in
set_option maxHeartbeats 2000000 in
theorem zpw (w : World) (b : Nat) (own : Nat → Prop) (E : Em) (R : Emt w b own E) (he : E.err = 0) (hl : E.pend.length ≤ 1048576) :
 Calls Tryz.prog 78 #[.pointer (some ⟨b, 0, none⟩)] w fun e w' => ∃ s : Sl, e = .returned s.val ∧ Own w' s 99 3 w.heap.size (zci E.pend) ∧ s.n = E.pend.length ∧ EPost w b own E.taken w' := by
 have HP := Lib.hid (fun W (g : Grow w W) => znw W b own E (R.grow g) he hl)
 obtain ⟨V, sd, se, sp, hr, ho⟩ := R
 have hH := hr.host
 have hcell := zae (hH).free (hH).blk; have hfz := zag (hH).free; have hset := zah (hH).free (hH).blk; have hblk := (hH).blk; have hfree := (hH).free; have hlt := (hH).lt; have hne1 : ¬ b = (w).heap.size := (by omega); have hne2 : ¬ (w).heap.size = b := (by omega)
 have hs := hset 39 Sl.nil.val
 rw [zp5, show Sl.nil.val = Value.slice none 0 0 from rfl] at hs
 have hc : w.cell? ⟨b, 39, none⟩ = some sp.val := (zae hr.host.free hr.host.blk 39).trans (zn6 _ _ _ _ _ _)
 have HR := Lib.hid hr
 have HO := Lib.hid ho
 clear hr ho hH hblk hset hcell he
 go_enter Tryz.func78, Tryz.ntmps78
 go_wp2_with (go_at_call 21; refine (HP.out _ grI).mono ?_; rintro e' w' ⟨s, rfl, hO, hn, nx, rfl⟩; (try simp only [zad] at hO); (try simp only [zac] at hO); have HOw := Lib.hid hO; have HN := Lib.hid hn; clear hO hn)
 go_ret
 refine ⟨s, rfl, HOw.out.apart (b := b) (by repeat (first | exact Off.setRow2 _ _ _ _ | exact Off.setRow _ _ _ | refine Off.plus ?_ _ | refine Off.alloc ?_ _)) (fun b' hb' e => ?_), HN.out, HR.out.noPend HO.out grI⟩
 have := (HOw.out.lt b' hb').1
 omega
end Go.Proofs.YtgobdndjemicjaaGreatDoor
