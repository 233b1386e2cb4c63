/- The walk of Is: an emitter and the document's tell the same. TriggerPuts, plain; an ability of a nil emitter. TriggerPuts' argument opened; the two emitters at its head; an ability of a nil emitter. The walk of the law TriggerPuts. The document's table, whole. The law TriggerPuts holds for any input -/
import Derived.Test.YtgobdndjemicjaaGreatDoorMIs19
import Derived.Test.YtgobdndjemicjaaGreatDoorMF1
import Derived.Test.YtgobdndjemicjaaGreatDoorMG12
import Derived.Test.YtgobdndjemicjaaGreatDoorMEmNew
import Derived.Test.YtgobdndjemicjaaGreatDoorMLawS
import Derived.Test.YtgobdndjemicjaaGreatDoorMTrG
import Derived.Deep.RegionHeld3
import Derived.Test.YtgobdndjemicjaaGreatDoorMG4
import Derived.Test.YtgobdndjemicjaaGreatDoorMRef08f0
import Derived.Test.YtgobdndjemicjaaGreatDoorMRef08f1
import Derived.Test.YtgobdndjemicjaaGreatDoorMRef08f2
import Derived.Test.YtgobdndjemicjaaGreatDoorMRef08f3
import Derived.Test.YtgobdndjemicjaaGreatDoorMRef08f4
import Derived.Test.YtgobdndjemicjaaGreatDoorMRef08h
import Derived.Test.YtgobdndjemicjaaGreatDoorMAlive21
import Derived.Test.YtgobdndjemicjaaGreatDoorCards
import Derived.Test.YtgobdndjemicjaaGreatDoorTie
namespace Go.Proofs.YtgobdndjemicjaaGreatDoor
open Go Go.RowKit Go.Shelf
@[go_sem] theorem z0g (w : World) (s : Sl) (q : IntKind) (i : Int) (h0 : 0 ≤ i) (h1 : i < s.n) : (Instr.indexAt 100 s.val (.int q i)).run Tryz.prog w = .ok (.pointer (some ⟨s.b, s.o + i.toNat * 3, none⟩)) w :=
 zbi w Tryz.underlying100 (fun w => (by kernel_rfl : (sizeOf 110).run Tryz.prog w = .ok 3 w)) s q i h0 h1
set_option maxRecDepth 100000 in
set_option maxHeartbeats 4000000 in
theorem z3d (w : World) (b bg : Nat) (own og : Nat → Prop) (E G : Em) (R : Emt w b own E) (RG : Gmt w bg og G) (he : E.err ≠ 0) (hg : G.err = E.err) (hS : Small E.now) (hl : E.evs.length ≤ 65536) (hp : E.pend.length ≤ 65536) :
 Calls Tryz.prog 24 #[.pointer (some ⟨b, 0, none⟩), .pointer (some ⟨bg, 0, none⟩)] w fun e w' => e = .returned (.bool true) ∧ Grow w w' := by
 have HE := Lib.hid (fun W (g : Grow w W) => zbd W b own E (R.grow g))
 have HNu := Lib.hid (fun W => zxx E.err W)
 have HEv := Lib.hid (fun W (g : Grow w W) => by have := zkf W b own E (R.grow g) (by omega); rw [if_pos he] at this; exact this)
 have HPe := Lib.hid (fun W (g : Grow w W) => by have := zjd W b own E (R.grow g) (by omega); rw [if_pos he] at this; exact this)
 have hst : E.state = St0 := by unfold Em.state; rw [if_pos he]
 have HSt := Lib.hid (fun W (g : Grow w W) => by have := zir W b own E (R.grow g) hS; rw [hst] at this; exact this)
 have HSa := Lib.hid (fun W (V' : SV) (r : RepSt W V' St0) => zkz St0 V' SV.zero W r (zg0 W) ⟨by simp [St0], fun _ _ => by simp [St0]⟩)
 have h0 : (fun (_ : Nat) => (0 : Int)) = St0.num := rfl
 obtain ⟨V, sd, se, sp, hr, ho⟩ := RG
 obtain ⟨_, _, _, h40⟩ := hr.cells
 have hlt := hr.host.lt
 rw [hg] at h40
 have hb : (E.err != 0) = true := by simpa using he
 generalize E.err = n at *
 clear hr ho R hst he hS hg
 go_enter Tryz.func24, Tryz.ntmps24
 go_wp2_with fail
 refine zaf (by kernel_rfl) (by kernel_rfl) ?_; (repeat (go_big_quiet_step ( (first | (go_at_call 17; first | refine Calls.grow2 (HE.out _ grI) | refine Calls.grow (HE.out _ grI)) | (go_at_call 64; first | refine Calls.grow2 ((HNu.out _).mono fun _ _ h => ⟨h.1, h.2 ▸ Grow.refl _⟩) | refine Calls.grow ((HNu.out _).mono fun _ _ h => ⟨h.1, h.2 ▸ Grow.refl _⟩))) ))); refine wpQuiet_nil ?_; rintro _ ⟨nx, rfl⟩
 go_wp2_with (first | (go_at_call 65; refine (HEv.out _ grI).mono ?_; rintro e' w' ⟨s1, rfl, hR1, n1, rfl⟩; have hn1 := hR1.len; clear hR1) | (go_at_call 21; refine (HPe.out _ grI).mono ?_; rintro e' w' ⟨s2, rfl, hR2, n2, rfl⟩; have hn2 := hR2.len; clear hR2) | (go_at_call 18; refine (HSt.out _ grI).mono ?_; rintro e' w' ⟨V', rfl, hR', _, n3, rfl⟩; (try simp only [zad] at hR'); (try simp only [zac] at hR'); have HR' := Lib.hid hR'; clear hR') | (go_at_call 66; refine (HSa.out _ V' (HR'.out.grow grI)).mono ?_; rintro e' w' ⟨rfl, n4, rfl⟩))
 go_ret
 exact ⟨rfl, grI⟩
set_option maxRecDepth 100000 in
set_option maxHeartbeats 8000000 in
theorem zxp (w : World) (b bg : Nat) (own og : Nat → Prop) (E : Em) (R : Emt w b own E) (RG : Gmt w bg og E) (he : E.err = 0) (hS : Small E.now) (hl : E.evs.length ≤ 65536) (hp : E.pend.length ≤ 65536) :
 Calls Tryz.prog 24 #[.pointer (some ⟨b, 0, none⟩), .pointer (some ⟨bg, 0, none⟩)] w fun e w' => e = .returned (.bool true) ∧ Grow w w' := by
 have hne : ¬ E.err ≠ 0 := by rw [he]; simp
 have HE := Lib.hid (fun W (g : Grow w W) => by have := zbd W b own E (R.grow g); rw [he] at this; exact this)
 have HNu := Lib.hid (fun W => zxx 0 W)
 have HEv := Lib.hid (fun W (g : Grow w W) => by have := zkf W b own E (R.grow g) (by omega); rw [if_neg hne] at this; exact this)
 have HPe := Lib.hid (fun W (g : Grow w W) => by have := zjd W b own E (R.grow g) (by omega); rw [if_neg hne] at this; exact this)
 have hst : E.state = E.now := by unfold Em.state; rw [if_neg hne]
 have HSt := Lib.hid (fun W (g : Grow w W) => by have := zir W b own E (R.grow g) hS; rw [hst] at this; exact this)
 obtain ⟨V, sd, se, sp, hr, ho⟩ := RG
 have HSa := Lib.hid (fun W (g : Grow w W) (V' : SV) (r : RepSt W V' E.now) => zkz E.now V' V W r (hr.host.rep.grow g) hS)
 have HEs := Lib.hid (fun W (g : Grow w W) (s : Sl) (r : Rows' W s 6 E.evs) => zpz W s se E.evs r (hr.evs.grow g) (by omega))
 have HPr := Lib.hid hr.pend
 obtain ⟨_, h38, h39, h40⟩ := hr.cells
 have hbl := hr.host.blk
 have hlt := hr.host.lt
 have hpn := hr.pend.len
 have hen := hr.evs.len
 rw [he] at h40
 clear hr ho R hst hS hne
 rw [zbf] at HE HNu
 go_enter Tryz.func24, Tryz.ntmps24
 go_wp2_with fail
 refine zaf (by kernel_rfl) (by kernel_rfl) ?_; (repeat (go_big_quiet_step ( (first | (go_at_call 17; first | refine Calls.grow2 (HE.out _ grI) | refine Calls.grow (HE.out _ grI)) | (go_at_call 64; first | refine Calls.grow2 ((HNu.out _).mono fun _ _ h => ⟨h.1, h.2 ▸ Grow.refl _⟩) | refine Calls.grow ((HNu.out _).mono fun _ _ h => ⟨h.1, h.2 ▸ Grow.refl _⟩))) ))); refine wpQuiet_nil ?_; rintro _ ⟨nx, rfl⟩
 go_wp2_with (go_at_call 21; refine (HPe.out _ grI).mono ?_; rintro e' w' ⟨s2, rfl, hR2, n2, rfl⟩; (try simp only [zad] at hR2); (try simp only [zac] at hR2); have hn2 := hR2.len; have HR2 := Lib.hid hR2; clear hR2)
 go_region_held3 (fun W => W.blk bg = hoA V E.now.num (gR sd se sp E.err) ∧ W.cell? ⟨bg, 38, none⟩ = some se.val ∧ W.cell? ⟨bg, 39, none⟩ = some sp.val) (simp [go_sem, *]) (first | (go_at_call 65; refine (HEv.out _ grI).mono ?_; rintro e' w' ⟨s1, rfl, hR1, n1, rfl⟩; (try simp only [zad] at hR1); (try simp only [zac] at hR1); have hn1 := hR1.len; have HR1 := Lib.hid hR1; clear hR1) | (go_at_call 18; refine (HSt.out _ grI).mono ?_; rintro e' w' ⟨V', rfl, hR', _, n3, rfl⟩; (try simp only [zad] at hR'); (try simp only [zac] at hR'); have HR' := Lib.hid hR'; clear hR') | (go_at_call 67; refine (HEs.out _ grI s1 (HR1.out.grow grI)).mono ?_; rintro e' w' ⟨rfl, n4, rfl⟩) | (go_at_call 66; refine (HSa.out _ grI V' (HR'.out.grow grI)).mono ?_; rintro e' w' ⟨rfl, n5, rfl⟩))
 all_goals
  obtain ⟨W2, hW2⟩ : ∃ W2, W2 = w.plus (nx.and n2) := ⟨_, rfl⟩
  have r2 : Rows' W2 s2 3 E.pend := by rw [hW2]; exact HR2.out
  have rp : Rows' W2 sp 3 E.pend := by rw [hW2]; exact HPr.out.grow grI
  have c39 : W2.cell? ⟨bg, 39, none⟩ = some sp.val := by rw [hW2, zc4 _ _ _ _ hlt]; exact h39
  have lt2 : bg < W2.heap.size := by rw [hW2, zab]; omega
  have gw : Grow w W2 := by rw [hW2]; exact grI
  have gl : Grow W2 (w.plus (((((nx.and n2).and n1.late).and n4).and n3).and n5)) := by rw [hW2]; exact grI
  have HW := Lib.hid (And.intro r2 (And.intro rp (And.intro gw gl)))
  clear hW2 r2 rp gw gl HR2 HPr HR1 HR'
  go_wp2_with fail
  go_loopw [66] (fun i wr => ∃ k : Nat, k ≤ E.pend.length ∧ i = .int .i64 k ∧ Grow W2 wr) (fun i _ => E.pend.length - (intOf i).toNat)
  case atStart => exact ⟨0, by omega, rfl, HW.out.2.2.2⟩
  case round =>
   obtain ⟨k, hk, rfl, x, rfl⟩ := hrel
   by_cases hlt2 : k < E.pend.length
   · obtain ⟨qb, qw, qsz, qsub, qc⟩ := HW.out.1.at (by omega) k hlt2
     obtain ⟨pb, pw, psz, psub, pc⟩ := HW.out.2.1.at (by omega) k hlt2
     clear qc pc
     generalize rowAt E.pend k = row at *
     go_wp2_with fail
     refine zaf (by kernel_rfl) (by kernel_rfl) ?_; (repeat (go_big_quiet_step ( fail ))); refine wpQuiet_nil ?_; rintro _ ⟨nx, rfl⟩
     go_wp2_with fail
     go_roundw
     case rel => exact ⟨k + 1, by omega, by go_num, grI⟩
     case measure => simp [intOf]; omega
   · go_wp2_with fail
     go_ret
     exact ⟨rfl, HW.out.2.2.1.trans grI⟩
end Go.Proofs.YtgobdndjemicjaaGreatDoor
namespace Go.Proofs.YtgobdndjemicjaaGreatDoor
open Go Go.RowKit Go.Shelf
theorem zrv {S : St} (h : checkN S = 0) (hw : zfu S) : Rg 0 [] ⟨S, [], [], [], 0⟩ := ⟨rfl, (zdy S).1 h, hw, Nat.zero_le _, Nat.le_refl _, rfl⟩
theorem yc3 (S : St) (hw : zfu S) : Og 0 [] (Em.new S []) := by
 by_cases h : checkN S = 0
 · rw [zru h]; exact Or.inr (zrv h hw)
 · rw [zep]; exact Or.inl h
theorem zsk {S : St} (hS : SmallN S 50) (hw : zfu S) (id n p : Int) : Small ((Em.new S []).abil id n p).now ∧ ((Em.new S []).abil id n p).evs.length ≤ 65536 ∧ ((Em.new S []).abil id n p).pend.length ≤ 65536 := by
 have hs : Small S := hS.small (by omega)
 by_cases h : checkN S = 0
 · rw [zru h]
   have R := zrv h hw
   rcases R.abil id n p with h1 | A
   · by_cases hh : za9 S id n = true
     · by_cases hp : p = 0 ∨ p = 1
       · exact absurd (zwc R (by simp) (by have := hS.objs; show S.objs.length < 400; omega) hh hp) h1
       · unfold Em.abil
         rw [if_neg (by simp), hh, if_neg (by simp), if_pos hp]
         exact ⟨hs, Nat.zero_le _, Nat.zero_le _⟩
     · unfold Em.abil
       rw [if_neg (by simp), if_pos (by simpa using hh)]
       exact ⟨hs, Nat.zero_le _, Nat.zero_le _⟩
   · exact ⟨A.rg.right.smallN.small (by omega), A.rg.evs, by have := A.rg.pend; omega⟩
 · rw [zep, zfd (E := ⟨S, [], [], [], checkN S⟩) h]
   exact ⟨hs, Nat.zero_le _, Nat.zero_le _⟩
theorem UpTo.all {d : List Int} {S : St} (hp : S.num 19 = 0 ∨ S.num 19 = 1) : ∀ (l : LR) {E : Em} {k : Nat}, UpTo d S E k → (∀ r, r ∈ l → ∃ a b : Int, r = [a, b, S.num 19] ∧ za9 S a b = true) → S.objs.length + k + l.length < 400 → UpTo d S (E.abils l) (k + l.length)
 | [], _, _, h, _, _ => h
 | r :: l, E, k, h, hl, hn => by
   obtain ⟨a, b, rfl, hh⟩ := hl r (by simp)
   have h1 := h.step (by simp at hn; omega) hh hp
   have h2 := UpTo.all hp l h1 (fun r hr => hl r (by simp [hr])) (by simp at hn; omega)
   have e : k + ([a, b, S.num 19] :: l).length = k + 1 + l.length := by simp; omega
   rw [e]; exact h2
theorem z5j {S : St} (hR : Right S) : ∀ r, r ∈ znf S → ∃ a b : Int, r = [a, b, S.num 19] ∧ za9 S a b = true := by
 intro r hr
 obtain ⟨id, hid, hr⟩ := List.mem_flatMap.1 hr
 split at hr
 · obtain ⟨i, hi, rfl⟩ := List.mem_map.1 hr
   refine ⟨id, i, rfl, ?_⟩
   obtain ⟨o1, o2, _, _⟩ := hR.zon.ok 8 (by decide) id hid
   obtain ⟨d, rfl⟩ := Int.eq_ofNat_of_zero_le o1
   obtain ⟨c0, c1⟩ := hR.card (show d < S.objs.length by omega)
   rw [Int.toNat_natCast] at hi
   unfold usesN zc9 at hi
   obtain ⟨j, hj, rfl⟩ := List.mem_map.1 hi
   have hj2 := List.mem_range.1 (List.mem_filter.1 hj).1
   unfold za9
   rw [Int.toNat_natCast, decide_eq_true (show (0 : Int) ≤ (d : Int) ∧ (d : Int) < S.objs.length from ⟨o1, o2⟩), decide_eq_true (show 0 ≤ gt (rowAt S.objs d) 0 ∧ gt (rowAt S.objs d) 0 < 120 by omega), decide_eq_true (show (0 : Int) ≤ (j : Int) ∧ (j : Int) < (cardN (gt (rowAt S.objs d) 0).toNat).abs.length by omega)]; rfl
 · cases hr
theorem zzu {S : St} (h : checkN S = 0) (hS : SmallN S 50) (hw : zfu S) : UpTo [] S ((⟨S, [], [], [], 0⟩ : Em).abils (znf S)) (znf S).length := by
 have hR := (zdy S).1 h
 have hp : S.num 19 = 0 ∨ S.num 19 = 1 := by
  have := hR.gm 1 (by omega)
  simp [gmBounds, gt] at this
  omega
 have h0 : UpTo [] S ⟨S, [], [], [], 0⟩ 0 := ⟨zrv h hw, Nat.le_refl _, rfl, rfl, fun _ _ => rfl⟩
 have hl := zpd S (S.list 8).length
 rw [zim] at hl
 have h8 := hS.list 8 (by omega)
 have ho := hS.objs
 have := UpTo.all hp (znf S) h0 (z5j hR) (by omega)
 rw [Nat.zero_add] at this
 exact this
theorem z5g {S : St} (hS : SmallN S 50) (hw : zfu S) : Small (Em.new S []).upkeep.now ∧ (Em.new S []).upkeep.evs.length ≤ 65536 ∧ (Em.new S []).upkeep.pend.length ≤ 65536 := by
 by_cases h : checkN S = 0
 · rw [zru h]
   have U := zzu h hS hw
   have e : (⟨S, [], [], [], 0⟩ : Em).upkeep = (⟨S, [], [], [], 0⟩ : Em).abils (znf S) := by unfold Em.upkeep; rw [if_neg (by simp)]
   rw [e]
   exact ⟨U.rg.right.smallN.small (by omega), U.rg.evs, by have := U.rg.pend; omega⟩
 · have e : (Em.new S []).upkeep = Em.new S [] := by unfold Em.upkeep; rw [zep, ze3 (E := ⟨S, [], [], [], checkN S⟩) h]
   rw [e, zep]
   exact ⟨hS.small (by omega), Nat.zero_le _, Nat.zero_le _⟩
theorem zp1 (T8 : zem) (w : World) (b : Nat) (own : Nat → Prop) (S : St) (hS : SmallN S 50) (hw : zfu S) (R : Gmt w b own (Em.new S [])) :
 Calls Tryz.prog 34 #[.pointer (some ⟨b, 0, none⟩)] w fun r w' => r = .returned (.int .i64 ((Em.new S []).abilsR (znf (Em.new S []).state))) ∧ DPost w b own (Em.new S []).upkeep w' := by
 by_cases h : checkN S = 0
 · rw [zru h] at R ⊢
   have U := zzu h hS hw
   have e : (⟨S, [], [], [], 0⟩ : Em).upkeep = (⟨S, [], [], [], 0⟩ : Em).abils (znf S) := by unfold Em.upkeep; rw [if_neg (by simp)]
   have e1 : (⟨S, [], [], [], 0⟩ : Em).state = S := by unfold Em.state; rw [if_neg (by simp)]
   have e2 : (⟨S, [], [], [], 0⟩ : Em).abilsR (znf S) = (znf S).length := by unfold Em.abilsR; rw [if_neg (by rw [U.rg.err]; simp)]
   rw [e, e1, e2]
   exact zn5 T8 w b own _ R (zrv h hw) rfl (by have := hS.objs; have := hS.list 8 (by omega); show S.objs.length + 2 * (S.list 8).length < 390; omega)
 · have e : (Em.new S []).upkeep = Em.new S [] := by unfold Em.upkeep; rw [zep, ze3 (E := ⟨S, [], [], [], checkN S⟩) h]
   have e2 : ∀ l, (Em.new S []).abilsR l = 0 := fun l => by unfold Em.abilsR; rw [zep, ze3 (E := ⟨S, [], [], [], checkN S⟩) h, if_pos h]
   rw [e, e2]
   exact (zp2 w b own _ R (by rw [zep]; exact h)).mono fun _ _ ⟨h1, h2⟩ => ⟨h1, .of_grow R h2⟩
end Go.Proofs.YtgobdndjemicjaaGreatDoor
namespace Go.Proofs.YtgobdndjemicjaaGreatDoor
open Go Go.RowKit Go.Shelf Go.ChangeShapes Go.WideShapes Go.ChangeAt
set_option maxRecDepth 100000 in
theorem z3q {W : World} {r : Reach} {b0 : Nat} {v : Value} (h : Value.okWide Tryz.prog W r b0 68 v) : ∃ a b c : Int, v = .agg (cellsOf [a, b, c]) := by
 unfold Value.okWide at h
 rw [Tryz.underlying68] at h
 obtain ⟨cs, rfl, hsz, ts, hts, _, hc⟩ := h
 have h3 : Tryz.prog.cellsOf 68 = 3 := by kernel_rfl
 rw [h3] at hsz
 have ht : Tryz.prog.cellTypes Tryz.prog.depth 68 = some [3, 3, 3] := by kernel_rfl
 obtain rfl : _ = ts := Option.some.inj (ht.symm.trans hts)
 have at' : ∀ i (hi : i < cs.size), cs.getD i undef = cs[i] := fun i hi => by simp [Array.getD, hi]
 have c : ∀ i, i < 3 → Cell.okWide Tryz.prog W r b0 3 (cs.getD i undef) := fun i hi => by
  obtain ⟨u, hu, hk⟩ := hc i cs[i] (by simp [hsz, hi])
  rw [at' i (by omega)]
  have : u = 3 := by
   have hi3 : i = 0 ∨ i = 1 ∨ i = 2 := by omega
   rcases hi3 with rfl | rfl | rfl <;> simpa using hu.symm
  subst this; exact hk
 have k := fun i hi => zrg Tryz.underlying3 (c i hi)
 refine ⟨zt1 (cs.getD 0 undef), zt1 (cs.getD 1 undef), zt1 (cs.getD 2 undef), congrArg Value.agg ?_⟩
 apply Array.ext
 · rw [hsz]; rfl
 · intro i hi _
   rw [← at' i hi]
   have hi3 : i = 0 ∨ i = 1 ∨ i = 2 := by omega
   rcases hi3 with rfl | rfl | rfl
   · exact k 0 (by omega)
   · exact k 1 (by omega)
   · exact k 2 (by omega)
set_option maxRecDepth 100000 in
set_option maxHeartbeats 4000000 in
theorem zwn (S : St) (V : SV) (w : World) (R : RepSt w V S) (hSm : Small S) (GL : Glob w) :
 Calls Tryz.prog 30 #[.agg (stA V S.num), .slice none 0 0, .slice none 0 0] w fun e w' => ∃ b own bg og, e = .returned (.tuple #[.pointer (some ⟨b, 0, none⟩), .pointer (some ⟨bg, 0, none⟩)]) ∧ (Emt w' b own (Em.new S []) ∧ Gmt w' bg og (Em.new S []) ∧ (∀ k, own k → w.heap.size ≤ k) ∧ (∀ k, og k → w.heap.size ≤ k) ∧ ∀ k, own k → ¬ og k) ∧ Grow w w' := by
 have HNew := Lib.hid (fun W (g : Grow w W) => zxu S V W (R.grow g) hSm (GL.grow g) .nil [] (Ints.nil W) (by simp))
 have HGNew := Lib.hid (fun W (g : Grow w W) => z18 S V W (R.grow g) hSm)
 have hnil : (Sl.nil).val = Value.slice none 0 0 := rfl
 rw [hnil] at HNew
 clear R hSm GL hnil
 go_enter Tryz.func30, Tryz.ntmps30
 go_wp2_with fail
 go_region_held3 (fun W => W.blk w.heap.size = stA V S.num) (simp [go_sem, *]) (first | (go_at_call 15; refine (HNew.out _ grI).mono ?_; rintro e' w' ⟨b, own, rfl, hem, hown, nN, rfl⟩; have HEM := Lib.hid hem; have HOW := Lib.hid hown; clear hem hown) | (go_at_call 22; refine (HGNew.out _ grI).mono ?_; rintro e' w' ⟨bg, og, rfl, hgm, hog, nG, rfl⟩; have HGM := Lib.hid hgm; have HOG := Lib.hid hog; clear hgm hog))
 have hem := HEM.out
 (try simp only [zad] at hem); (try simp only [zac] at hem)
 have hgm := HGM.out
 (try simp only [zad] at hgm); (try simp only [zac] at hgm)
 have hown := HOW.out
 have hog := HOG.out
 simp only [zad, zab, zaa, Ext.late, show ∀ (W : World), W.drew.heap.size = W.heap.size from fun _ => rfl] at hown hog
 have hG0 : Grow w ((w.alloc (.cells (stA V S.num) 29)).plus (nN.late.and nG)) := grI
 have hem1 : Emt ((w.alloc (.cells (stA V S.num) 29)).plus (nN.late.and nG)) b own (Em.new S []) := hem.grow grI
 have hpost : Emt ((w.alloc (.cells (stA V S.num) 29)).plus (nN.late.and nG)) b own (Em.new S []) ∧ Gmt ((w.alloc (.cells (stA V S.num) 29)).plus (nN.late.and nG)) bg og (Em.new S []) ∧ (∀ k, own k → w.heap.size ≤ k) ∧ (∀ k, og k → w.heap.size ≤ k) ∧ ∀ k, own k → ¬ og k :=
  ⟨hem1, hgm, fun k h1 => by have := hown k h1; omega, fun k h1 => by have := hog k h1; omega, fun k h1 h2 => by have := hown k h1; have := hog k h2; omega⟩
 have HP := Lib.hid hpost
 have HG := Lib.hid hG0
 clear hpost hG0 hem1 hem hgm hown hog HEM HGM HOW HOG HNew HGNew
 generalize (w.alloc (.cells (stA V S.num) 29)).plus (nN.late.and nG) = W1 at *
 go_wp2_with fail
 go_loopw [20] (fun i wr => i = .int .i64 0 ∧ Grow W1 wr) (fun _ _ => 0)
 case atStart => exact ⟨rfl, grI⟩
 case round =>
  obtain ⟨rfl, hG⟩ := hrel
  obtain ⟨z, rfl⟩ := hG
  go_wp2_with fail
  go_ret2
  obtain ⟨p1, p2, p3, p4, p5⟩ := HP.out
  exact ⟨b, own, bg, og, by first | rfl | (go_simp; done) | (go_simp; rfl), ⟨p1.grow grI, p2.grow grI, p3, p4, p5⟩, HG.out.trans grI⟩
theorem zzo (w : World) : Calls Tryz.prog 31 #[.pointer none, .int .i64 0, .int .i64 0, .int .i64 0] w fun e w' => e = .returned (.int .i64 0) ∧ Grow w w' := by
 have HSt := Lib.hid (fun W => zlo W (.pointer none) 4 (by decide) (zln W))
 have HHas := Lib.hid (fun W => by have := zii St0 SV.zero W (zg0 W) 0 0; rw [zxd] at this; exact this)
 have HF := Lib.hid (fun W v => zw4 W v)
 have HE := Lib.hid (fun W => by have := zln W W (Grow.refl _); rw [zat (show (4 : Int) ≠ 0 by decide)] at this; exact this)
 have hz : (fun _ => 0 : Nat → Int) = St0.num := rfl
 go_enter Tryz.func31, Tryz.ntmps31
 go_wp2_with (first | (go_at_call 18; refine (HSt.out _).mono ?_; rintro e' w' ⟨rfl, nx, rfl⟩) | (go_at_call 36; refine (HHas.out _).mono ?_; rintro e' w' ⟨rfl, nx, rfl⟩) | (go_at_call 48; refine (HF.out _ _).mono ?_; rintro e' w' ⟨rfl, nx, rfl⟩) | (go_at_call 17; refine (HE.out _).mono ?_; rintro e' w' ⟨rfl, nx, rfl⟩))
 go_ret
 exact ⟨rfl, grI⟩
end Go.Proofs.YtgobdndjemicjaaGreatDoor
namespace Go.Proofs.YtgobdndjemicjaaGreatDoor
open Go Go.RowKit Go.Shelf
theorem yc4 {w W Wx w2 : World} {b bg : Nat} {own og : Nat → Prop} {E0 E1 F : Em} (hm : Emt W b own E0) (hg : Gmt W bg og F) (hd : ∀ k, own k → ¬ og k) (hlo : ∀ k, own k → w.heap.size ≤ k) (gw : Grow w W) (g : Grow W Wx) (h : EPost Wx b own E1 w2) :
 ∃ own2, Emt w2 b own2 E1 ∧ Gmt w2 bg og F ∧ (∀ k, own2 k → ¬ og k) ∧ Grow w w2 ∧ Kept own W w2 := by
 obtain ⟨own2, T2⟩ := (Turn.first hm).step g h
 refine ⟨own2, T2.em, hg.kept T2.kept (fun k h1 h2 => hd k h2 h1), fun k h1 h2 => ?_, T2.kept.grow_of gw hlo, T2.kept⟩
 rcases T2.own k h1 with h3 | h3
 · exact hd k h3 h2
 · have := hg.lt k h2; omega
theorem yc5 {w W Wx w2 : World} {b bg : Nat} {own og : Nat → Prop} {E E0 E1 : Em} (hm : Emt W b own E) (hg : Gmt W bg og E0) (hd : ∀ k, own k → ¬ og k) (hlo : ∀ k, og k → w.heap.size ≤ k) (gw : Grow w W) (g : Grow W Wx) (h : DPost Wx bg og E1 w2) :
 ∃ og2, Emt w2 b own E ∧ Gmt w2 bg og2 E1 ∧ Grow w w2 ∧ Kept og W w2 := by
 obtain ⟨og2, T2⟩ := (TurnG.first hg).step g h
 exact ⟨og2, hm.kept T2.kept (fun k h1 h2 => hd k h1 h2), T2.em, T2.kept.grow_of gw hlo, T2.kept⟩
theorem zxq (E : Em) (h : Small E.now ∧ E.evs.length ≤ 65536 ∧ E.pend.length ≤ 65536) (w : World) (b bg : Nat) (own og : Nat → Prop) (R : Emt w b own E) (RG : Gmt w bg og E) :
 Calls Tryz.prog 24 #[.pointer (some ⟨b, 0, none⟩), .pointer (some ⟨bg, 0, none⟩)] w fun e w' => e = .returned (.bool true) ∧ Grow w w' := by
 by_cases he : E.err = 0
 · exact zxp w b bg own og E R RG he h.1 h.2.1 h.2.2
 · exact z3d w b bg own og E E R RG he rfl h.1 h.2.1 h.2.2
set_option maxRecDepth 100000 in
set_option maxHeartbeats 8000000 in
theorem z3u (T8 : zem) (S : St) (V : SV) (w : World) (R : RepSt w V S) (GL : GlobE w (fun k => w.heap.size ≤ k)) (HA : ∀ W, Grow w W → Calls Tryz.prog 8 #[] W fun e w' => e = .returned (.bool true) ∧ Grow W w') (a n p : Int) :
 Calls Tryz.prog 7 #[.agg (stA V S.num), .agg (cellsOf [a, n, p])] w fun e w' => e = .returned (.bool true) ∧ Grow w w' := by
 have HAl := Lib.hid HA
 have HLo := Lib.hid (fun W (g : Grow w W) => z3h S V 40 (by omega) W (R.grow g))
 cases hl : zqf S 40 with
 | true =>
   rw [hl] at HLo
   clear R GL hl HA T8
   go_enter Tryz.func7, Tryz.ntmps7
   go_wp2_with (first | (go_at_call 8; refine (HAl.out _ grI).mono ?_; rintro e' w' ⟨rfl, nx, rfl⟩) | (go_at_call 9; refine (HLo.out _ grI).mono ?_; rintro e' w' ⟨rfl, nx, rfl⟩))
   go_ret
   exact ⟨rfl, grI⟩
 | false =>
 rw [hl] at HLo
 have hsm : SmallN S 50 := ztw 40 hl
 have hSm : Small S := hsm.small (by omega)
 have hw : zfu S := R.objs.wid
 have hOg := yc3 S hw
 have HBe := Lib.hid (fun W (g : Grow w W) => zwn S V W (R.grow g) hSm (GL.base.grow g))
 have hg0 : ∀ own W, Grow w W → (∀ k, own k → w.heap.size ≤ k) → GlobE W own := fun own W g h => GL.kept (own' := own) (g.kept _) (fun j hj => .inl (h j hj))
 have HAb := Lib.hid (fun W b own (r : Emt W b own (Em.new S [])) (gl : GlobE W own) => zpb W b own _ r hOg (by omega) (by simp) gl a n p)
 have HUp := Lib.hid (fun W b own (r : Emt W b own (Em.new S [])) (gl : GlobE W own) => zvj W b own _ r hOg (by omega) (by simp) gl)
 have HGAb := Lib.hid (fun W b own (r : Gmt W b own (Em.new S [])) => zn4 T8 W b own _ r hOg (by omega) (fun _ => by rw [zep]; simp) (fun _ => by rw [zep]; have := hsm.objs; show S.objs.length < 400; omega) a n p)
 have HGUp := Lib.hid (fun W b own (r : Gmt W b own (Em.new S [])) => zp1 T8 W b own S hsm hw r)
 have HIs1 := Lib.hid (zxq _ (zsk hsm hw a n p))
 have HIs2 := Lib.hid (zxq _ (z5g hsm hw))
 have HNil := Lib.hid (fun W => zzo W)
 have HG0 := Lib.hid hg0
 clear hl HA R GL hSm hsm T8 hOg hw hg0
 generalize (Em.new S []).abilsR (znf (Em.new S []).state) = x2 at *
 generalize (Em.new S []).abilR a n p = x1 at *
 generalize (Em.new S []).abil a n p = E1 at *
 generalize (Em.new S []).upkeep = E2 at *
 generalize Em.new S [] = E0 at *
 go_enter Tryz.func7, Tryz.ntmps7
 go_wp2_with (first | (go_at_call 8; refine (HAl.out _ grI).mono ?_; rintro e' w' ⟨rfl, nA, rfl⟩) | (go_at_call 9; refine (HLo.out _ grI).mono ?_; rintro e' w' ⟨rfl, nL, rfl⟩) | (go_at_call 30; refine (HBe.out _ grI).mono ?_; rintro e' w' ⟨b, own, bg, og, rfl, hP, nB, rfl⟩; (try simp only [zad] at hP); (try simp only [zac] at hP); have HP := Lib.hid hP; clear hP))
 obtain ⟨p1, p2, p3, p4, p5⟩ := HP.out
 simp only [zab, zaa] at p3 p4
 have o1 : ∀ k, own k → w.heap.size + 2 ≤ k := fun k hk => by have := p3 k hk; omega
 have o2 : ∀ k, og k → w.heap.size + 2 ≤ k := fun k hk => by have := p4 k hk; omega
 have gw : Grow w (((w.alloc (.cells (stA V S.num) 29)).alloc (.cells (cellsOf [a, n, p]) 68)).plus ((nA.and nL).and nB)) := grI
 have kq0 : (((w.alloc (.cells (stA V S.num) 29)).alloc (.cells (cellsOf [a, n, p]) 68)).plus ((nA.and nL).and nB)).cell? ⟨w.heap.size + 1, 0, none⟩ = some (I a) := by go_simp; rfl
 have kq1 : (((w.alloc (.cells (stA V S.num) 29)).alloc (.cells (cellsOf [a, n, p]) 68)).plus ((nA.and nL).and nB)).cell? ⟨w.heap.size + 1, 1, none⟩ = some (I n) := by go_simp; rfl
 have kq2 : (((w.alloc (.cells (stA V S.num) 29)).alloc (.cells (cellsOf [a, n, p]) 68)).plus ((nA.and nL).and nB)).cell? ⟨w.heap.size + 1, 2, none⟩ = some (I p) := by go_simp; rfl
 have kb0 : (((w.alloc (.cells (stA V S.num) 29)).alloc (.cells (cellsOf [a, n, p]) 68)).plus ((nA.and nL).and nB)).blk w.heap.size = stA V S.num := by go_simp
 have hqs : w.heap.size + 1 < (((w.alloc (.cells (stA V S.num) 29)).alloc (.cells (cellsOf [a, n, p]) 68)).plus ((nA.and nL).and nB)).heap.size := by simp only [zab, zaa]; omega
 clear p3 p4 HP
 generalize (((w.alloc (.cells (stA V S.num) 29)).alloc (.cells (cellsOf [a, n, p]) 68)).plus ((nA.and nL).and nB)) = W1 at *
 have hA1 := fun Wx (g : Grow W1 Wx) => HAb.out Wx b own (p1.grow g) (HG0.out own Wx (gw.trans g) (fun k hk => by have := o1 k hk; omega))
 have hk1 : ∀ Wx w2, Grow W1 Wx → EPost Wx b own E1 w2 → (∃ own2, Emt w2 b own2 E1 ∧ Gmt w2 bg og E0 ∧ (∀ k, own2 k → ¬ og k) ∧ Grow w w2) ∧ w2.cell? ⟨w.heap.size + 1, 0, none⟩ = some (I a) ∧ w2.cell? ⟨w.heap.size + 1, 1, none⟩ = some (I n) ∧ w2.cell? ⟨w.heap.size + 1, 2, none⟩ = some (I p) ∧ w2.blk w.heap.size = stA V S.num ∧ W1.heap.size ≤ w2.heap.size := fun Wx w2 g h => by
  obtain ⟨own2, m1, m2, m3, m4, m5⟩ := yc4 p1 p2 p5 (fun k hk => by have := o1 k hk; omega) gw g h
  have e : ∀ i, w2.cell? ⟨w.heap.size + 1, i, none⟩ = W1.cell? ⟨w.heap.size + 1, i, none⟩ := fun i => m5.cell _ _ hqs (fun ho => by have := o1 _ ho; omega)
  exact ⟨⟨own2, m1, m2, m3, m4⟩, by rw [e]; exact kq0, by rw [e]; exact kq1, by rw [e]; exact kq2, by rw [m5.blk _ (by omega) (fun ho => by have := o1 _ ho; omega)]; exact kb0, m5.size⟩
 have hk2 : ∀ w2 own2 Wx w3, Emt w2 b own2 E1 → Gmt w2 bg og E0 → (∀ k, own2 k → ¬ og k) → Grow w w2 → W1.heap.size ≤ w2.heap.size → w2.cell? ⟨w.heap.size + 1, 0, none⟩ = some (I a) → w2.cell? ⟨w.heap.size + 1, 1, none⟩ = some (I n) → w2.cell? ⟨w.heap.size + 1, 2, none⟩ = some (I p) → w2.blk w.heap.size = stA V S.num → Grow w2 Wx → DPost Wx bg og E1 w3 → (∃ og3, Emt w3 b own2 E1 ∧ Gmt w3 bg og3 E1 ∧ Grow w w3) ∧ w3.cell? ⟨w.heap.size + 1, 0, none⟩ = some (I a) ∧ w3.cell? ⟨w.heap.size + 1, 1, none⟩ = some (I n) ∧ w3.cell? ⟨w.heap.size + 1, 2, none⟩ = some (I p) ∧ w3.blk w.heap.size = stA V S.num ∧ W1.heap.size ≤ w3.heap.size := fun w2 own2 Wx w3 m1 m2 m3 m4 hz c0 c1 c2 c3 g h => by
  obtain ⟨og3, n1, n2, n3, n4⟩ := yc5 m1 m2 m3 (fun k hk => by have := o2 k hk; omega) m4 g h
  have e : ∀ i, w3.cell? ⟨w.heap.size + 1, i, none⟩ = w2.cell? ⟨w.heap.size + 1, i, none⟩ := fun i => n4.cell _ _ (by omega) (fun ho => by have := o2 _ ho; omega)
  exact ⟨⟨og3, n1, n2, n3⟩, by rw [e]; exact c0, by rw [e]; exact c1, by rw [e]; exact c2, by rw [n4.blk _ (by omega) (fun ho => by have := o2 _ ho; omega)]; exact c3, Nat.le_trans hz n4.size⟩
 have HA1 := Lib.hid hA1
 have HK1 := Lib.hid hk1
 have HK2 := Lib.hid hk2
 clear p1 p2 p5 o1 o2 hA1 hk1 hk2 gw HAb HAl HLo
 go_region_held3 (fun W => W.cell? ⟨w.heap.size + 1, 0, none⟩ = some (I a) ∧ W.cell? ⟨w.heap.size + 1, 1, none⟩ = some (I n) ∧ W.cell? ⟨w.heap.size + 1, 2, none⟩ = some (I p)) (simp [go_sem, *]) (first | (go_at_call 31; refine (HA1.out _ grI).mono ?_; rintro e' w2 ⟨rfl, hE⟩; obtain ⟨⟨own2, m1, m2, m3, m4⟩, c0, c1, c2, c3, hz2⟩ := HK1.out _ _ grI hE; have M1 := Lib.hid m1; have M2 := Lib.hid m2; have M3 := Lib.hid m3; have M4 := Lib.hid m4; clear hE m1 m2 m3 m4) | (go_at_call 32; refine (HGAb.out _ bg og (M2.out.grow grI)).mono ?_; rintro e' w3 ⟨rfl, hE⟩; obtain ⟨⟨og3, n1, n2, n3⟩, d0, d1, d2, d3, hz3⟩ := HK2.out _ _ _ _ M1.out M2.out M3.out M4.out hz2 c0 c1 c2 c3 grI hE; have N1 := Lib.hid n1; have N2 := Lib.hid n2; have N3 := Lib.hid n3; have hq3 : w.heap.size + 1 < w3.heap.size := (by omega); clear hE n1 n2 n3) | (go_at_call 24; refine (HIs1.out _ b bg own2 og3 (N1.out.grow grI) (N2.out.grow grI)).mono ?_; rintro e' w' ⟨rfl, nI, rfl⟩))
 clear M1 M2 M3 M4 N1 N2 HK1 HK2 HA1 HGAb HIs1 c0 c1 c2 c3 d0 d1 d2 kq0 kq1 kq2 kb0
 have hq4 : w.heap.size < w3.heap.size := by omega
 go_wp2_with (go_at_call 30; refine (HBe.out _ (N3.out.trans grI)).mono ?_; rintro e' w' ⟨b2, own2, bg2, og2, rfl, hP, nB2, rfl⟩; (try simp only [zad] at hP); (try simp only [zac] at hP); have HP2 := Lib.hid hP; clear hP)
 obtain ⟨p1, p2, p3, p4, p5⟩ := HP2.out
 simp only [zab] at p3 p4
 have gw : Grow w (w3.plus (nI.and nB2)) := N3.out.trans grI
 have hww := gw.size
 have o1 : ∀ k, own2 k → w.heap.size ≤ k := fun k hk => by have := p3 k hk; omega
 have o2 : ∀ k, og2 k → w.heap.size ≤ k := fun k hk => by have := p4 k hk; omega
 have GW := Lib.hid gw
 have P1 := Lib.hid p1
 have P2 := Lib.hid p2
 have P5 := Lib.hid p5
 have O1 := Lib.hid o1
 have O2 := Lib.hid o2
 clear p1 p2 p3 p4 p5 o1 o2 gw HP2 HBe N3 hww
 generalize w3.plus (nI.and nB2) = W4 at *
 refine (HUp.out _ b2 own2 (P1.out.grow grI) (HG0.out own2 _ (GW.out.trans grI) O1.out)).mono ?_
 rintro e' w5 ⟨rfl, hE⟩
 obtain ⟨own5, m1, m2, m3, m4, _⟩ := yc4 P1.out P2.out P5.out O1.out GW.out grI hE
 have M1 := Lib.hid m1
 have M2 := Lib.hid m2
 have M3 := Lib.hid m3
 have M4 := Lib.hid m4
 clear hE m1 m2 m3 m4
 go_wp2_with fail
 refine (HGUp.out _ bg2 og2 (M2.out.grow grI)).mono ?_
 rintro e' w6 ⟨rfl, hE⟩
 obtain ⟨og6, n1, n2, n3, _⟩ := yc5 M1.out M2.out M3.out O2.out M4.out grI hE
 have N1 := Lib.hid n1
 have N2 := Lib.hid n2
 have N3 := Lib.hid n3
 clear hE n1 n2 n3 M1 M2 M3 M4
 go_wp2_with (first | (go_at_call 24; refine (HIs2.out _ b2 bg2 own5 og6 (N1.out.grow grI) (N2.out.grow grI)).mono ?_; rintro e' w' ⟨rfl, nJ, rfl⟩) | (go_at_call 31; refine (HNil.out _).mono ?_; rintro e' w' ⟨rfl, nx, rfl⟩))
 go_ret
 exact ⟨rfl, N3.out.trans grI⟩
end Go.Proofs.YtgobdndjemicjaaGreatDoor
namespace Go.Proofs.YtgobdndjemicjaaGreatDoor
open Go Go.RowKit
theorem z9o : zem := by
 intro w n hn
 by_cases h1 : n < 5
 · exact zs4 w n h1
 by_cases h2 : n < 10
 · obtain ⟨k, rfl⟩ : ∃ k, n = k + 5 := ⟨n - 5, by omega⟩
   rw [show ((k + 5 : Nat) : Int) = (k : Int) + 5 by omega]
   exact zpn w k (by omega)
 by_cases h : n < 50
 · obtain ⟨k, hk, hc⟩ : ∃ k, k < 8 ∧ (n = 5 * k + 10 ∨ n = 5 * k + 11 ∨ n = 5 * k + 12 ∨ n = 5 * k + 13 ∨ n = 5 * k + 14) := ⟨(n - 10) / 5, by omega, by omega⟩
   rcases hc with rfl | rfl | rfl | rfl | rfl
   · rw [show ((5 * k + 10 : Nat) : Int) = 5 * (k : Int) + 10 by omega]
     exact zsu w k hk
   · rw [show ((5 * k + 11 : Nat) : Int) = 5 * (k : Int) + 11 by omega]
     exact zsv w k hk
   · rw [show ((5 * k + 12 : Nat) : Int) = 5 * (k : Int) + 12 by omega]
     exact zsw w k hk
   · rw [show ((5 * k + 13 : Nat) : Int) = 5 * (k : Int) + 13 by omega]
     exact zsx w k hk
   · rw [show ((5 * k + 14 : Nat) : Int) = 5 * (k : Int) + 14 by omega]
     exact zsy w k hk
 by_cases h : n < 80
 · obtain ⟨k, hk, hc⟩ : ∃ k, k < 6 ∧ (n = 5 * k + 50 ∨ n = 5 * k + 51 ∨ n = 5 * k + 52 ∨ n = 5 * k + 53 ∨ n = 5 * k + 54) := ⟨(n - 50) / 5, by omega, by omega⟩
   rcases hc with rfl | rfl | rfl | rfl | rfl
   · rw [show ((5 * k + 50 : Nat) : Int) = 5 * (k : Int) + 50 by omega]
     exact zs5 w k hk
   · rw [show ((5 * k + 51 : Nat) : Int) = 5 * (k : Int) + 51 by omega]
     exact zs6 w k hk
   · rw [show ((5 * k + 52 : Nat) : Int) = 5 * (k : Int) + 52 by omega]
     exact zs7 w k hk
   · rw [show ((5 * k + 53 : Nat) : Int) = 5 * (k : Int) + 53 by omega]
     exact zs8 w k hk
   · rw [show ((5 * k + 54 : Nat) : Int) = 5 * (k : Int) + 54 by omega]
     exact zs9 w k hk
 by_cases h : n < 100
 · obtain ⟨k, hk, hc⟩ : ∃ k, k < 4 ∧ (n = 5 * k + 80 ∨ n = 5 * k + 81 ∨ n = 5 * k + 82 ∨ n = 5 * k + 83 ∨ n = 5 * k + 84) := ⟨(n - 80) / 5, by omega, by omega⟩
   rcases hc with rfl | rfl | rfl | rfl | rfl
   · rw [show ((5 * k + 80 : Nat) : Int) = 5 * (k : Int) + 80 by omega]
     exact zsz w k hk
   · rw [show ((5 * k + 81 : Nat) : Int) = 5 * (k : Int) + 81 by omega]
     exact zs0 w k hk
   · rw [show ((5 * k + 82 : Nat) : Int) = 5 * (k : Int) + 82 by omega]
     exact zs1 w k hk
   · rw [show ((5 * k + 83 : Nat) : Int) = 5 * (k : Int) + 83 by omega]
     exact zs2 w k hk
   · rw [show ((5 * k + 84 : Nat) : Int) = 5 * (k : Int) + 84 by omega]
     exact zs3 w k hk
 by_cases h : n < 112
 · obtain ⟨k, rfl⟩ : ∃ k, n = k + 100 := ⟨n - 100, by omega⟩
   rw [show ((k + 100 : Nat) : Int) = (k : Int) + 100 by omega]
   exact zpo w k (by omega)
 · obtain ⟨k, rfl⟩ : ∃ k, n = k + 112 := ⟨n - 112, by omega⟩
   rw [show ((k + 112 : Nat) : Int) = (k : Int) + 112 by omega]
   exact zwp w k (by omega)
end Go.Proofs.YtgobdndjemicjaaGreatDoor
namespace Go.Proofs.YtgobdndjemicjaaGreatDoor
open Go Go.RowKit Go.ChangeShapes Go.WideShapes Go.ChangeAt
theorem zhd (os : Os) (args : Array Value) : laidMetH Tryz.prog zxr ((World.doorLaid Tryz.prog 400 os).forCall (fun _ _ => 0) ⟨#[], args, []⟩).memory :=
 laidMetH_of_parts3 (fuel := 8) (laidMet_of_run' 8 (by kernel_rfl) (by kernel_rfl)) (by kernel_rfl) (by kernel_rfl)
def zhr : Value := .agg ((List.replicate 12 (Value.slice none 0 0) ++ List.replicate 25 (Value.int .i64 0)).toArray)
set_option maxRecDepth 100000 in
theorem zij (os : Os) (started : os.Started) (H : Type) (enc : TypeId × Value → H) :
 ReturnsInHanded {} Tryz.checked os 7 .any (fun w args => (Rows.triggerPutsSpec.pre enc Tryz.prog Tryz.f7 [] false w args ∧ laidMetH Tryz.prog zxr w) ∧ sizedMet enc Tryz.prog Tryz.f7 (OpenSpec.ofChange Rows.triggerPutsSpec) false w args)
  (Rows.triggerPutsSpec.post enc Tryz.prog Tryz.f7 false true false false) := by
 refine returnsInHanded_of_change_and (C := Tryz.checked) (X := fun w _ => laidMetH Tryz.prog zxr w) (fun _ _ _ hh h => h.of_heap hh) z3r started (by kernel_rfl) Tryz.func7
  (ChangeSpec.witness_shaped (enc := enc) (C := Tryz.checked) (os := os) (X := fun w _ => laidMetH Tryz.prog zxr w) false (World.doorLaid Tryz.prog 400 os) #[zhr, .agg #[.int .i64 0, .int .i64 0, .int .i64 0]] 8 rfl (World.shaped_of_RefB (by kernel_rfl) (by kernel_rfl)) (by kernel_rfl) (by kernel_rfl) (by kernel_rfl) (zhd os _)) ?_
 intro W base args ds gs before hval0 hW _ _ hL _
 have hval : ∀ (j : Nat) t v, Tryz.f7.params[j]? = some t → args[j]? = some v → Value.okWide Tryz.prog W .any base t v := hval0
 have hW' := hW
 obtain ⟨p, q, hA0, hV, rfl, _, _⟩ := hW
 have hA : DataW.TrodAll enc Tryz.prog W 0 (fun _ => true) true Tryz.f7.params.toList args.toList ds p := hA0
 rw [Tryz.params7] at hA hval
 obtain ⟨v0, v1, d0, d1, p0, p1, rfl, rfl, rfl, h0, h1⟩ := trodAll_two hA
 obtain ⟨rfl, rfl⟩ := trodVars_none hV
 obtain ⟨V0, S0, rfl, R0⟩ := zt2 (hval 0 29 v0 rfl rfl) h0
 obtain ⟨a1, b1, c1, rfl⟩ := z3q (hval 1 68 v1 rfl rfl)
 refine (z3u z9o S0 V0 W R0 (zhu hL) (fun W' g => zpj W' ((zhu hL).kept (g.kept _) (fun _ hk => Or.inr (Nat.le_trans g.below.size hk)))) a1 b1 c1).mono fun e W' ⟨he, hg⟩ => ?_
 subst he
 exact ⟨_, rfl, z3e zoe hW' rfl (by kernel_rfl) Tryz.underlying4 (by kernel_rfl) rfl rfl rfl hg.below⟩
theorem zi5 : Rows.TriggerPutsSaid :=
 OpenClaim.holds_of_wide 7 Tryz.f7 rfl rfl rfl rfl rfl rfl rfl ⟨rfl, rfl, rfl, rfl, rfl⟩ rfl rfl rfl rfl rfl (by kernel_rfl) Tryz.func7 (by kernel_rfl)
  (of_decide_eq_true (by kernel_rfl)) (by unfold Func.isWrapper; first | (rw [if_pos (by decide +kernel)]; kernel_rfl) | (rw [if_neg (by decide +kernel)]; exact ⟨rfl, rfl⟩))
  (fun os started H enc _ => zij os started H enc)
end Go.Proofs.YtgobdndjemicjaaGreatDoor
namespace Go.Proofs.YtgobdndjemicjaaGreatDoor
open Go
theorem triggerPuts_holds : Rows.TriggerPutsCardSaid :=
 Claim7.holds_tied_plain_at .later [] [.data, .data, .widerDeep, .data] true (true, "7ee5918bc5168af762b4280bf422be672ee7d56b6d83da876fb0fe5d82d8e72c") true
  zi5 (fun _ h => by cases h) (by kernel_rfl) (fun _ h => by cases h) triggerPuts_row_tie rfl ⟨rfl, rfl⟩ (by kernel_rfl) rfl
  (fun f fn hf hfn => by
    obtain rfl : f = 7 := Option.some.inj (hf.symm.trans (by kernel_rfl))
    obtain rfl : fn = Tryz.f7 := (Option.some.inj (Tryz.func7.symm.trans hfn)).symm
    exact ⟨by kernel_rfl, fun j t ht => by
     rw [Tryz.params7] at ht
     have hm : t ∈ [29, 68] := by simpa using Array.mem_of_getElem? ht
     have hall : ([29, 68].all fun u => !Tryz.prog.wantsStandIn u) = true := by kernel_rfl
     exact (show Tryz.prog.wantsStandIn t = false by simpa using List.all_eq_true.1 hall t hm)⟩)
  (by kernel_rfl)
end Go.Proofs.YtgobdndjemicjaaGreatDoor
