/-
  The document's hits, done.
-/
import Derived.Test.YtnjdkkgkaafdbaaGreatDoorMRc5
namespace Go.Proofs.YtnjdkkgkaafdbaaGreatDoor
open Go Go.RowKit Go.Shelf

/-- A right state read off the document's emitter, which its turns leave as it is. -/
structure SideG (w : World) (b : Nat) (own : Nat → Prop) (S : St) (V : SV) : Prop where
  rs : RS S V w
  ap : ∀ k, V.uses k → ¬ Wr w b k ∧ k < w.heap.size
  vars : ∀ k, (k = 0 ∨ k = 1 ∨ k = 2) → ¬ own k
theorem SideG.turn {w w' : World} {b : Nat} {own own' : Nat → Prop} {S : St} {V : SV} (h : SideG w b own S V) (hb : b < w.heap.size) (k : Kept own w w') (o : ∀ j, own' j → own j ∨ w.heap.size ≤ j) (f : FPost w b w') : SideG w' b own' S V := by
  obtain ⟨s1, s2, s3⟩ := h.rs.glob.size
  have hs := k.size
  refine ⟨⟨f.rep hb h.rs.rep (fun j hj => (h.ap j hj).1), h.rs.right, h.rs.small, ⟨⟨by omega, by omega, by omega⟩, by rw [k.blk _ s1 (h.vars _ (.inl rfl)), h.rs.glob.resting], by rw [k.blk _ s2 (h.vars _ (.inr (.inl rfl))), h.rs.glob.flag], by rw [k.blk _ s3 (h.vars _ (.inr (.inr rfl))), h.rs.glob.any]⟩⟩, fun j hj => ⟨fun h2 => ?_, by have := (h.ap j hj).2; omega⟩, fun j hj h2 => ?_⟩
  · rcases (f hb).2 j h2 with h3 | h3
    · exact (h.ap j hj).1 h3
    · have := (h.ap j hj).2; omega
  · rcases o j h2 with h3 | h3
    · exact h.vars j hj h3
    · rcases hj with rfl | rfl | rfl <;> omega
theorem SideG.grow {w w' : World} {b : Nat} {own : Nat → Prop} {S : St} {V : SV} (h : SideG w b own S V) (hb : b < w.heap.size) (g : Grow w w') : SideG w' b own S V := h.turn hb (g.kept own) (fun _ h => .inl h) (.grow g)
/-- What a hit drains, behind what it did: the document's last steps of a round. -/
theorem SideG.of_em {w : World} {b : Nat} {own : Nat → Prop} {V : SV} {sd se sp : Sl} {E : Em} (hr : RepD w b V sd se sp E) (hR : Right E.now) (hS : Small E.now) (GL : Glob w) (hv : ∀ k, (k = 0 ∨ k = 1 ∨ k = 2) → ¬ own k) : SideG w b own E.now V :=
  ⟨⟨hr.host.rep, hR, hS, GL⟩, fun k hk => ⟨hr.wr k hk, hr.host.in' k hk⟩, hv⟩
/-- What the document's Hits is to answer. -/
def Hits24 : Prop := ∀ (S : St) (V : SV) (w : World), RS S V w → (S.list 8).length ≤ 1000 →
    Calls Tryz.prog 9 #[.agg (stA V S.num)] w fun e w' => ∃ s : Sl, e = .returned s.val ∧ Rows' w' s 3 (HitsN S) ∧ (∀ b, s.owns b → w.heap.size ≤ b ∧ b < w'.heap.size) ∧ Grow w w'
set_option maxRecDepth 100000 in
set_option maxHeartbeats 8000000 in
theorem strike24_good (O : Of17) (H24 : Hits24) (w : World) (b : Nat) (own : Nat → Prop) (E : Em) (R : Gmt w b own E) (GL : Glob w) (hv : ∀ k, (k = 0 ∨ k = 1 ∨ k = 2) → ¬ own k) (F : Fi E.now 0 E) (hl : (E.now.list 8).length ≤ 1000) (hc : 2 * (HitsN E.now).length < 65536) :
    Calls Tryz.prog 18 #[.pointer (some ⟨b, 0, none⟩)] w fun r w' => r = .returned (.tuple #[]) ∧ DPost w b own (E.strikes E.now (HitsN E.now)) w' := by
  have hown := R.lt
  have HR := Lib.hid R
  have HF := Lib.hid F
  have HO17 := Lib.hid O
  have HOL := Lib.hid hown
  obtain ⟨V, sd, se, sp, hr, ho⟩ := R
  obtain ⟨_, _, _, h40⟩ := hr.cells
  rw [F.err] at h40
  have hbk := hr.host.blk
  have hlt := hr.host.lt
  have HD0 := Lib.hid (SideG.of_em hr F.right F.small GL hv)
  have HHi := Lib.hid (fun W (g : Grow w W) => H24 E.now V W (HD0.out.grow hlt g).rs hl)
  have hkn : (HitsN E.now).length ≤ 32768 := by omega
  clear hr ho F hown GL hv O H24
  go_enter Tryz.func18, Tryz.ntmps18
  go_wp2_with (go_at_call 9; refine (HHi.out _ grI).mono ?_; rintro e' w' ⟨sh, rfl, hRH, hOH, nH, rfl⟩; have hNH := hRH.len)
  (try simp only [drew_plus] at hRH); (try simp only [plus_plus] at hRH)
  have hb0 : ((w.alloc (.cells (stA V E.now.num) 29)).plus nH).blk w.heap.size = stA V E.now.num := by go_simp
  have hfr0 : ((w.alloc (.cells (stA V E.now.num) 29)).plus nH).free w.heap.size = true := by go_simp
  have hl0 : w.heap.size < ((w.alloc (.cells (stA V E.now.num) 29)).plus nH).heap.size := (by first | (go_simp; done) | (go_simp; omega) | (simp only [Sl.b]; go_simp; omega))
  have hG1 : Grow w ((w.alloc (.cells (stA V E.now.num) 29)).plus nH) := grI
  have HD1 := Lib.hid (HD0.out.grow hlt hG1)
  have HR1 := Lib.hid (HR.out.grow hG1)
  have HRH := Lib.hid hRH
  have HOH := Lib.hid (show ∀ j, sh.owns j → ¬ own j from fun j hj h => by have := HOL.out j h; have := (hOH j hj).1; rw [alloc_size'] at this; omega)
  have HB0 := Lib.hid hb0
  have HFr0 := Lib.hid hfr0
  have HG1 := Lib.hid hG1
  have hbl1 : b < ((w.alloc (.cells (stA V E.now.num) 29)).plus nH).heap.size := by omega
  have hq : ∀ k, own k → k ≠ w.heap.size := fun k hk => by have := HOL.out k hk; omega
  have HQ0 := Lib.hid hq
  clear hRH hOH hb0 hfr0 hG1 HD0 HHi hbk h40 hq
  generalize (w.alloc (.cells (stA V E.now.num) 29)).plus nH = W1 at *
  go_loopw [18] (fun i wr => ∃ (k : Nat) (own2 : Nat → Prop), k ≤ (HitsN E.now).length ∧ i = .int .i64 k ∧ TurnG W1 b own (E.strikes E.now ((HitsN E.now).take k)) wr own2) (fun i _ => (HitsN E.now).length - (intOf i).toNat)
  case atStart => exact ⟨0, own, by omega, rfl, TurnG.first HR1.out⟩
  case round =>
    obtain ⟨k, own2, hk, rfl, hT⟩ := hrel
    have HT := Lib.hid hT
    have hbw : wr.blk w.heap.size = stA V E.now.num := by rw [hT.kept.blk _ hl0 (fun h => HQ0.out _ h rfl)]; exact HB0.out
    have hfw : wr.free w.heap.size = true := by rw [hT.kept.free _ hl0 (fun h => HQ0.out _ h rfl)]; exact HFr0.out
    have hlw : w.heap.size < wr.heap.size := by have := hT.kept.size; omega
    have hbl : b < wr.heap.size := by have := hT.kept.size; omega
    have HDk := Lib.hid (HD1.out.turn hbl1 hT.kept (fun j hj => (hT.own j hj).imp id And.left) hT.fine)
    have HQ := Lib.hid (show ∀ k, own2 k → k ≠ w.heap.size from fun j hj => by
      rcases hT.own j hj with h | h
      · exact HQ0.out j h
      · omega)
    clear hT
    by_cases hlt2 : k < (HitsN E.now).length
    · obtain ⟨hb, hw, hsz, hsub, _⟩ := (HRH.out.kept HT.out.kept (fun hl ho => HOH.out _ (owns_ofR HRH.out hl) ho)).at (by omega) k hlt2
      obtain ⟨d, t, n, hr, H⟩ := hits_in HF.out.right (r := rowAt (HitsN E.now) k) (rowAt_in _ _ hlt2)
      have HS := Lib.hid (strikes_succ E E.now (HitsN E.now) k hlt2)
      rw [hr] at hsub HS
      have hFk := HF.out.strikes HF.out.right (by omega) k hk
      have HFk := Lib.hid hFk
      rcases H.at' with rfl | ⟨e, rfl, he⟩
      · have hact := HF.out.right.active
        have hd : d < E.now.objs.length := by have := (creatureB_in H.from').2.1; omega
        have hctl : 0 ≤ gt (rowAt E.now.objs d) 2 ∧ gt (rowAt E.now.objs d) 2 ≤ 1 := HF.out.right.num hd (f := 2) (by decide)
        have hfo : foeN E.now < 0 := by unfold foeN; omega
        obtain ⟨p, hp⟩ := Int.eq_ofNat_of_zero_le (show 0 ≤ -1 - foeN E.now by unfold foeN; omega)
        have hp2 : p < 2 := by unfold foeN at hp; omega
        have hpw : wrap64 (-1 - foeN E.now) = (p : Int) := by rw [← hp]; unfold foeN wrap64; omega
        have hneg : wrap64 (-n) = -n := by have := H.pos; have := H.max; unfold wrap64; omega
        have HLi := Lib.hid (fun W (g : Grow wr W) => glife_good W b own2 _ (HT.out.em.grow g) hFk.err hFk.small (fun _ => by have := hFk.evs; omega) p hp2 (hFk.right.lifeIn p hp2) (-n))
        have HF1 := Lib.hid (hFk.life (by omega) p hp2 (-n)).1
        have g0 : gt [(d : Int), foeN E.now, n] 0 = d := rfl
        have g1 : gt [(d : Int), foeN E.now, n] 1 = foeN E.now := rfl
        have g2 : gt [(d : Int), foeN E.now, n] 2 = n := rfl
        rw [g0, g1, g2, Int.toNat_natCast] at HS
        have HS1 : Hid ((E.strikes E.now ((HitsN E.now).take k)).strike E.now d (foeN E.now) n = if hasB E.now d 32 = true then ((E.strikes E.now ((HitsN E.now).take k)).life p (-n)).life (gt (rowAt E.now.objs d) 2) n else (E.strikes E.now ((HitsN E.now).take k)).life p (-n)) := by
          rw [Hid, Em.strike, if_pos hfo, hp]
        generalize E.strikes E.now ((HitsN E.now).take k) = Ek at *
        clear hact hp hFk hr hw
        go_wp2_with fail
        refine (HLi.out _ grI).mono ?_
        rintro e' w3 ⟨rfl, own3, R3, K3, O3, F3⟩
        have hwl := K3.size
        have hs3 : wr.heap.size + 1 ≤ w3.heap.size := by simp only [alloc_size'] at hwl; omega
        have hg3 : Grow wr (wr.alloc (.cells (cellsOf [(d : Int), foeN E.now, n]) 41)) := grI
        have hne9 : ¬ w.heap.size = wr.heap.size := by omega
        have hq0 : w3.blk w.heap.size = stA V E.now.num := by rw [K3.blk _ (by first | (go_simp; done) | (go_simp; omega) | (simp only [Sl.b]; go_simp; omega)) (fun h => HQ.out _ h rfl)]; go_simp
        have hq1 : w3.blk wr.heap.size = cellsOf [(d : Int), foeN E.now, n] := by rw [K3.blk _ (by first | (go_simp; done) | (go_simp; omega) | (simp only [Sl.b]; go_simp; omega)) (fun h => by have := HT.out.em.lt _ h; omega)]; go_simp
        have hf1 : w3.free wr.heap.size = true := by rw [K3.free _ (by first | (go_simp; done) | (go_simp; omega) | (simp only [Sl.b]; go_simp; omega)) (fun h => by have := HT.out.em.lt _ h; omega)]; go_simp
        have hf0 : w3.free w.heap.size = true := by rw [K3.free _ (by first | (go_simp; done) | (go_simp; omega) | (simp only [Sl.b]; go_simp; omega)) (fun h => HQ.out _ h rfl)]; go_simp
        have hc1 := cell_of_blk hf1 hq1
        have hc0 := cell_of_blk hf0 hq0
        have hb0 : w.heap.size < w3.heap.size := by omega
        have hb1 : wr.heap.size < w3.heap.size := by omega
        have hb3 : b < w3.heap.size := by omega
        have D3 : SideG w3 b own3 E.now V := (HDk.out.grow hbl hg3).turn (by have := hg3.size; omega) K3 (fun j hj => (O3 j hj).imp id And.left) F3
        have HD3 := Lib.hid D3
        have HK3 := Lib.hid (show Kept own2 wr w3 from (hg3.kept own2).trans K3 (fun _ _ h => h))
        have HO3 := Lib.hid (show ∀ j, own3 j → own2 j ∨ (wr.heap.size ≤ j ∧ j < w3.heap.size) from fun j hj => (O3 j hj).imp id (fun h => ⟨Nat.le_trans hg3.size h.1, h.2⟩))
        have HF3 := Lib.hid (show FPost wr b w3 from (FPost.grow hg3).trans F3 hg3.size)
        have HR3 := Lib.hid R3
        have HOL3 := Lib.hid (show ∀ j, own3 j → j ≠ w.heap.size ∧ j ≠ wr.heap.size from fun j hj => by
          rcases O3 j hj with h | h
          · have h1 := HQ.out j h; have h2 := HT.out.em.lt j h; exact ⟨h1, by omega⟩
          · have h1 := h.1; simp only [alloc_size'] at h1; exact ⟨by omega, by omega⟩)
        have HWd := Lib.hid (fun W (g : Grow w3 W) => word24_any HO17.out E.now V W (HD3.out.grow hb3 g).rs d H.from' 32 (by decide))
        obtain ⟨ob, _, _, _, oc⟩ := D3.rs.rep.objs.at (by omega) d hd
        have oc2 := oc 2 (by decide)
        have hN9 := D3.rs.rep.objs.len
        have hdi : (d : Int) < (E.now.objs.length : Int) := by omega
        have hdi0 : (0 : Int) ≤ (d : Int) := by omega
        have hvo : V.uses V.objs.b := Or.inl (owns_ofR D3.rs.rep.objs (by omega))
        have HNW := Lib.hid (fun W (g : Grow w3 W) => (HD3.out.grow hb3 g).ap _ hvo)
        obtain ⟨c, hc9⟩ := Int.eq_ofNat_of_zero_le hctl.1
        rw [hc9] at HS1 oc2
        have HL3 := Lib.hid (fun W (g : Grow w3 W) => glife_good W b own3 _ (HR3.out.grow g) HF1.out.err HF1.out.small (fun _ => by have := HF1.out.evs; omega) c (by omega) (HF1.out.right.lifeIn c (by omega)) n)
        clear D3 K3 O3 R3 F3 hctl hc9 hg3 oc hvo
        cases hD : hasB E.now d 32 with
        | true =>
          rw [hD, if_pos rfl] at HS1
          rw [hD] at HWd
          go_wp2_with (go_at_call 38; refine (HWd.out _ grI).mono ?_; rintro e' w' ⟨rfl, nx, rfl⟩)
          go_region_held3 (fun W => W.blk w.heap.size = stA V E.now.num ∧ W.cell? ⟨w.heap.size, 0, none⟩ = some V.objs.val ∧ W.cell? ⟨V.objs.b, V.objs.o + d * 18 + 2, none⟩ = some (I c) ∧ W.cell? ⟨wr.heap.size, 0, none⟩ = some (I d) ∧ W.cell? ⟨wr.heap.size, 2, none⟩ = some (I n)) (simp [go_sem, *]) (first | (go_at_call 49; refine (HL3.out _ grI).mono ?_; rintro e' w4 ⟨rfl, own4, R4, K4, O4, F4⟩; have z0 : w4.blk w.heap.size = stA V E.now.num := (by rw [K4.blk _ (by first | (go_simp; done) | (go_simp; omega) | (simp only [Sl.b]; go_simp; omega)) (fun h => (HOL3.out _ h).1 rfl)]; go_simp); have z1 : w4.cell? ⟨w.heap.size, 0, none⟩ = some V.objs.val := (by rw [K4.cell _ _ (by first | (go_simp; done) | (go_simp; omega) | (simp only [Sl.b]; go_simp; omega)) (fun h => (HOL3.out _ h).1 rfl)]; go_simp); have z2 : w4.cell? ⟨wr.heap.size, 0, none⟩ = some (I d) := (by rw [K4.cell _ _ (by first | (go_simp; done) | (go_simp; omega) | (simp only [Sl.b]; go_simp; omega)) (fun h => (HOL3.out _ h).2 rfl)]; go_simp); have z3 : w4.cell? ⟨wr.heap.size, 2, none⟩ = some (I n) := (by rw [K4.cell _ _ (by first | (go_simp; done) | (go_simp; omega) | (simp only [Sl.b]; go_simp; omega)) (fun h => (HOL3.out _ h).2 rfl)]; go_simp); have z4 : w4.cell? ⟨V.objs.b, V.objs.o + d * 18 + 2, none⟩ = some (I c) := (by rw [Kept.cell (F4 (by first | (go_simp; done) | (go_simp; omega) | (simp only [Sl.b]; go_simp; omega))).1 _ _ (by first | (go_simp; done) | (go_simp; omega) | (simp only [Sl.b]; go_simp; omega)) (HNW.out _ grI).1]; go_simp); have HE4 : Hid (DPost _ b own3 _ w4) := ⟨own4, R4, K4, O4, F4⟩; clear R4 K4 O4 F4))
          all_goals
            have hE4 : DPost wr b own2 _ w4 := DPost.then HK3.out HO3.out HF3.out (DPost.low grI HE4.out)
            obtain ⟨own5, T5⟩ := HT.out.step (Grow.refl _) hE4
            have HT5 := Lib.hid T5
            clear hE4 T5
            go_wp2_with fail
            go_roundw
            case rel => exact ⟨k + 1, own5, by omega, by go_num, by rw [HS.out, HS1.out]; exact HT5.out⟩
            case measure => simp [intOf]; omega
        | false =>
          rw [hD, if_neg (by simp)] at HS1
          rw [hD] at HWd
          have hE4 : DPost wr b own2 _ w3 := DPost.then HK3.out HO3.out HF3.out (.of_grow HR3.out (Grow.refl _))
          obtain ⟨own5, T5⟩ := HT.out.step (Grow.refl _) hE4
          have HT5 := Lib.hid T5
          clear hE4 T5
          go_wp2_with (go_at_call 38; refine (HWd.out _ grI).mono ?_; rintro e' w' ⟨rfl, nx, rfl⟩)
          go_roundw
          case rel => exact ⟨k + 1, own5, by omega, by go_num, by rw [HS.out, HS1.out]; exact HT5.out.grow grI⟩
          case measure => simp [intOf]; omega
      · have he2 := creatureB_in he
        have hd : d < E.now.objs.length := by have := (creatureB_in H.from').2.1; omega
        have hel : e < E.now.objs.length := by omega
        have hctl : 0 ≤ gt (rowAt E.now.objs d) 2 ∧ gt (rowAt E.now.objs d) 2 ≤ 1 := HF.out.right.num hd (f := 2) (by decide)
        have h400 := HF.out.right.many
        have h8 : gt (rowAt E.now.objs e) 3 = 8 := by have := he2.2.2.1; rwa [Int.toNat_natCast] at this
        have hpo := H.pos
        have hmx := H.max
        have g0 : gt [(d : Int), (e : Int) + 1, n] 0 = d := rfl
        have g1 : gt [(d : Int), (e : Int) + 1, n] 1 = (e : Int) + 1 := rfl
        have g2 : gt [(d : Int), (e : Int) + 1, n] 2 = n := rfl
        rw [g0, g1, g2, Int.toNat_natCast] at HS
        have hnt : ((e : Int) + 1 < 0) = False := by simp; omega
        have hw1 : wrap64 ((e : Int) + 1 - 1) = (e : Int) := by unfold wrap64; omega
        have HS0 : Hid (∀ q, (if hasB E.now d 16 = true then n + 1000 else n) = q → (E.strikes E.now ((HitsN E.now).take k)).strike E.now d ((e : Int) + 1) n = if hasB E.now d 32 = true then ((E.strikes E.now ((HitsN E.now).take k)).setObj (e : Int) 6 (min (gt (rowAt (E.strikes E.now ((HitsN E.now).take k)).now.objs e) 6 + q) 1073741824)).life (gt (rowAt E.now.objs d) 2) n else (E.strikes E.now ((HitsN E.now).take k)).setObj (e : Int) 6 (min (gt (rowAt (E.strikes E.now ((HitsN E.now).take k)).now.objs e) 6 + q) 1073741824)) := fun q hq => by
          unfold Em.strike
          dsimp only
          rw [if_neg (show ¬ ((e : Int) + 1 < 0) by omega), hq, show (e : Int) + 1 - 1 = (e : Int) by omega, Int.toNat_natCast]
        have hel2 : e < (E.strikes E.now ((HitsN E.now).take k)).now.objs.length := by rw [hFk.len]; exact hel
        have hdm : 0 ≤ gt (rowAt (E.strikes E.now ((HitsN E.now).take k)).now.objs e) 6 ∧ gt (rowAt (E.strikes E.now ((HitsN E.now).take k)).now.objs e) 6 ≤ 1073741824 := hFk.right.num hel2 (f := 6) (by decide)
        generalize E.strikes E.now ((HitsN E.now).take k) = Ek at *
        have e1 : gt (objBounds E.now.objs.length) (6 * 2) = 0 := rfl
        have e2 : gt (objBounds E.now.objs.length) (6 * 2 + 1) = 1073741824 := rfl
        have HFs := Lib.hid (show ∀ v : Int, 0 ≤ v ∧ v ≤ 1073741824 → Fi E.now (2 * k + 1) (Ek.setObj (e : Int) 6 v) from fun v hv => (hFk.set (by omega) e 6 v hel h8 (by omega) (by rw [e1, e2]; exact hv) (by omega)).1)
        have HSet := Lib.hid (show ∀ W, Grow wr W → ∀ v : Int, 0 ≤ v ∧ v ≤ 1073741824 → Calls Tryz.prog 50 #[.pointer (some ⟨b, 0, none⟩), .int .i64 (e : Int), .int .i64 6, .int .i64 v] W fun r w' => r = .returned (.tuple #[]) ∧ DPost W b own2 (Ek.setObj (e : Int) 6 v) w' from fun W g v hv => gset_any W b own2 _ (HT.out.em.grow g) hFk.small (fun _ => by have := hFk.evs; omega) e 6 v hel2 (by decide) (by decide) (by omega))
        have HW16 := Lib.hid (fun W (g : Grow wr W) => word24_any HO17.out E.now V W (HDk.out.grow hbl g).rs d H.from' 16 (by decide))
        obtain ⟨Vk, sdk, sek, spk, hrk, hok⟩ := HT.out.em
        obtain ⟨_, _, _, h40k⟩ := hrk.cells
        rw [hFk.err] at h40k
        have h0k : wr.cell? ⟨b, 0, none⟩ = some Vk.objs.val := by rw [cell_of_blk hrk.host.free hrk.host.blk]; exact hoA_objs _ _ _
        have hNk := hrk.host.rep.objs.len
        obtain ⟨obk, _, _, _, ock⟩ := hrk.host.rep.objs.at (by omega) e hel2
        have oc6 := ock 6 (by decide)
        have hei : (e : Int) < (Ek.now.objs.length : Int) := by omega
        have hei0 : (0 : Int) ≤ (e : Int) := by omega
        have hwe : IntKind.i64.wrap (e : Int) = (e : Int) := by
          unfold IntKind.wrap
          simp [IntKind.signed, IntKind.bits]
          omega
        have hbn1 : ¬ b = wr.heap.size := by omega
        have hbn2 : ¬ Vk.objs.b = wr.heap.size := by omega
        generalize gt (rowAt Ek.now.objs e) 6 = dm at *
        clear hrk hok ock he he2 h8 e1 e2 hFk hr hw
        cases hB : hasB E.now d 16
        case' true =>
          rw [hB] at HW16 HS0
          have hS1 := HS0.out (n + 1000) (if_pos rfl)
          have hwn : wrap64 (n + 1000) = n + 1000 := by unfold wrap64; omega
          have hwd : wrap64 (dm + (n + 1000)) = dm + (n + 1000) := by unfold wrap64; omega
          have hF1 := HFs.out (min (dm + (n + 1000)) 1073741824) (by omega)
          have HSe := Lib.hid (fun W g => HSet.out W g (min (dm + (n + 1000)) 1073741824) (by omega))
        case' false =>
          rw [hB] at HW16 HS0
          have hS1 := HS0.out n (if_neg (by simp))
          have hwn : True := trivial
          have hwd : wrap64 (dm + n) = dm + n := by unfold wrap64; omega
          have hF1 := HFs.out (min (dm + n) 1073741824) (by omega)
          have HSe := Lib.hid (fun W g => HSet.out W g (min (dm + n) 1073741824) (by omega))
        all_goals
        have HS1 := Lib.hid hS1
        have HF1 := Lib.hid hF1
        clear hS1 hF1 HS0 HFs HSet hdm
        go_wp2_with (go_at_call 38; refine (HW16.out _ grI).mono ?_; rintro e' w' ⟨rfl, n16, rfl⟩)
        refine wp_region_order [0, 1, 2, 3, 4, 5, 6, 7, 8, 9, 10, 11, 12, 13, 14, 15, 16, 17] 18 [] (by kernel_rfl) (by kernel_rfl) ?_; simp only [pickO, List.getElem?_cons_zero, List.getElem?_cons_succ]; (repeat (go_big_quiet_step ( fail ))); refine wpQuiet_nil ?_; rintro _ ⟨nx, rfl⟩
        go_wp2_with fail
        go_at_call 50
        refine (HSe.out _ grI).mono ?_
        rintro e' w3 ⟨rfl, own3, R3, K3, O3, F3⟩
        have hwl := K3.size
        have hs3 : wr.heap.size + 1 ≤ w3.heap.size := by simp only [plus_size, alloc_size'] at hwl; omega
        have hg3 : Grow wr ((wr.alloc (.cells (cellsOf [(d : Int), (e : Int) + 1, n]) 41)).plus (n16.and nx)) := grI
        have hne9 : ¬ w.heap.size = wr.heap.size := by omega
        have hq0 : w3.blk w.heap.size = stA V E.now.num := by rw [K3.blk _ (by first | (go_simp; done) | (go_simp; omega) | (simp only [Sl.b]; go_simp; omega)) (fun h => HQ.out _ h rfl)]; go_simp
        have hq1 : w3.blk wr.heap.size = cellsOf [(d : Int), (e : Int) + 1, n] := by rw [K3.blk _ (by first | (go_simp; done) | (go_simp; omega) | (simp only [Sl.b]; go_simp; omega)) (fun h => by have := HT.out.em.lt _ h; omega)]; go_simp
        have hf1 : w3.free wr.heap.size = true := by rw [K3.free _ (by first | (go_simp; done) | (go_simp; omega) | (simp only [Sl.b]; go_simp; omega)) (fun h => by have := HT.out.em.lt _ h; omega)]; go_simp
        have hf0 : w3.free w.heap.size = true := by rw [K3.free _ (by first | (go_simp; done) | (go_simp; omega) | (simp only [Sl.b]; go_simp; omega)) (fun h => HQ.out _ h rfl)]; go_simp
        have hc1 := cell_of_blk hf1 hq1
        have hc0 := cell_of_blk hf0 hq0
        have hb0 : w.heap.size < w3.heap.size := by omega
        have hb1 : wr.heap.size < w3.heap.size := by omega
        have hb3 : b < w3.heap.size := by omega
        have D3 : SideG w3 b own3 E.now V := (HDk.out.grow hbl hg3).turn (by have := hg3.size; omega) K3 (fun j hj => (O3 j hj).imp id And.left) F3
        have HD3 := Lib.hid D3
        have HK3 := Lib.hid (show Kept own2 wr w3 from (hg3.kept own2).trans K3 (fun _ _ h => h))
        have HO3 := Lib.hid (show ∀ j, own3 j → own2 j ∨ (wr.heap.size ≤ j ∧ j < w3.heap.size) from fun j hj => (O3 j hj).imp id (fun h => ⟨Nat.le_trans hg3.size h.1, h.2⟩))
        have HF3 := Lib.hid (show FPost wr b w3 from (FPost.grow hg3).trans F3 hg3.size)
        have HR3 := Lib.hid R3
        have HOL3 := Lib.hid (show ∀ j, own3 j → j ≠ w.heap.size ∧ j ≠ wr.heap.size from fun j hj => by
          rcases O3 j hj with h | h
          · have h1 := HQ.out j h; have h2 := HT.out.em.lt j h; exact ⟨h1, by omega⟩
          · have h1 := h.1; simp only [plus_size, alloc_size'] at h1; exact ⟨by omega, by omega⟩)
        have HWd := Lib.hid (fun W (g : Grow w3 W) => word24_any HO17.out E.now V W (HD3.out.grow hb3 g).rs d H.from' 32 (by decide))
        obtain ⟨ob, _, _, _, oc⟩ := D3.rs.rep.objs.at (by omega) d hd
        have oc2 := oc 2 (by decide)
        have hN9 := D3.rs.rep.objs.len
        have hdi : (d : Int) < (E.now.objs.length : Int) := by omega
        have hdi0 : (0 : Int) ≤ (d : Int) := by omega
        have hvo : V.uses V.objs.b := Or.inl (owns_ofR D3.rs.rep.objs (by omega))
        have HNW := Lib.hid (fun W (g : Grow w3 W) => (HD3.out.grow hb3 g).ap _ hvo)
        obtain ⟨c, hc9⟩ := Int.eq_ofNat_of_zero_le hctl.1
        rw [hc9] at HS1 oc2
        have HL3 := Lib.hid (fun W (g : Grow w3 W) => glife_good W b own3 _ (HR3.out.grow g) HF1.out.err HF1.out.small (fun _ => by have := HF1.out.evs; omega) c (by omega) (HF1.out.right.lifeIn c (by omega)) n)
        clear D3 K3 O3 R3 F3 hctl hc9 hg3 oc hvo
        cases hD : hasB E.now d 32 with
        | true =>
          rw [hD, if_pos rfl] at HS1
          rw [hD] at HWd
          go_wp2_with (go_at_call 38; refine (HWd.out _ grI).mono ?_; rintro e' w' ⟨rfl, nx, rfl⟩)
          go_region_held3 (fun W => W.blk w.heap.size = stA V E.now.num ∧ W.cell? ⟨w.heap.size, 0, none⟩ = some V.objs.val ∧ W.cell? ⟨V.objs.b, V.objs.o + d * 18 + 2, none⟩ = some (I c) ∧ W.cell? ⟨wr.heap.size, 0, none⟩ = some (I d) ∧ W.cell? ⟨wr.heap.size, 2, none⟩ = some (I n)) (simp [go_sem, *]) (first | (go_at_call 49; refine (HL3.out _ grI).mono ?_; rintro e' w4 ⟨rfl, own4, R4, K4, O4, F4⟩; have z0 : w4.blk w.heap.size = stA V E.now.num := (by rw [K4.blk _ (by first | (go_simp; done) | (go_simp; omega) | (simp only [Sl.b]; go_simp; omega)) (fun h => (HOL3.out _ h).1 rfl)]; go_simp); have z1 : w4.cell? ⟨w.heap.size, 0, none⟩ = some V.objs.val := (by rw [K4.cell _ _ (by first | (go_simp; done) | (go_simp; omega) | (simp only [Sl.b]; go_simp; omega)) (fun h => (HOL3.out _ h).1 rfl)]; go_simp); have z2 : w4.cell? ⟨wr.heap.size, 0, none⟩ = some (I d) := (by rw [K4.cell _ _ (by first | (go_simp; done) | (go_simp; omega) | (simp only [Sl.b]; go_simp; omega)) (fun h => (HOL3.out _ h).2 rfl)]; go_simp); have z3 : w4.cell? ⟨wr.heap.size, 2, none⟩ = some (I n) := (by rw [K4.cell _ _ (by first | (go_simp; done) | (go_simp; omega) | (simp only [Sl.b]; go_simp; omega)) (fun h => (HOL3.out _ h).2 rfl)]; go_simp); have z4 : w4.cell? ⟨V.objs.b, V.objs.o + d * 18 + 2, none⟩ = some (I c) := (by rw [Kept.cell (F4 (by first | (go_simp; done) | (go_simp; omega) | (simp only [Sl.b]; go_simp; omega))).1 _ _ (by first | (go_simp; done) | (go_simp; omega) | (simp only [Sl.b]; go_simp; omega)) (HNW.out _ grI).1]; go_simp); have HE4 : Hid (DPost _ b own3 _ w4) := ⟨own4, R4, K4, O4, F4⟩; clear R4 K4 O4 F4))
          all_goals
            have hE4 : DPost wr b own2 _ w4 := DPost.then HK3.out HO3.out HF3.out (DPost.low grI HE4.out)
            obtain ⟨own5, T5⟩ := HT.out.step (Grow.refl _) hE4
            have HT5 := Lib.hid T5
            clear hE4 T5
            go_wp2_with fail
            go_roundw
            case rel => exact ⟨k + 1, own5, by omega, by go_num, by rw [HS.out, HS1.out]; exact HT5.out⟩
            case measure => simp [intOf]; omega
        | false =>
          rw [hD, if_neg (by simp)] at HS1
          rw [hD] at HWd
          have hE4 : DPost wr b own2 _ w3 := DPost.then HK3.out HO3.out HF3.out (.of_grow HR3.out (Grow.refl _))
          obtain ⟨own5, T5⟩ := HT.out.step (Grow.refl _) hE4
          have HT5 := Lib.hid T5
          clear hE4 T5
          go_wp2_with (go_at_call 38; refine (HWd.out _ grI).mono ?_; rintro e' w' ⟨rfl, nx, rfl⟩)
          go_roundw
          case rel => exact ⟨k + 1, own5, by omega, by go_num, by rw [HS.out, HS1.out]; exact HT5.out.grow grI⟩
          case measure => simp [intOf]; omega
    · have hke : k = (HitsN E.now).length := by omega
      subst hke
      go_wp2_with fail
      go_end0
      have h2 := HT.out
      rw [List.take_length] at h2
      exact ⟨rfl, (h2.post HG1.out).more grI⟩
end Go.Proofs.YtnjdkkgkaafdbaaGreatDoor
