/-
  The walks of judge's plan, of the journal's New, of back's Open, where nothing is refused.
  The walk of judge's Backup across one draw.
-/
import Derived.Test.YtmmkmhpchoelkaaDoorGame
import Derived.Test.YtmmkmhpchoelkaaDoorJEv
import Derived.Test.YtmmkmhpchoelkaaDoorDrawn
import Derived.Test.YtmmkmhpchoelkaaDoorGame2
namespace Go.Proofs.YtmmkmhpchoelkaaDoor
open Go Go.RowKit Go.Shelf

theorem jnew_any (w : World) : Calls Tryd.prog 25 #[] w fun e w' => e = .returned (.pointer (some ⟨w.heap.size, 0, none⟩)) ∧ w' = w.alloc (.cells (jnA .nil .nil 0) 96) := by
  go_enter Tryd.func25, Tryd.ntmps25
  go_wp2_with fail
  go_ret
  exact ⟨rfl, rfl⟩
set_option maxRecDepth 100000 in
set_option maxHeartbeats 2000000 in
theorem plan_ok (S : St) (V : SV) (w : World) (R : RepSt w V S) (hS : Small S) (sd : Sl) (d draw : Int) (hd : Ints w sd [d]) (l : List (List Int)) (x : Int) (hev : judgeEv S d draw = .ok (l, x)) :
    Calls Tryd.prog 34 #[.agg (stA V S.num), sd.val, .int .i64 draw] w fun e w' => ∃ s : Sl, e = .returned (.tuple #[s.val, .int .i64 x, .nilIface]) ∧ Rows' w' s 6 l ∧ Room w' s 6 ∧ (∀ b, s.owns b → w.heap.size ≤ b ∧ b < w'.heap.size) ∧ Grow w w' := by
  have hn := hd.len
  have hn1 : sd.n = 1 := hn
  obtain ⟨hb, hc⟩ := hd.at 0 (by simp)
  have hc0 : w.cell? ⟨sd.b, sd.o, none⟩ = some (I d) := hc
  have HJ := Lib.hid (fun W (g : Grow w W) => judge_any S V W (R.grow g) hS d draw)
  rw [hev] at HJ
  clear hd hn hc hev
  have hi : ((0 : Int) < (sd.n : Int)) := by omega
  have nb : ¬ sd.b = w.heap.size := by omega
  go_enter Tryd.func34, Tryd.ntmps34
  go_wp2_with fail
  go_region_law (first | (refine step_wanted (by rfl) ?_; go_simp; go_at_call 17; refine (HJ.out _ (by repeat (first | exact Grow.refl _ | refine Grow.andr ?_ | refine Grow.plus ?_ _ | refine Grow.alloc ?_ _ | refine Grow.drew ?_ | refine Grow.drewN ?_ _))).mono ?_; rintro e' w' ⟨s, rfl, h1, h2, h3, ny, rfl⟩; have H1 := Lib.hid h1; have H2 := Lib.hid h2; have H3 := Lib.hid h3; clear h1 h2 h3))
  all_goals
    go_wp2_with fail
    go_ret3
    have h1 := H1.out
    have h2 := H2.out
    (try simp only [drew_plus] at h1); (try simp only [plus_plus] at h1)
    (try simp only [drew_plus] at h2); (try simp only [plus_plus] at h2)
    exact ⟨s, rfl, h1, h2, fun k hk => by have := H3.out k hk; simp only [plus_size, alloc_size', World.drew] at this ⊢; exact ⟨by omega, this.2⟩, (by repeat (first | exact Grow.refl _ | refine Grow.andr ?_ | refine Grow.plus ?_ _ | refine Grow.alloc ?_ _ | refine Grow.drew ?_ | refine Grow.drewN ?_ _))⟩
set_option maxRecDepth 100000 in
set_option maxHeartbeats 2000000 in
theorem gopen_ok (S : St) (V : SV) (w : World) (R : RepSt w V S) (hS : Small S) (GL : Glob w) (hck : checkN S = 0) :
    Calls Tryd.prog 8 #[.agg (stA V S.num), .slice none 0 0] w fun e w' => ∃ b own, e = .returned (.tuple #[.pointer (some ⟨b, 0, none⟩), .nilIface]) ∧ Game w' b own { now := S, draws := [], jn := ⟨[], [], 0⟩ } ∧ (∀ k, own k → w.heap.size ≤ k ∧ k < w'.heap.size) ∧ Grow w w' := by
  have HC := Lib.hid (fun W (g : Grow w W) => check_any S V W (R.grow g) hS (GL.grow g))
  rw [hck] at HC
  have HR := Lib.hid R
  have HS := Lib.hid hS
  clear R GL hck hS
  go_enter Tryd.func8, Tryd.ntmps8
  go_wp2_with (first | (go_at_call 21; refine (HC.out _ (by repeat (first | exact Grow.refl _ | refine Grow.andr ?_ | refine Grow.plus ?_ _ | refine Grow.alloc ?_ _ | refine Grow.drew ?_ | refine Grow.drewN ?_ _))).mono ?_; rintro e' w' ⟨rfl, nx, rfl⟩) | (go_at_call 22; refine (randCheck_any .nil _).mono ?_; rintro e' w' ⟨rfl, hww⟩; subst w') | (go_at_call 23; refine (copied_any S V _ (HR.out.grow (by repeat (first | exact Grow.refl _ | refine Grow.andr ?_ | refine Grow.plus ?_ _ | refine Grow.alloc ?_ _ | refine Grow.drew ?_ | refine Grow.drewN ?_ _))) HS.out).mono ?_; rintro e' w' ⟨V', rfl, hR', hu, ny, rfl⟩; have HR' := Lib.hid hR'; have HU := Lib.hid hu; clear hR' hu) | (go_at_call 24; refine (cloned_ints _ .nil [] (Ints.nil _) (by simp)).mono ?_; rintro e' w' ⟨s2, rfl, hO, hni, nz, rfl⟩; have HO := Lib.hid hO; clear hO) | (go_at_call 25; refine (jnew_any _).mono ?_; rintro e' w' ⟨rfl, rfl⟩))
  go_ret2
  have hg0 : Grow w (((w.alloc (.cells (stA V S.num) 29)).plus ((nx.and ny).and nz)).alloc (.cells (jnA .nil .nil 0) 96)) := (by repeat (first | exact Grow.refl _ | refine Grow.andr ?_ | refine Grow.plus ?_ _ | refine Grow.alloc ?_ _ | refine Grow.drew ?_ | refine Grow.drewN ?_ _))
  have hblk : (((w.alloc (.cells (stA V S.num) 29)).plus ((nx.and ny).and nz)).alloc (.cells (jnA .nil .nil 0) 96)).blk (w.heap.size + 1 + ((nx.and ny).and nz).objs.size) = jnA .nil .nil 0 := by go_simp
  have hfre : (((w.alloc (.cells (stA V S.num) 29)).plus ((nx.and ny).and nz)).alloc (.cells (jnA .nil .nil 0) 96)).free (w.heap.size + 1 + ((nx.and ny).and nz).objs.size) = true := by go_simp
  have h1 := HR'.out
  have h2 := HU.out
  have h3 := HO.out
  (try simp only [drew_plus] at h1); (try simp only [plus_plus] at h1)
  (try simp only [drew_plus] at h2); (try simp only [plus_plus] at h2)
  (try simp only [drew_plus] at h3); (try simp only [plus_plus] at h3)
  have ha1 := alloc_size' w (.cells (stA V S.num) 29)
  have g1 : Grow ((w.alloc (.cells (stA V S.num) 29)).plus (nx.and ny)) (((w.alloc (.cells (stA V S.num) 29)).plus ((nx.and ny).and nz)).alloc (.cells (jnA .nil .nil 0) 96)) := by
    refine Grow.alloc ?_ _
    exact ⟨nz, (plus_plus _ _ _).symm⟩
  have hsz : (((w.alloc (.cells (stA V S.num) 29)).plus ((nx.and ny).and nz)).alloc (.cells (jnA .nil .nil 0) 96)).heap.size = w.heap.size + 1 + ((nx.and ny).and nz).objs.size + 1 := by rw [alloc_size', plus_size, alloc_size']
  have h4 := h1.grow g1
  have h5 := h3.grow (w' := ((w.alloc (.cells (stA V S.num) 29)).plus ((nx.and ny).and nz)).alloc (.cells (jnA .nil .nil 0) 96)) ((Grow.refl _).alloc _)
  have hx1 : (nx.and ny).objs.size ≤ ((nx.and ny).and nz).objs.size := by simp only [Ext.and, Array.size_append]; omega
  have h6 := h3.lt
  simp only [plus_size, ha1] at h2 h6
  rw [plus_size, ha1] at h5
  generalize hjj : w.heap.size + 1 + ((nx.and ny).and nz).objs.size = jb at *
  generalize ((w.alloc (.cells (stA V S.num) 29)).plus ((nx.and ny).and nz)).alloc (.cells (jnA .nil .nil 0) 96) = W0 at *
  have hJ : RepJ W0 jb .nil .nil ⟨[], [], 0⟩ := ⟨hblk, hfre, Rows'.nil _ _, Room.nil _ _, Rows'.nil _ _, Room.nil _ _, fun h => h, fun h => h, fun _ h => h.elim, fun _ h => h.elim, fun _ h => h.elim⟩
  obtain ⟨x, rfl⟩ := hg0
  rw [plus_size] at hsz
  have hjb : w.heap.size + x.objs.size = jb + 1 := hsz
  obtain ⟨q1, q2⟩ := gm_fresh (w := w) (x := x) (t := 71) (G := { now := S, draws := [], jn := ⟨[], [], 0⟩ }) h4 (fun k hk => by have := h2 k hk; rw [plus_size]; omega) (h5.mono (base' := w.heap.size) (by omega)) hJ (fun k hk => by rcases hk with rfl | h | h; rw [plus_size]; omega; exact h.elim; exact h.elim)
    (fun k hk hk2 => by rcases hk2 with rfl | h | h; have := h2 _ hk; omega; exact h; exact h) (fun k hk hk2 => by rcases hk2 with rfl | h | h; have := h6 _ hk; omega; exact h; exact h)
  refine ⟨_, _, ?_, q1, q2, (by repeat (first | exact Grow.refl _ | refine Grow.andr ?_ | refine Grow.plus ?_ _ | refine Grow.alloc ?_ _ | refine Grow.drew ?_ | refine Grow.drewN ?_ _))⟩
  rw [hjb]; rfl
end Go.Proofs.YtmmkmhpchoelkaaDoor
namespace Go.Proofs.YtmmkmhpchoelkaaDoor
open Go Go.RowKit Go.Shelf

theorem blk3 {own : Nat → Prop} {w w' : World} (G : Glob w) (g : Kept own w w') (h : ∀ k, own k → 2 < k) : Glob w' := by
  have hs := G.size
  refine ⟨Nat.lt_of_lt_of_le hs g.size, ?_, ?_, ?_⟩
  · rw [g.blk _ (by omega) (fun h2 => by have := h _ h2; omega)]; exact G.resting
  · rw [g.blk _ (by omega) (fun h2 => by have := h _ h2; omega)]; exact G.flag
  · rw [g.blk _ (by omega) (fun h2 => by have := h _ h2; omega)]; exact G.any
theorem JnOk.cut {J : Jn} (K : JnOk J) (na : Nat) (h : na < J.marks.length) : JnOk (J.cut na) := by
  have hr : ∀ i, i ≤ na → rowAt (J.marks.take (na + 1)) i = rowAt J.marks i := fun i hi => by simp [rowAt, List.getD, show i < na + 1 by omega]
  have hl : (J.cut na).marks.length = na + 1 := by simp [Jn.cut]; omega
  obtain ⟨hb0, hb1⟩ := K.behind na h
  have he : (J.cut na).evs.length = (gt (rowAt J.marks na) 1).toNat := by simp [Jn.cut]; omega
  refine ⟨fun i j hij hj => ?_, fun i hi => ?_, fun i j hij hj => ?_, fun i hi => ?_, K.last0, K.lastN, by rw [hl]; have := K.many; omega, by rw [he]; have := K.evsN; omega⟩
  · rw [hl] at hj
    show gt (rowAt (J.marks.take _) i) 0 < gt (rowAt (J.marks.take _) j) 0
    rw [hr i (by omega), hr j (by omega)]; exact K.sorted i j hij (by omega)
  · rw [hl] at hi
    have e : rowAt (J.cut na).marks i = rowAt J.marks i := hr i (by omega)
    rw [he, e]
    have := K.behind i (by omega)
    have := K.mono i na (by omega) h
    omega
  · rw [hl] at hj
    show gt (rowAt (J.marks.take _) i) 1 ≤ gt (rowAt (J.marks.take _) j) 1
    rw [hr i (by omega), hr j (by omega)]; exact K.mono i j hij (by omega)
  · rw [hl] at hi
    show gt (rowAt (J.marks.take _) i) 0 ≤ _
    rw [hr i (by omega)]; exact K.below i (by omega)
theorem GmOk.rewind {G : Gs} (K : GmOk G) (c : Int) (hl : G.jn.live c) (S0 : St) (hs : SmallN S0 100000) : GmOk (G.rewind S0 c) := ⟨K.jn.cut _ hl.1, hs, K.draws⟩
theorem GPost.lt {w w' : World} {b : Nat} {own : Nat → Prop} {G : Gs} (h : GPost w b own G w') : w.heap.size ≤ w'.heap.size := by
  obtain ⟨_, _, h2, _⟩ := h; exact h2.size
set_option maxRecDepth 100000 in
set_option maxHeartbeats 4000000 in
theorem backup_ok (w : World) (b : Nat) (own : Nat → Prop) (G : Gs) (R : Game w b own G) (K : GmOk G) (GL : Glob w) (hgo : ∀ k, own k → 2 < k) (c draw : Int) (hlv : G.jn.live c) (S0 S' : St) (d x : Int) (l : List (List Int)) (hun : runEv G.now 0 (invL (G.jn.span c)) = .ok S0) (hs0 : SmallN S0 100000) (hdr : drawnL (G.jn.span c) = [d])
    (hev : judgeEv S0 d draw = .ok (l, x)) (hrun : runEv S0 0 l = .ok S') (hck : checkN S' = 0) (hlen : (l.length : Int) ≤ 65536 - (G.jn.cut (ahead G.jn.marks c)).evs.length) (hlast : G.jn.last < 1000000) (hmany : G.jn.marks.length < 1000000) :
    Calls Tryd.prog 10 #[.pointer (some ⟨b, 0, none⟩), .int .i64 c, .int .i64 draw] w fun e w' => e = .returned (.tuple #[.int .i64 (G.jn.last + 1), .int .i64 x, .nilIface]) ∧ GPost w b own ((G.rewind S0 c).commit S' l) w' := by
  have hob := R.lt
  have hsp := span_len G.jn c
  have hevs := K.jn.evsN
  have hwid : ∀ i, i < (G.jn.span c).length → (rowAt (G.jn.span c) i).length = 6 := by
    obtain ⟨_, _, _, _, _, hr, _⟩ := R
    exact span_wid hr.jn c
  have K1 := K.rewind c hlv S0 hs0
  have hlen1 : l.length ≤ 65536 := by omega
  have HR := Lib.hid R
  have HK := Lib.hid K
  have HGL := Lib.hid GL
  have HGO := Lib.hid hgo
  have HLV := Lib.hid hlv
  have HUN := Lib.hid hun
  have HEV := Lib.hid hev
  have HRUN := Lib.hid hrun
  have HCK := Lib.hid hck
  have HWID := Lib.hid hwid
  have HK1 := Lib.hid K1
  have HDR := Lib.hid hdr
  have HOB := Lib.hid hob
  have HS0 := Lib.hid hs0
  have HLEN := Lib.hid hlen
  have hG1l : (G.rewind S0 c).jn.last = G.jn.last := rfl
  have hG1m : (G.rewind S0 c).jn.marks.length < 1000000 := by
    show (G.jn.marks.take _).length < _
    rw [List.length_take]; omega
  clear R K GL hgo hlv hun hev hrun hck hwid K1 hdr hob hs0 hlen
  go_enter Tryd.func10, Tryd.ntmps10
  go_wp2_with fail
  refine (gspan_live w b own G HR.out HK.out c HLV.out).mono ?_
  rintro e' w1 ⟨s1, rfl, hS1, n1, rfl⟩
  have hR1 := hS1.rows (by omega) HWID.out
  have HR1 := Lib.hid hR1
  clear hS1 hR1
  go_wp2_with fail
  refine (drawn_any _ s1 _ HR1.out (by omega)).mono ?_
  rw [HDR.out]
  rintro e' w2 ⟨sd, rfl, hD, hDo, n2, rfl⟩
  have hDn : sd.n = 1 := hD.len
  have HD := Lib.hid hD
  have HDO := Lib.hid hDo
  clear hD hDo
  go_wp2_with fail
  have hg2 : Grow w (w.plus (n1.and n2)) := ⟨_, rfl⟩
  have hD2 := HD.out
  rw [plus_plus] at hD2
  have hDO3 : ∀ k, sd.owns k → w.heap.size ≤ k ∧ k < (w.plus (n1.and n2)).heap.size := fun k hk => by
    have h1 := HDO.out k hk
    rw [plus_plus] at h1
    exact ⟨Nat.le_trans (by rw [plus_size]; omega) h1.1, h1.2⟩
  have HG2 := Lib.hid hg2
  have HD2 := Lib.hid hD2
  have HDO3 := Lib.hid hDO3
  clear HD HDO HR1 hg2 hD2 hDO3
  generalize w.plus (n1.and n2) = W2 at *
  refine (gcopy_any W2 b own G (HR.out.grow HG2.out) HK.out).mono ?_
  rintro e' w3 ⟨b2, ownT, rfl, hT, hTo, hg3⟩
  have HT := Lib.hid hT
  have HTO := Lib.hid hTo
  have HG3 := Lib.hid hg3
  clear hT hTo hg3
  go_wp2_with fail
  refine (grewind_ok w3 b2 ownT G HT.out HK.out c HLV.out S0 HUN.out).mono ?_
  rintro e' w4 ⟨rfl, ownU, hU, hK4, hU4⟩
  have HU := Lib.hid hU
  have HK4 := Lib.hid hK4
  have HU4 := Lib.hid hU4
  clear hU hK4 hU4
  go_wp2_with fail
  refine (gstate_any w4 b2 ownU _ HU.out HK1.out).mono ?_
  rintro e' w5 ⟨V', rfl, hV, hVu, hg5⟩
  have HV := Lib.hid hV
  have HG5 := Lib.hid hg5
  clear hV hVu hg5
  go_wp2_with fail
  have hDT : 0 < [d].length → ¬ ownT sd.b := fun hl h => by
    have h1 := (HDO3.out _ (owns_of HD2.out hl)).2
    have h2 := (HTO.out _ h).1
    omega
  have hI5 : Ints w5 sd [d] := ((HD2.out.grow HG3.out).kept HK4.out hDT).grow HG5.out
  have HI5 := Lib.hid hI5
  clear hI5 hDT
  refine (plan_ok S0 V' w5 HV.out (HS0.out.small (by omega)) sd d draw HI5.out l x HEV.out).mono ?_
  rintro e' w6 ⟨sl, rfl, hl1, _, hl3, hg6⟩
  have HL1 := Lib.hid hl1
  have HL3 := Lib.hid hl3
  have HG6 := Lib.hid hg6
  clear hl1 hl3 hg6
  go_wp2_with fail
  have s2 := HG2.out.size
  have s3 := HG3.out.size
  have s4 := HK4.out.size
  have s5 := HG5.out.size
  have s6 := HG6.out.size
  have hgs := HGL.out.size
  have k04 : Kept (fun _ => False) w w4 := ((HG2.out.trans HG3.out).kept _).trans HK4.out (fun k hk h => by have := (HTO.out k h).1; omega)
  have k06 : Kept (fun _ => False) w w6 := k04.trans ((HG5.out.trans HG6.out).kept (fun _ => False)) (fun _ _ h => h)
  have hUk : ∀ k, ownU k → w.heap.size ≤ k ∧ k < w4.heap.size := fun k hk => by
    refine ⟨?_, HU.out.lt k hk⟩
    rcases HU4.out k hk with h | h
    · have := (HTO.out k h).1; omega
    · omega
  refine (gcommit_ok w6 b2 ownU (G.rewind S0 c) ((HU.out.grow HG5.out).grow HG6.out) HK1.out (blk3 HGL.out k06 (fun _ h => h.elim)) sl l HL1.out (fun hl h => by have := (HL3.out _ (owns_ofR HL1.out hl)).1; have := (hUk _ h).2; omega) S' HRUN.out HCK.out HLEN.out hlast hG1m).mono ?_
  rintro e' w7 ⟨rfl, ownX, _, hK7, _⟩
  have s7 := hK7.size
  have k07 : Kept (fun _ => False) w w7 := k06.trans hK7 (fun k hk h => by have := (hUk k h).1; omega)
  have hR7 := HR.out.kept k07 (fun _ _ h => h)
  have hL7 := HL1.out.kept hK7 (fun hl h => by have := (HL3.out _ (owns_ofR HL1.out hl)).1; have := (hUk _ h).2; omega)
  have hs7 : ∀ k, sl.owns k → w.heap.size ≤ k ∧ k < w7.heap.size := fun k hk => by have := HL3.out k hk; omega
  have HK07 := Lib.hid k07
  have HR7 := Lib.hid hR7
  have HL7 := Lib.hid hL7
  have HS7 := Lib.hid hs7
  clear k04 k06 hUk hK7 k07 hR7 hL7 hs7 s2 s3 s4 s5 s6
  go_wp2_with fail
  refine (grewind_ok w7 b own G HR7.out HK.out c HLV.out S0 HUN.out).mono ?_
  rintro e' w8 ⟨rfl, own8, h8, hK8, hU8⟩
  have H8 := Lib.hid h8
  have HK8 := Lib.hid hK8
  have HU8 := Lib.hid hU8
  clear h8 hK8 hU8
  go_wp2_with fail
  have s8 := HK8.out.size
  have s07 := HK07.out.size
  have k08 : Kept own w w8 := (HK07.out.mono (o2 := own) (fun _ _ h => h.elim)).trans HK8.out (fun _ _ h => h)
  have hL8 := HL7.out.kept HK8.out (fun hl h => by have := (HS7.out _ (owns_ofR HL7.out hl)).1; have := HOB.out _ h; omega)
  refine (gcommit_ok w8 b own8 (G.rewind S0 c) H8.out HK1.out (blk3 HGL.out k08 HGO.out) sl l hL8 (fun hl h => by
    have h1 := HS7.out _ (owns_ofR HL7.out hl)
    rcases HU8.out _ h with h2 | h2
    · have := HOB.out _ h2; omega
    · omega) S' HRUN.out HCK.out HLEN.out hlast hG1m).mono ?_
  rintro e' w9 ⟨rfl, own9, h9, hK9, hU9⟩
  have k09 : Kept own w w9 := k08.trans hK9 (fun k hk h => by
    rcases HU8.out k h with h2 | h2
    · exact h2
    · omega)
  have u9 : ∀ k, own9 k → own k ∨ (w.heap.size ≤ k ∧ k < w9.heap.size) := fun k hk => by
    have hs9 := hK9.size
    rcases hU9 k hk with h | h
    · rcases HU8.out k h with h2 | h2
      · exact Or.inl h2
      · exact Or.inr (by omega)
    · exact Or.inr (by omega)
  have H9 := Lib.hid h9
  have K09 := Lib.hid k09
  have U9 := Lib.hid u9
  clear h9 hK9 hU9 k09 u9 k08 hL8
  go_wp2_with fail
  go_ret3
  exact ⟨rfl, own9, H9.out, K09.out, U9.out⟩
end Go.Proofs.YtmmkmhpchoelkaaDoor
