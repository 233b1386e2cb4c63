/-
  The document's hits.
-/
import Derived.Test.YtnjdkkgkaafdbaaGreatDoorMRc1
import Derived.Test.YtnjdkkgkaafdbaaGreatDoorMAll
namespace Go.Proofs.YtnjdkkgkaafdbaaGreatDoor
open Go Go.RowKit

/-- What is made of hits so far, and the lists that are read meanwhile. -/
structure Out (W0 wr : World) (s : Sl) (qs : List (Sl × List Int)) (rows : List (List Int)) : Prop where
  made : Made W0.heap.size wr s 3 (flat rows)
  keep : ∀ q ∈ qs, Ints wr q.1 q.2 ∧ ∀ j, q.1.owns j → ¬ s.owns j ∧ j < wr.heap.size
  grow : Grow W0 wr
theorem Out.more {W0 wr w' : World} {s : Sl} {qs : List (Sl × List Int)} {rows : List (List Int)} (h : Out W0 wr s qs rows) (g : Grow wr w') : Out W0 w' s qs rows :=
  ⟨h.made.grow g, fun q hq => ⟨(h.keep q hq).1.grow g, fun j hj => ⟨((h.keep q hq).2 j hj).1, Nat.lt_of_lt_of_le ((h.keep q hq).2 j hj).2 g.size⟩⟩, h.grow.trans g⟩
theorem Out.step {W0 wr : World} {s s2 : Sl} {qs : List (Sl × List Int)} {rows : List (List Int)} {row : List Int} {y : Ext} (h : Out W0 wr s qs rows) (c1 : Made W0.heap.size (W0.plus y) s2 3 (flat rows ++ flat [row])) (c2 : Kept s.owns wr (W0.plus y)) (c4 : ∀ b, s2.owns b → s.owns b ∨ wr.heap.size ≤ b) : Out W0 (W0.plus y) s2 qs (rows ++ [row]) :=
  ⟨by rw [flat_append]; exact c1, fun q hq => ⟨(h.keep q hq).1.kept c2 (fun hl => ((h.keep q hq).2 _ (owns_of (h.keep q hq).1 hl)).1), fun j hj => ⟨fun h2 => by
    obtain ⟨k1, k2⟩ := (h.keep q hq).2 j hj
    rcases c4 j h2 with h3 | h3
    · exact k1 h3
    · omega, Nat.lt_of_lt_of_le ((h.keep q hq).2 j hj).2 c2.size⟩⟩, ⟨y, rfl⟩⟩
theorem Out.add {W0 wr : World} {s sb : Sl} {qs : List (Sl × List Int)} {rows : List (List Int)} {l : List Int} (h : Out W0 wr s qs rows) (hI : Ints wr sb l) (ha : ∀ j, sb.owns j → ¬ s.owns j ∧ j < wr.heap.size) : Out W0 wr s ((sb, l) :: qs) rows :=
  ⟨h.made, fun q hq => by
    rcases List.mem_cons.1 hq with rfl | hq
    · exact ⟨hI, ha⟩
    · exact h.keep q hq, h.grow⟩
theorem Out.less {W0 wr : World} {s : Sl} {q : Sl × List Int} {qs : List (Sl × List Int)} {rows : List (List Int)} (h : Out W0 wr s (q :: qs) rows) : Out W0 wr s qs rows := ⟨h.made, fun x hx => h.keep x (by simp [hx]), h.grow⟩
theorem nz_row (a b n : Int) (h : 0 ≤ n) : [[a, b, n]].filter nzB = if 0 < n then [[a, b, n]] else [] := by
  by_cases h0 : 0 < n
  · rw [if_pos h0]
    have : nzB [a, b, n] = true := by show (!(n == 0)) = true; simp; omega
    simp [this]
  · have e : n = 0 := by omega
    subst e
    rw [if_neg (by omega)]
    have : nzB [a, b, 0] = false := by show (!((0 : Int) == 0)) = false; simp
    simp [this]
theorem hitF_succ (S : St) (a : Int) (k : Nat) : (hitTo S a (k + 1)).2.filter nzB = (hitTo S a k).2.filter nzB ++ (if 0 < takeN S a k (hitTo S a k).1 then [[a, gt (blockersN S a) k + 1, takeN S a k (hitTo S a k).1]] else []) := by
  show (((hitTo S a k).2 ++ [[a, gt (blockersN S a) k + 1, takeN S a k (hitTo S a k).1]]).filter nzB) = _
  rw [List.filter_append, nz_row _ _ _ (takeN_range S a k _ (hitTo_range S a k).1).1]
theorem backF_succ (S : St) (a : Int) (k : Nat) (h : k < (blockersN S a).length) : (backTo S a (k + 1)).filter nzB = (backTo S a k).filter nzB ++ (if 0 < powerN S (gt (blockersN S a) k) then [[gt (blockersN S a) k, a + 1, powerN S (gt (blockersN S a) k)]] else []) := by
  rw [backTo_succ S a k h, List.filter_append, nz_row _ _ _ (powerN_range S _).1]
theorem hitsF (S : St) (a : Int) : (hitsN S a).filter nzB = (hitTo S a (blockersN S a).length).2.filter nzB ++ (if 0 < (hitTo S a (blockersN S a).length).1 ∧ ((blockersN S a).length = 0 ∨ hasB S a 64 = true) then [[a, foeN S, (hitTo S a (blockersN S a).length).1]] else []) ++ (backTo S a (blockersN S a).length).filter nzB := by
  have hr := (hitTo_range S a (blockersN S a).length).1
  unfold hitsN
  by_cases h0 : (blockersN S a).length = 0
  · rw [if_pos h0, h0]
    show [[a, foeN S, powerN S a]].filter nzB = ([] : List (List Int)).filter nzB ++ (if 0 < powerN S a ∧ _ then [[a, foeN S, powerN S a]] else []) ++ ([] : List (List Int)).filter nzB
    rw [nz_row _ _ _ (powerN_range S a).1]
    simp
  · rw [if_neg h0, List.filter_append, List.filter_append]
    congr 2
    by_cases hT : hasB S a 64 = true
    · rw [if_pos hT, nz_row _ _ _ hr]
      simp [hT]
    · rw [if_neg hT, if_neg (fun h => by rcases h.2 with h | h; exact h0 h; exact hT h)]; rfl
theorem grow_box {W0 wr : World} {b : Nat} {cs : Array Value} (g : Grow W0 wr) (h : W0.blk b = cs) (hf : W0.free b = true) (hl : b < W0.heap.size) : wr.blk b = cs ∧ (∀ o, wr.cell? ⟨b, o, none⟩ = cs[o]?) ∧ b < wr.heap.size := by
  obtain ⟨x, rfl⟩ := g
  have h1 : (W0.plus x).blk b = cs := by rw [blk_plus, if_pos hl]; exact h
  have h2 : (W0.plus x).free b = true := by rw [free_plus, if_pos hl]; exact hf
  exact ⟨h1, cell_of_blk h2 h1, by rw [plus_size]; omega⟩
set_option maxRecDepth 100000 in
set_option maxHeartbeats 16000000 in
theorem hits24_good (T8 : Table08) (O : Of17) (S : St) (V : SV) (w : World) (h : RS S V w) (hl8 : (S.list 8).length ≤ 1000) :
    Calls Tryz.prog 9 #[.agg (stA V S.num)] w fun e w' => ∃ s : Sl, e = .returned s.val ∧ Rows' w' s 3 (HitsN S) ∧ (∀ b, s.owns b → w.heap.size ≤ b ∧ b < w'.heap.size) ∧ Grow w w' := by
  have hN := h.rep.objs.len
  have hL8 := (h.rep.list 8 (by decide)).len
  have hact := h.right.active
  have hfoe : wrap64 (S.num 19 - 2) = foeN S := by unfold foeN wrap64; omega
  have hck : checkN S = 0 := (checkN_zero S).2 h.right
  have hal : (attackersN S).length ≤ 1000 := Nat.le_trans (List.length_filter_le _ _) hl8
  have HCk := Lib.hid (fun W (g : Grow w W) => by have := refCheck_any S V W (h.rep.grow g) h.small; rw [hck] at this; exact this)
  have HAt := Lib.hid (fun W (g : Grow w W) => att24_good T8 S V W (h.grow g))
  have HT8 := Lib.hid T8
  have HO17 := Lib.hid O
  have HH := Lib.hid h
  have HG00 := Lib.hid (show Grow w (w.alloc (.cells (stA V S.num) 29)) from grI)
  have HH0 := Lib.hid (h.grow HG00.out)
  have HB0 : Hid ((w.alloc (.cells (stA V S.num) 29)).blk w.heap.size = stA V S.num) := by rw [Hid]; go_simp
  have HS0 : Hid ((w.alloc (.cells (stA V S.num) 29)).heap.size = w.heap.size + 1) := by rw [Hid]; go_simp
  have HF0 : Hid ((w.alloc (.cells (stA V S.num) 29)).free w.heap.size = true) := by rw [Hid]; go_simp
  clear h hact hck T8 O
  go_enter Tryz.func9, Tryz.ntmps9
  go_wp2_with (first | (go_at_call 28; refine (HCk.out _ grI).mono ?_; rintro e' w' ⟨rfl, nC, rfl⟩) | (go_at_call 12; refine (HAt.out _ grI).mono ?_; rintro e' w' ⟨sA, rfl, hIA, hOA, nA, rfl⟩; have hAn := hIA.len))
  (try simp only [drew_plus] at hIA); (try simp only [plus_plus] at hIA)
  simp only [plus_size, alloc_size'] at hOA
  have hO0 : Out (w.alloc (.cells (stA V S.num) 29)) (((w.alloc (.cells (stA V S.num) 29)).alloc (.cells #[] 41)).plus (nC.and nA)) (noSl (w.heap.size + 1)) [(sA, attackersN S)] [] :=
    ⟨Made.empty 3 (by simp only [alloc_size']; omega) (by simp only [plus_size, alloc_size']; omega), fun q hq => by
      obtain rfl := List.mem_singleton.1 hq
      exact ⟨hIA, fun j hj => ⟨fun h2 => by
        have h3 : j = w.heap.size + 1 := h2
        have := hOA j hj; omega, by have := hOA j hj; simp only [plus_size, alloc_size', Ext.and, Array.size_append]; omega⟩⟩, grI⟩
  have HO0 := Lib.hid hO0
  clear hO0 hIA hOA HCk HAt
  generalize hW0 : w.alloc (.cells (stA V S.num) 29) = W0 at *
  clear hW0
  generalize (W0.alloc (.cells #[] 41)).plus (nC.and nA) = W1 at *
  go_loopw [3, 30] (fun v i wr => ∃ (k : Nat) (s : Sl), k ≤ (attackersN S).length ∧ i = .int .i64 k ∧ v = s.val ∧ Out W0 wr s [(sA, attackersN S)] ((rawTo S k).filter nzB) ∧ s.n ≤ k * 2001) (fun _ i _ => (attackersN S).length - (intOf i).toNat)
  case atStart => exact ⟨0, noSl (w.heap.size + 1), by omega, rfl, rfl, by rw [show (rawTo S 0).filter nzB = [] from rfl]; exact HO0.out, by rw [noSl_n]; omega⟩
  case round =>
    obtain ⟨k, s, hk, rfl, rfl, hO, hsn⟩ := hrel
    have HO := Lib.hid hO
    clear hO
    by_cases hlt : k < (attackersN S).length
    · have hcr : creatureB S (gt (attackersN S) k) = true := attacks_creature (attackers_in (by rw [gt_eq _ _ hlt]; exact List.getElem_mem hlt))
      have HST := Lib.hid (rawTo_succ S k hlt)
      obtain ⟨al, ac⟩ := (HO.out.keep _ (List.mem_singleton.2 rfl)).1.at k hlt
      obtain ⟨bb, bc, bl⟩ := grow_box HO.out.grow HB0.out HF0.out (by rw [HS0.out]; omega)
      obtain ⟨c1, c2, _, _⟩ := creatureB_in hcr
      generalize gt (attackersN S) k = aa at *
      obtain ⟨a, rfl⟩ := Int.eq_ofNat_of_zero_le c1
      have ha : a < S.objs.length := by omega
      have HCR := Lib.hid hcr
      have HRS := Lib.hid (HH0.out.grow HO.out.grow)
      have HG := Lib.hid HO.out.grow
      have hwa : wrap64 ((a : Int) + 1) = (a : Int) + 1 := by have := HH.out.small.objs; unfold wrap64; omega
      clear hcr c1
      go_wp2_with fail
      go_loopw [7, 39] (fun v i w2 => ∃ (k2 : Nat) (sb : Sl), k2 ≤ (S.list 8).length ∧ i = .int .i64 k2 ∧ v = sb.val ∧ Made wr.heap.size w2 sb 1 ((bloTo S a k2).map I) ∧ sb.n ≤ k2 ∧ Grow wr w2) (fun _ i _ => (S.list 8).length - (intOf i).toNat)
      case atStart => exact ⟨0, noSl wr.heap.size, by omega, rfl, rfl, Made.empty 1 (Nat.le_refl _) (by simp only [alloc_size']; omega), by rw [noSl_n]; omega, grI⟩
      case round =>
        obtain ⟨k2, sb, hk2, rfl, rfl, hM, hsb, hG⟩ := hrel
        obtain ⟨x, rfl⟩ := hG
        have HM := Lib.hid hM
        clear hM
        by_cases hlt2 : k2 < (S.list 8).length
        · obtain ⟨hlb, hlc⟩ := (HRS.out.rep.list 8 (by decide)).at k2 hlt2
          have HS := Lib.hid (bloTo_succ S a k2 hlt2)
          generalize gt (S.list 8) k2 = id at *
          have HBk : Hid (blocksB S a id = (creatureB S id && (gt (rowAt S.objs id.toNat) 12 == (a : Int) + 1))) := rfl
          have HI := Lib.hid (fun W (g : Grow wr W) => is24_good HT8.out S V W (HRS.out.grow g) id)
          cases hc : creatureB S id with
          | false =>
            have HS2 : Hid (bloTo S a (k2 + 1) = bloTo S a k2) := by rw [Hid, HS.out, HBk.out, hc]; simp
            rw [hc] at HI
            clear hc
            go_wp2_with (go_at_call 36; refine (HI.out _ grI).mono ?_; rintro e' w' ⟨rfl, nx, rfl⟩)
            go_roundw
            case rel => exact ⟨k2 + 1, sb, by omega, by go_num, rfl, by rw [HS2.out]; exact HM.out.grow grI, by omega, grI⟩
            case measure => simp [intOf]; omega
          | true =>
            obtain ⟨i1, i2, _, _⟩ := creatureB_in hc
            obtain ⟨d, rfl⟩ := Int.eq_ofNat_of_zero_le i1
            have hd : d < S.objs.length := by omega
            obtain ⟨ob, _, _, _, oc⟩ := HRS.out.rep.objs.at (by omega) d hd
            have oc12 := oc 12 (by decide)
            rw [hc, Int.toNat_natCast] at HBk
            rw [hc] at HI
            generalize gt (rowAt S.objs d) 12 = u at *
            clear hc i1 oc
            cases hu : (u == (a : Int) + 1) with
            | false =>
              have HS2 : Hid (bloTo S a (k2 + 1) = bloTo S a k2) := by rw [Hid, HS.out, HBk.out, hu]; simp
              go_wp2_with (go_at_call 36; refine (HI.out _ grI).mono ?_; rintro e' w' ⟨rfl, nx, rfl⟩)
              go_roundw
              case rel => exact ⟨k2 + 1, sb, by omega, by go_num, rfl, by rw [HS2.out]; exact HM.out.grow grI, by omega, grI⟩
              case measure => simp [intOf]; omega
            | true =>
              have HS2 : Hid (bloTo S a (k2 + 1) = bloTo S a k2 ++ [(d : Int)]) := by rw [Hid, HS.out, HBk.out, hu]; simp
              go_wp2_with (first | (go_at_call 36; refine (HI.out _ grI).mono ?_; rintro e' w' ⟨rfl, nx, rfl⟩) | (at_builtin; refine wpList_made rfl _ _ 23 rfl 3 Tryz.t3 (.int .i64 0) 1 8 Tryz.underlying23 (by kernel_rfl) (by kernel_rfl) (by kernel_rfl) (by kernel_rfl) (by omega) rfl wr sb (.mk _ 0 1 1) ((bloTo S a k2).map I) [I (d : Int)] rfl rfl (HM.out.grow grI) grI (one_int _ _ _ (by go_simp)) (flat_one _) (flat_one [(d : Int)]) (by simp only [Sl.n] at hsb ⊢; omega) ?_; intro s9 y c1 _ c3 _; have C := Lib.hid (And.intro c1 c3); clear c1 c3))
              go_roundw
              case rel => exact ⟨k2 + 1, s9, by omega, by go_num, rfl, by rw [HS2.out, List.map_append]; exact C.out.1.grow grI, by rw [C.out.2]; simp only [Sl.n] at hsb ⊢; omega, grI⟩
              case measure => simp [intOf]; omega
        · have hk2e : k2 = (S.list 8).length := by omega
          subst hk2e
          have hbl : bloTo S a (S.list 8).length = blockersN S a := by rw [bloTo, List.take_length]; rfl
          have hIb : Ints (wr.plus x) sb (blockersN S a) := by rw [← hbl]; exact HM.out.cells.ints
          have hO1 : Out W0 (wr.plus x) s [(sb, blockersN S a), (sA, attackersN S)] ((rawTo S k).filter nzB) := (HO.out.more ⟨x, rfl⟩).add hIb (fun j hj => ⟨fun h2 => by have := (HM.out.own j hj).1; have := (HO.out.made.own j h2).2; omega, (HM.out.own j hj).2⟩)
          have HO1 := Lib.hid hO1
          have hbn := hIb.len
          have hbl8 : (blockersN S a).length ≤ (S.list 8).length := List.length_filter_le _ _
          obtain ⟨pa, ta, wa, hsh⟩ : ∃ p t wd, shapeN S a = [p, t, wd] := ⟨_, _, _, rfl⟩
          have HPA : Hid (powerN S a = max pa 0) := by rw [Hid, powerN, if_pos HCR.out, Int.toNat_natCast, hsh]; rfl
          have HOfA := Lib.hid (fun W (g : Grow W0 W) => by have := HO17.out S V W (HH0.out.grow g).rep HH.out.right HH.out.small a ha; rw [hsh] at this; exact this)
          have HWd := Lib.hid (show ∀ W, Grow W0 W → ∀ v u, (v = 64 ∧ u = hasB S a 64) ∨ (v = 16 ∧ u = hasB S a 16) → Calls Tryz.prog 38 #[.agg (stA V S.num), .int .i64 (a : Int), .int .i64 v] W fun e w' => e = .returned (.bool u) ∧ Grow W w' from fun W g v u hv => by
            rcases hv with ⟨rfl, rfl⟩ | ⟨rfl, rfl⟩
            · exact word24_any HO17.out S V W (HH0.out.grow g) a HCR.out 64 (by decide)
            · exact word24_any HO17.out S V W (HH0.out.grow g) a HCR.out 16 (by decide))
          have HF := Lib.hid (hitsF S a)
          have hsbn := HM.out.cells.ints.len
          clear hO1 hIb hbl hsh HM hsbn
          go_wp2_with (go_at_call 37; refine (HOfA.out _ (Grow.trans HG.out grI)).mono ?_; rintro e' w' ⟨rfl, nx, rfl⟩)
          go_loopw [3, 10, 69] (fun v lv i w4 => ∃ (k4 : Nat) (s4 : Sl), k4 ≤ (blockersN S a).length ∧ i = .int .i64 k4 ∧ lv = .int .i64 (hitTo S a k4).1 ∧ v = s4.val ∧ Out W0 w4 s4 [(sb, blockersN S a), (sA, attackersN S)] ((rawTo S k).filter nzB ++ (hitTo S a k4).2.filter nzB) ∧ s4.n ≤ k * 2001 + k4) (fun _ _ i _ => (blockersN S a).length - (intOf i).toNat)
          case atStart => exact ⟨0, s, by omega, rfl, by rw [show (hitTo S a 0).1 = powerN S a from rfl, HPA.out], rfl, by rw [show (hitTo S a 0).2.filter nzB = [] from rfl, List.append_nil]; exact HO1.out.more grI, by omega⟩
          case round =>
            obtain ⟨k4, s4, hk4, rfl, rfl, rfl, hO4, hn4⟩ := hrel
            obtain ⟨b4b, b4c, b4l⟩ := grow_box hO4.grow HB0.out HF0.out (by rw [HS0.out]; omega)
            have HO4 := Lib.hid hO4
            have HG4 := Lib.hid hO4.grow
            clear hO4
            have hr := hitTo_range S a k4
            have hp := powerN_range S a
            by_cases hlt4 : k4 < (blockersN S a).length
            · obtain ⟨xl, xc⟩ := (HO4.out.keep (sb, blockersN S a) (by simp)).1.at k4 hlt4
              have hcb : creatureB S (gt (blockersN S a) k4) = true := blockers_in (a := a) (by rw [gt_eq _ _ hlt4]; exact List.getElem_mem hlt4)
              have HST4 := Lib.hid (hitF_succ S a k4)
              have HS1 : Hid ((hitTo S a (k4 + 1)).1 = (hitTo S a k4).1 - takeN S a k4 (hitTo S a k4).1) := rfl
              have HTK : Hid (takeN S a k4 (hitTo S a k4).1 = if hasB S a 64 = true ∨ (k4 : Int) < (blockersN S a).length - 1 then min (hitTo S a k4).1 (needsN S a (gt (blockersN S a) k4)) else (hitTo S a k4).1) := rfl
              have HND : Hid (needsN S a (gt (blockersN S a) k4) = if hasB S a 16 = true then 1 else if creatureB S (gt (blockersN S a) k4) = true then max (wrap64 (gt (shapeN S (gt (blockersN S a) k4).toNat) 1 - gt (rowAt S.objs (gt (blockersN S a) k4).toNat) 6)) 0 else 0) := rfl
              have htr := takeN_range S a k4 _ hr.1
              generalize takeN S a k4 (hitTo S a k4).1 = tk at *
              generalize (hitTo S a k4).2.filter nzB = rows4 at *
              generalize (hitTo S a k4).1 = left at *
              obtain ⟨e1, e2, _, _⟩ := creatureB_in hcb
              generalize gt (blockersN S a) k4 = bx at *
              obtain ⟨d, rfl⟩ := Int.eq_ofNat_of_zero_le e1
              have hd : d < S.objs.length := by omega
              obtain ⟨p2, t2, w2, hsh2⟩ : ∃ p t wd, shapeN S d = [p, t, wd] := ⟨_, _, _, rfl⟩
              obtain ⟨ob, _, _, _, oc⟩ := (HH0.out.grow HG4.out).rep.objs.at (by omega) d hd
              have oc6 := oc 6 (by decide)
              rw [Int.toNat_natCast, if_pos hcb, hsh2, show gt [p2, t2, w2] 1 = t2 from rfl] at HND
              generalize gt (rowAt S.objs d) 6 = dm at *
              have HOfB := Lib.hid (fun W (g : Grow W0 W) => by have := HO17.out S V W (HH0.out.grow g).rep HH.out.right HH.out.small d hd; rw [hsh2] at this; exact this)
              have hwr : wrap64 (left - tk) = left - tk := by unfold wrap64; omega
              have hwd : wrap64 ((d : Int) + 1) = (d : Int) + 1 := by have := HH.out.small.objs; unfold wrap64; omega
              clear hcb e1 hsh2 oc
              cases hT : hasB S a 64 with
              | true =>
                rw [hT] at HWd
                have HTK2 := HTK.out.trans (if_pos (.inl hT))
                clear HTK
                go_wp2_with (go_at_call 38; refine (HWd.out _ (Grow.trans HG4.out grI) _ _ (by first | exact .inl ⟨rfl, rfl⟩ | exact .inr ⟨rfl, rfl⟩)).mono ?_; rintro e' w' ⟨rfl, nx, rfl⟩)
                refine wp_region_grow (by kernel_rfl) (by kernel_rfl) ?_; (repeat (go_big_quiet_step ( (go_at_call 37; first | refine Calls.grow2 (HOfB.out _ (Grow.trans HG4.out grI)) | refine Calls.grow (HOfB.out _ (Grow.trans HG4.out grI))) ))); refine wpQuiet_nil ?_; rintro _ ⟨nx, rfl⟩
                cases hD : hasB S a 16 with
                | true =>
                  rw [hD] at HWd HND
                  obtain rfl : tk = min left 1 := by rw [HTK2, HND.out]; rfl
                  clear HTK2 HND
                  by_cases hpos : 0 < min left 1
                  · have HP9 := Lib.hid hpos
                    go_wp2_with (first | (go_at_call 38; refine (HWd.out _ (Grow.trans HG4.out grI) _ _ (by first | exact .inl ⟨rfl, rfl⟩ | exact .inr ⟨rfl, rfl⟩)).mono ?_; rintro e' w' ⟨rfl, nx, rfl⟩) | (at_builtin; refine wpList_made rfl _ _ 34 rfl 41 Tryz.t41 (.agg (cellsOf [0, 0, 0])) 3 24 Tryz.underlying34 (by kernel_rfl) (by kernel_rfl) (by kernel_rfl) (by kernel_rfl) (by omega) rfl W0 s4 (.mk _ 0 1 1) (flat ((rawTo S k).filter nzB ++ rows4)) (flat [[(a : Int), (d : Int) + 1, min left 1]]) rfl rfl (HO4.out.made.grow grI) (Grow.trans HO4.out.grow grI) (one_hit _ _ _ _ _ (by go_simp) (by go_simp)) (flat_ones _) (flat_ones _) (by show s4.n + 1 ≤ 4194304; omega) ?_; intro s9 y c1 c2 c3 c4; have C := Lib.hid (And.intro c1 (And.intro c2 (And.intro c3 c4))); clear c1 c2 c3 c4))
                    go_roundw
                    case rel =>
                      refine ⟨k4 + 1, s9, by omega, by go_num, by rw [HS1.out] <;> simp, rfl, ?_, ?_⟩
                      · rw [HST4.out, if_pos (by have := HP9.out; omega), ← List.append_assoc]
                        exact Out.step (HO4.out.more grI) C.out.1 C.out.2.1 C.out.2.2.2 |>.more grI
                      · have : s9.n = s4.n + 1 := C.out.2.2.1
                        omega
                    case measure => simp [intOf]; omega
                  · have hneg : (0 < min left 1) = False := by simp; omega
                    have HP9 := Lib.hid hpos
                    clear hpos
                    go_wp2_with (go_at_call 38; refine (HWd.out _ (Grow.trans HG4.out grI) _ _ (by first | exact .inl ⟨rfl, rfl⟩ | exact .inr ⟨rfl, rfl⟩)).mono ?_; rintro e' w' ⟨rfl, nx, rfl⟩)
                    go_roundw
                    case rel =>
                      refine ⟨k4 + 1, s4, by omega, by go_num, by rw [HS1.out] <;> simp, rfl, ?_, by omega⟩
                      rw [HST4.out, if_neg (by have := HP9.out; omega), List.append_nil]
                      exact HO4.out.more grI
                    case measure => simp [intOf]; omega
                | false =>
                  rw [hD] at HWd HND
                  obtain rfl : tk = min left (max (wrap64 (t2 - dm)) 0) := by rw [HTK2, HND.out]; rfl
                  clear HTK2 HND
                  by_cases hpos : 0 < min left (max (wrap64 (t2 - dm)) 0)
                  · have HP9 := Lib.hid hpos
                    go_wp2_with (first | (go_at_call 38; refine (HWd.out _ (Grow.trans HG4.out grI) _ _ (by first | exact .inl ⟨rfl, rfl⟩ | exact .inr ⟨rfl, rfl⟩)).mono ?_; rintro e' w' ⟨rfl, nx, rfl⟩) | (at_builtin; refine wpList_made rfl _ _ 34 rfl 41 Tryz.t41 (.agg (cellsOf [0, 0, 0])) 3 24 Tryz.underlying34 (by kernel_rfl) (by kernel_rfl) (by kernel_rfl) (by kernel_rfl) (by omega) rfl W0 s4 (.mk _ 0 1 1) (flat ((rawTo S k).filter nzB ++ rows4)) (flat [[(a : Int), (d : Int) + 1, min left (max (wrap64 (t2 - dm)) 0)]]) rfl rfl (HO4.out.made.grow grI) (Grow.trans HO4.out.grow grI) (one_hit _ _ _ _ _ (by go_simp) (by go_simp)) (flat_ones _) (flat_ones _) (by show s4.n + 1 ≤ 4194304; omega) ?_; intro s9 y c1 c2 c3 c4; have C := Lib.hid (And.intro c1 (And.intro c2 (And.intro c3 c4))); clear c1 c2 c3 c4))
                    go_roundw
                    case rel =>
                      refine ⟨k4 + 1, s9, by omega, by go_num, by rw [HS1.out] <;> simp, rfl, ?_, ?_⟩
                      · rw [HST4.out, if_pos (by have := HP9.out; omega), ← List.append_assoc]
                        exact Out.step (HO4.out.more grI) C.out.1 C.out.2.1 C.out.2.2.2 |>.more grI
                      · have : s9.n = s4.n + 1 := C.out.2.2.1
                        omega
                    case measure => simp [intOf]; omega
                  · have hneg : (0 < min left (max (wrap64 (t2 - dm)) 0)) = False := by simp; omega
                    have HP9 := Lib.hid hpos
                    clear hpos
                    go_wp2_with (go_at_call 38; refine (HWd.out _ (Grow.trans HG4.out grI) _ _ (by first | exact .inl ⟨rfl, rfl⟩ | exact .inr ⟨rfl, rfl⟩)).mono ?_; rintro e' w' ⟨rfl, nx, rfl⟩)
                    go_roundw
                    case rel =>
                      refine ⟨k4 + 1, s4, by omega, by go_num, by rw [HS1.out] <;> simp, rfl, ?_, by omega⟩
                      rw [HST4.out, if_neg (by have := HP9.out; omega), List.append_nil]
                      exact HO4.out.more grI
                    case measure => simp [intOf]; omega
              | false =>
                rw [hT] at HWd
                by_cases hlt5 : (k4 : Int) + 1 < (blockersN S a).length
                · have HTK2 := HTK.out.trans (if_pos (.inr (by omega)))
                  clear HTK
                  go_wp2_with (go_at_call 38; refine (HWd.out _ (Grow.trans HG4.out grI) _ _ (by first | exact .inl ⟨rfl, rfl⟩ | exact .inr ⟨rfl, rfl⟩)).mono ?_; rintro e' w' ⟨rfl, nx, rfl⟩)
                  refine wp_region_grow (by kernel_rfl) (by kernel_rfl) ?_; (repeat (go_big_quiet_step ( (go_at_call 37; first | refine Calls.grow2 (HOfB.out _ (Grow.trans HG4.out grI)) | refine Calls.grow (HOfB.out _ (Grow.trans HG4.out grI))) ))); refine wpQuiet_nil ?_; rintro _ ⟨nx, rfl⟩
                  cases hD : hasB S a 16 with
                  | true =>
                    rw [hD] at HWd HND
                    obtain rfl : tk = min left 1 := by rw [HTK2, HND.out]; rfl
                    clear HTK2 HND
                    by_cases hpos : 0 < min left 1
                    · have HP9 := Lib.hid hpos
                      go_wp2_with (first | (go_at_call 38; refine (HWd.out _ (Grow.trans HG4.out grI) _ _ (by first | exact .inl ⟨rfl, rfl⟩ | exact .inr ⟨rfl, rfl⟩)).mono ?_; rintro e' w' ⟨rfl, nx, rfl⟩) | (at_builtin; refine wpList_made rfl _ _ 34 rfl 41 Tryz.t41 (.agg (cellsOf [0, 0, 0])) 3 24 Tryz.underlying34 (by kernel_rfl) (by kernel_rfl) (by kernel_rfl) (by kernel_rfl) (by omega) rfl W0 s4 (.mk _ 0 1 1) (flat ((rawTo S k).filter nzB ++ rows4)) (flat [[(a : Int), (d : Int) + 1, min left 1]]) rfl rfl (HO4.out.made.grow grI) (Grow.trans HO4.out.grow grI) (one_hit _ _ _ _ _ (by go_simp) (by go_simp)) (flat_ones _) (flat_ones _) (by show s4.n + 1 ≤ 4194304; omega) ?_; intro s9 y c1 c2 c3 c4; have C := Lib.hid (And.intro c1 (And.intro c2 (And.intro c3 c4))); clear c1 c2 c3 c4))
                      go_roundw
                      case rel =>
                        refine ⟨k4 + 1, s9, by omega, by go_num, by rw [HS1.out] <;> simp, rfl, ?_, ?_⟩
                        · rw [HST4.out, if_pos (by have := HP9.out; omega), ← List.append_assoc]
                          exact Out.step (HO4.out.more grI) C.out.1 C.out.2.1 C.out.2.2.2 |>.more grI
                        · have : s9.n = s4.n + 1 := C.out.2.2.1
                          omega
                      case measure => simp [intOf]; omega
                    · have hneg : (0 < min left 1) = False := by simp; omega
                      have HP9 := Lib.hid hpos
                      clear hpos
                      go_wp2_with (go_at_call 38; refine (HWd.out _ (Grow.trans HG4.out grI) _ _ (by first | exact .inl ⟨rfl, rfl⟩ | exact .inr ⟨rfl, rfl⟩)).mono ?_; rintro e' w' ⟨rfl, nx, rfl⟩)
                      go_roundw
                      case rel =>
                        refine ⟨k4 + 1, s4, by omega, by go_num, by rw [HS1.out] <;> simp, rfl, ?_, by omega⟩
                        rw [HST4.out, if_neg (by have := HP9.out; omega), List.append_nil]
                        exact HO4.out.more grI
                      case measure => simp [intOf]; omega
                  | false =>
                    rw [hD] at HWd HND
                    obtain rfl : tk = min left (max (wrap64 (t2 - dm)) 0) := by rw [HTK2, HND.out]; rfl
                    clear HTK2 HND
                    by_cases hpos : 0 < min left (max (wrap64 (t2 - dm)) 0)
                    · have HP9 := Lib.hid hpos
                      go_wp2_with (first | (go_at_call 38; refine (HWd.out _ (Grow.trans HG4.out grI) _ _ (by first | exact .inl ⟨rfl, rfl⟩ | exact .inr ⟨rfl, rfl⟩)).mono ?_; rintro e' w' ⟨rfl, nx, rfl⟩) | (at_builtin; refine wpList_made rfl _ _ 34 rfl 41 Tryz.t41 (.agg (cellsOf [0, 0, 0])) 3 24 Tryz.underlying34 (by kernel_rfl) (by kernel_rfl) (by kernel_rfl) (by kernel_rfl) (by omega) rfl W0 s4 (.mk _ 0 1 1) (flat ((rawTo S k).filter nzB ++ rows4)) (flat [[(a : Int), (d : Int) + 1, min left (max (wrap64 (t2 - dm)) 0)]]) rfl rfl (HO4.out.made.grow grI) (Grow.trans HO4.out.grow grI) (one_hit _ _ _ _ _ (by go_simp) (by go_simp)) (flat_ones _) (flat_ones _) (by show s4.n + 1 ≤ 4194304; omega) ?_; intro s9 y c1 c2 c3 c4; have C := Lib.hid (And.intro c1 (And.intro c2 (And.intro c3 c4))); clear c1 c2 c3 c4))
                      go_roundw
                      case rel =>
                        refine ⟨k4 + 1, s9, by omega, by go_num, by rw [HS1.out] <;> simp, rfl, ?_, ?_⟩
                        · rw [HST4.out, if_pos (by have := HP9.out; omega), ← List.append_assoc]
                          exact Out.step (HO4.out.more grI) C.out.1 C.out.2.1 C.out.2.2.2 |>.more grI
                        · have : s9.n = s4.n + 1 := C.out.2.2.1
                          omega
                      case measure => simp [intOf]; omega
                    · have hneg : (0 < min left (max (wrap64 (t2 - dm)) 0)) = False := by simp; omega
                      have HP9 := Lib.hid hpos
                      clear hpos
                      go_wp2_with (go_at_call 38; refine (HWd.out _ (Grow.trans HG4.out grI) _ _ (by first | exact .inl ⟨rfl, rfl⟩ | exact .inr ⟨rfl, rfl⟩)).mono ?_; rintro e' w' ⟨rfl, nx, rfl⟩)
                      go_roundw
                      case rel =>
                        refine ⟨k4 + 1, s4, by omega, by go_num, by rw [HS1.out] <;> simp, rfl, ?_, by omega⟩
                        rw [HST4.out, if_neg (by have := HP9.out; omega), List.append_nil]
                        exact HO4.out.more grI
                      case measure => simp [intOf]; omega
                · have hlt6 : ((k4 : Int) + 1 < ((blockersN S a).length : Int)) = False := by simp; omega
                  obtain rfl : tk = left := HTK.out.trans (if_neg (fun h => by rcases h with h | h; exact absurd (hT.symm.trans h) (by simp); omega))
                  clear HTK
                  by_cases hpos : 0 < tk
                  · have HP9 := Lib.hid hpos
                    go_wp2_with (first | (go_at_call 38; refine (HWd.out _ (Grow.trans HG4.out grI) _ _ (by first | exact .inl ⟨rfl, rfl⟩ | exact .inr ⟨rfl, rfl⟩)).mono ?_; rintro e' w' ⟨rfl, nx, rfl⟩) | (at_builtin; refine wpList_made rfl _ _ 34 rfl 41 Tryz.t41 (.agg (cellsOf [0, 0, 0])) 3 24 Tryz.underlying34 (by kernel_rfl) (by kernel_rfl) (by kernel_rfl) (by kernel_rfl) (by omega) rfl W0 s4 (.mk _ 0 1 1) (flat ((rawTo S k).filter nzB ++ rows4)) (flat [[(a : Int), (d : Int) + 1, tk]]) rfl rfl (HO4.out.made.grow grI) (Grow.trans HO4.out.grow grI) (one_hit _ _ _ _ _ (by go_simp) (by go_simp)) (flat_ones _) (flat_ones _) (by show s4.n + 1 ≤ 4194304; omega) ?_; intro s9 y c1 c2 c3 c4; have C := Lib.hid (And.intro c1 (And.intro c2 (And.intro c3 c4))); clear c1 c2 c3 c4))
                    go_roundw
                    case rel =>
                      refine ⟨k4 + 1, s9, by omega, by go_num, by rw [HS1.out, Int.sub_self], rfl, ?_, ?_⟩
                      · rw [HST4.out, if_pos (by have := HP9.out; omega), ← List.append_assoc]
                        exact Out.step (HO4.out.more grI) C.out.1 C.out.2.1 C.out.2.2.2 |>.more grI
                      · have : s9.n = s4.n + 1 := C.out.2.2.1
                        omega
                    case measure => simp [intOf]; omega
                  · have hneg : (0 < tk) = False := by simp; omega
                    have HP9 := Lib.hid hpos
                    clear hpos
                    go_wp2_with (go_at_call 38; refine (HWd.out _ (Grow.trans HG4.out grI) _ _ (by first | exact .inl ⟨rfl, rfl⟩ | exact .inr ⟨rfl, rfl⟩)).mono ?_; rintro e' w' ⟨rfl, nx, rfl⟩)
                    go_roundw
                    case rel =>
                      refine ⟨k4 + 1, s4, by omega, by go_num, by rw [HS1.out, Int.sub_self], rfl, ?_, by omega⟩
                      rw [HST4.out, if_neg (by have := HP9.out; omega), List.append_nil]
                      exact HO4.out.more grI
                    case measure => simp [intOf]; omega
            · have hk4e : k4 = (blockersN S a).length := by omega
              subst hk4e
              generalize (hitTo S a (blockersN S a).length).2.filter nzB = rows4 at *
              generalize (hitTo S a (blockersN S a).length).1 = left at *
              by_cases hc9 : 0 < left ∧ ((blockersN S a).length = 0 ∨ hasB S a 64 = true)
              · rw [if_pos hc9] at HF
                have hneg : 0 < left := hc9.1
                cases hT : hasB S a 64 with
                | true =>
                  rw [hT] at HWd
                  cases hz : (((blockersN S a).length : Int) == 0) <;> (
                  go_wp2_with (first | (go_at_call 38; refine (HWd.out _ (Grow.trans HG4.out grI) _ _ (by first | exact .inl ⟨rfl, rfl⟩ | exact .inr ⟨rfl, rfl⟩)).mono ?_; rintro e' w' ⟨rfl, nx, rfl⟩) | (at_builtin; refine wpList_made rfl _ _ 34 rfl 41 Tryz.t41 (.agg (cellsOf [0, 0, 0])) 3 24 Tryz.underlying34 (by kernel_rfl) (by kernel_rfl) (by kernel_rfl) (by kernel_rfl) (by omega) rfl W0 s4 (.mk _ 0 1 1) (flat ((rawTo S k).filter nzB ++ rows4)) (flat [[(a : Int), foeN S, left]]) rfl rfl (HO4.out.made.grow grI) (Grow.trans HO4.out.grow grI) (one_hit _ _ _ _ _ (by go_simp) (by go_simp)) (flat_ones _) (flat_ones _) (by show s4.n + 1 ≤ 4194304; omega) ?_; intro s9 y c1 c2 c3 c4; have C := Lib.hid (And.intro c1 (And.intro c2 (And.intro c3 c4))); clear c1 c2 c3 c4))
                  have hO5 := Out.step (HO4.out.more grI) C.out.1 C.out.2.1 C.out.2.2.2
                  have HO5 := Lib.hid hO5
                  clear hO5
                  have hn5 : s9.n = s4.n + 1 := C.out.2.2.1
                  go_loopw [3, 138] (fun v i w6 => ∃ (k6 : Nat) (s6 : Sl), k6 ≤ (blockersN S a).length ∧ i = .int .i64 k6 ∧ v = s6.val ∧ Out W0 w6 s6 [(sb, blockersN S a), (sA, attackersN S)] (((rawTo S k).filter nzB ++ rows4 ++ [[(a : Int), foeN S, left]]) ++ (backTo S a k6).filter nzB) ∧ s6.n ≤ k * 2001 + (blockersN S a).length + 1 + k6) (fun _ i _ => (blockersN S a).length - (intOf i).toNat)
                  case atStart => exact ⟨0, _, by omega, rfl, rfl, by rw [show (backTo S a 0).filter nzB = [] from rfl, List.append_nil]; exact (HO5.out.more grI), (by omega)⟩
                  case round =>
                    obtain ⟨k6, s6, hk6, rfl, rfl, hO6, hn6⟩ := hrel
                    obtain ⟨b6b, b6c, b6l⟩ := grow_box hO6.grow HB0.out HF0.out (by rw [HS0.out]; omega)
                    have HO6 := Lib.hid hO6
                    clear hO6
                    by_cases hlt6 : k6 < (blockersN S a).length
                    · obtain ⟨xl, xc⟩ := (HO6.out.keep (sb, blockersN S a) (by simp)).1.at k6 hlt6
                      have hcb : creatureB S (gt (blockersN S a) k6) = true := blockers_in (a := a) (by rw [gt_eq _ _ hlt6]; exact List.getElem_mem hlt6)
                      have HBF := Lib.hid (backF_succ S a k6 hlt6)
                      obtain ⟨e1, e2, _, _⟩ := creatureB_in hcb
                      generalize gt (blockersN S a) k6 = bx at *
                      obtain ⟨d, rfl⟩ := Int.eq_ofNat_of_zero_le e1
                      have hd : d < S.objs.length := by omega
                      obtain ⟨p2, t2, w2, hsh2⟩ : ∃ p t wd, shapeN S d = [p, t, wd] := ⟨_, _, _, rfl⟩
                      have HP2 : Hid (powerN S d = max p2 0) := by rw [Hid, powerN, if_pos hcb, Int.toNat_natCast, hsh2]; rfl
                      have HOfB := Lib.hid (fun W (g : Grow W0 W) => by have := HO17.out S V W (HH0.out.grow g).rep HH.out.right HH.out.small d hd; rw [hsh2] at this; exact this)
                      rw [HP2.out] at HBF
                      clear hcb e1 hsh2
                      by_cases hpos : 0 < p2
                      · have hmx : max p2 0 = p2 := by omega
                        rw [hmx, if_pos hpos] at HBF
                        clear hmx
                        go_wp2_with (first | (go_at_call 37; refine (HOfB.out _ (Grow.trans HO6.out.grow grI)).mono ?_; rintro e' w' ⟨rfl, nx, rfl⟩) | (at_builtin; refine wpList_made rfl _ _ 34 rfl 41 Tryz.t41 (.agg (cellsOf [0, 0, 0])) 3 24 Tryz.underlying34 (by kernel_rfl) (by kernel_rfl) (by kernel_rfl) (by kernel_rfl) (by omega) rfl W0 s6 (.mk _ 0 1 1) (flat (((rawTo S k).filter nzB ++ rows4 ++ [[(a : Int), foeN S, left]]) ++ (backTo S a k6).filter nzB)) (flat [[(d : Int), (a : Int) + 1, p2]]) rfl rfl (HO6.out.made.grow grI) (Grow.trans HO6.out.grow grI) (one_hit _ _ _ _ _ (by go_simp) (by go_simp)) (flat_ones _) (flat_ones _) (by show s6.n + 1 ≤ 4194304; omega) ?_; intro s9 y c1 c2 c3 c4; have C := Lib.hid (And.intro c1 (And.intro c2 (And.intro c3 c4))); clear c1 c2 c3 c4))
                        go_roundw
                        case rel =>
                          refine ⟨k6 + 1, s9, by omega, by go_num, rfl, ?_, ?_⟩
                          · rw [HBF.out, ← List.append_assoc]
                            exact Out.step (HO6.out.more grI) C.out.1 C.out.2.1 C.out.2.2.2 |>.more grI
                          · have : s9.n = s6.n + 1 := C.out.2.2.1
                            omega
                        case measure => simp [intOf]; omega
                      · have hmx : max p2 0 = 0 := by omega
                        rw [hmx, if_neg (by omega), List.append_nil] at HBF
                        have hneg : (0 < p2) = False := by simp; omega
                        clear hmx
                        go_wp2_with (go_at_call 37; refine (HOfB.out _ (Grow.trans HO6.out.grow grI)).mono ?_; rintro e' w' ⟨rfl, nx, rfl⟩)
                        go_roundw
                        case rel => exact ⟨k6 + 1, s6, by omega, by go_num, rfl, by rw [HBF.out]; exact HO6.out.more grI, by omega⟩
                        case measure => simp [intOf]; omega
                    · have hk6e : k6 = (blockersN S a).length := by omega
                      subst hk6e
                      go_wp2_with fail
                      go_roundw
                      case rel =>
                        refine ⟨k + 1, s6, by omega, by go_num, rfl, ?_, by omega⟩
                        rw [HST.out, List.filter_append, HF.out]
                        have := HO6.out.less.more (w' := _) grI
                        simpa [List.append_assoc] using this
                      case measure => simp [intOf]; omega)
                | false =>
                  have hz : (((blockersN S a).length : Int) == 0) = true := by rcases hc9.2 with h | h; (rw [h]; rfl); (rw [hT] at h; cases h)
                  go_wp2_with (at_builtin; refine wpList_made rfl _ _ 34 rfl 41 Tryz.t41 (.agg (cellsOf [0, 0, 0])) 3 24 Tryz.underlying34 (by kernel_rfl) (by kernel_rfl) (by kernel_rfl) (by kernel_rfl) (by omega) rfl W0 s4 (.mk _ 0 1 1) (flat ((rawTo S k).filter nzB ++ rows4)) (flat [[(a : Int), foeN S, left]]) rfl rfl (HO4.out.made.grow grI) (Grow.trans HO4.out.grow grI) (one_hit _ _ _ _ _ (by go_simp) (by go_simp)) (flat_ones _) (flat_ones _) (by show s4.n + 1 ≤ 4194304; omega) ?_; intro s9 y c1 c2 c3 c4; have C := Lib.hid (And.intro c1 (And.intro c2 (And.intro c3 c4))); clear c1 c2 c3 c4)
                  have hO5 := Out.step (HO4.out.more grI) C.out.1 C.out.2.1 C.out.2.2.2
                  have HO5 := Lib.hid hO5
                  clear hO5
                  have hn5 : s9.n = s4.n + 1 := C.out.2.2.1
                  go_loopw [3, 138] (fun v i w6 => ∃ (k6 : Nat) (s6 : Sl), k6 ≤ (blockersN S a).length ∧ i = .int .i64 k6 ∧ v = s6.val ∧ Out W0 w6 s6 [(sb, blockersN S a), (sA, attackersN S)] (((rawTo S k).filter nzB ++ rows4 ++ [[(a : Int), foeN S, left]]) ++ (backTo S a k6).filter nzB) ∧ s6.n ≤ k * 2001 + (blockersN S a).length + 1 + k6) (fun _ i _ => (blockersN S a).length - (intOf i).toNat)
                  case atStart => exact ⟨0, _, by omega, rfl, rfl, by rw [show (backTo S a 0).filter nzB = [] from rfl, List.append_nil]; exact (HO5.out.more grI), (by omega)⟩
                  case round =>
                    obtain ⟨k6, s6, hk6, rfl, rfl, hO6, hn6⟩ := hrel
                    obtain ⟨b6b, b6c, b6l⟩ := grow_box hO6.grow HB0.out HF0.out (by rw [HS0.out]; omega)
                    have HO6 := Lib.hid hO6
                    clear hO6
                    by_cases hlt6 : k6 < (blockersN S a).length
                    · obtain ⟨xl, xc⟩ := (HO6.out.keep (sb, blockersN S a) (by simp)).1.at k6 hlt6
                      have hcb : creatureB S (gt (blockersN S a) k6) = true := blockers_in (a := a) (by rw [gt_eq _ _ hlt6]; exact List.getElem_mem hlt6)
                      have HBF := Lib.hid (backF_succ S a k6 hlt6)
                      obtain ⟨e1, e2, _, _⟩ := creatureB_in hcb
                      generalize gt (blockersN S a) k6 = bx at *
                      obtain ⟨d, rfl⟩ := Int.eq_ofNat_of_zero_le e1
                      have hd : d < S.objs.length := by omega
                      obtain ⟨p2, t2, w2, hsh2⟩ : ∃ p t wd, shapeN S d = [p, t, wd] := ⟨_, _, _, rfl⟩
                      have HP2 : Hid (powerN S d = max p2 0) := by rw [Hid, powerN, if_pos hcb, Int.toNat_natCast, hsh2]; rfl
                      have HOfB := Lib.hid (fun W (g : Grow W0 W) => by have := HO17.out S V W (HH0.out.grow g).rep HH.out.right HH.out.small d hd; rw [hsh2] at this; exact this)
                      rw [HP2.out] at HBF
                      clear hcb e1 hsh2
                      by_cases hpos : 0 < p2
                      · have hmx : max p2 0 = p2 := by omega
                        rw [hmx, if_pos hpos] at HBF
                        clear hmx
                        go_wp2_with (first | (go_at_call 37; refine (HOfB.out _ (Grow.trans HO6.out.grow grI)).mono ?_; rintro e' w' ⟨rfl, nx, rfl⟩) | (at_builtin; refine wpList_made rfl _ _ 34 rfl 41 Tryz.t41 (.agg (cellsOf [0, 0, 0])) 3 24 Tryz.underlying34 (by kernel_rfl) (by kernel_rfl) (by kernel_rfl) (by kernel_rfl) (by omega) rfl W0 s6 (.mk _ 0 1 1) (flat (((rawTo S k).filter nzB ++ rows4 ++ [[(a : Int), foeN S, left]]) ++ (backTo S a k6).filter nzB)) (flat [[(d : Int), (a : Int) + 1, p2]]) rfl rfl (HO6.out.made.grow grI) (Grow.trans HO6.out.grow grI) (one_hit _ _ _ _ _ (by go_simp) (by go_simp)) (flat_ones _) (flat_ones _) (by show s6.n + 1 ≤ 4194304; omega) ?_; intro s9 y c1 c2 c3 c4; have C := Lib.hid (And.intro c1 (And.intro c2 (And.intro c3 c4))); clear c1 c2 c3 c4))
                        go_roundw
                        case rel =>
                          refine ⟨k6 + 1, s9, by omega, by go_num, rfl, ?_, ?_⟩
                          · rw [HBF.out, ← List.append_assoc]
                            exact Out.step (HO6.out.more grI) C.out.1 C.out.2.1 C.out.2.2.2 |>.more grI
                          · have : s9.n = s6.n + 1 := C.out.2.2.1
                            omega
                        case measure => simp [intOf]; omega
                      · have hmx : max p2 0 = 0 := by omega
                        rw [hmx, if_neg (by omega), List.append_nil] at HBF
                        have hneg : (0 < p2) = False := by simp; omega
                        clear hmx
                        go_wp2_with (go_at_call 37; refine (HOfB.out _ (Grow.trans HO6.out.grow grI)).mono ?_; rintro e' w' ⟨rfl, nx, rfl⟩)
                        go_roundw
                        case rel => exact ⟨k6 + 1, s6, by omega, by go_num, rfl, by rw [HBF.out]; exact HO6.out.more grI, by omega⟩
                        case measure => simp [intOf]; omega
                    · have hk6e : k6 = (blockersN S a).length := by omega
                      subst hk6e
                      go_wp2_with fail
                      go_roundw
                      case rel =>
                        refine ⟨k + 1, s6, by omega, by go_num, rfl, ?_, by omega⟩
                        rw [HST.out, List.filter_append, HF.out]
                        have := HO6.out.less.more (w' := _) grI
                        simpa [List.append_assoc] using this
                      case measure => simp [intOf]; omega
              · rw [if_neg hc9, List.append_nil] at HF
                by_cases hpos9 : 0 < left
                · have hT : hasB S a 64 = false := by cases h : hasB S a 64 with
                    | false => rfl
                    | true => exact absurd ⟨hpos9, .inr h⟩ hc9
                  have hz : (((blockersN S a).length : Int) == 0) = false := by rw [beq_eq_false_iff_ne]; intro h; exact hc9 ⟨hpos9, .inl (by omega)⟩
                  rw [hT] at HWd
                  go_wp2_with (go_at_call 38; refine (HWd.out _ (Grow.trans HG4.out grI) _ _ (by first | exact .inl ⟨rfl, rfl⟩ | exact .inr ⟨rfl, rfl⟩)).mono ?_; rintro e' w' ⟨rfl, nx, rfl⟩)
                  go_loopw [3, 138] (fun v i w6 => ∃ (k6 : Nat) (s6 : Sl), k6 ≤ (blockersN S a).length ∧ i = .int .i64 k6 ∧ v = s6.val ∧ Out W0 w6 s6 [(sb, blockersN S a), (sA, attackersN S)] (((rawTo S k).filter nzB ++ rows4) ++ (backTo S a k6).filter nzB) ∧ s6.n ≤ k * 2001 + (blockersN S a).length + 1 + k6) (fun _ i _ => (blockersN S a).length - (intOf i).toNat)
                  case atStart => exact ⟨0, _, by omega, rfl, rfl, by rw [show (backTo S a 0).filter nzB = [] from rfl, List.append_nil]; exact (HO4.out.more grI), (by omega)⟩
                  case round =>
                    obtain ⟨k6, s6, hk6, rfl, rfl, hO6, hn6⟩ := hrel
                    obtain ⟨b6b, b6c, b6l⟩ := grow_box hO6.grow HB0.out HF0.out (by rw [HS0.out]; omega)
                    have HO6 := Lib.hid hO6
                    clear hO6
                    by_cases hlt6 : k6 < (blockersN S a).length
                    · obtain ⟨xl, xc⟩ := (HO6.out.keep (sb, blockersN S a) (by simp)).1.at k6 hlt6
                      have hcb : creatureB S (gt (blockersN S a) k6) = true := blockers_in (a := a) (by rw [gt_eq _ _ hlt6]; exact List.getElem_mem hlt6)
                      have HBF := Lib.hid (backF_succ S a k6 hlt6)
                      obtain ⟨e1, e2, _, _⟩ := creatureB_in hcb
                      generalize gt (blockersN S a) k6 = bx at *
                      obtain ⟨d, rfl⟩ := Int.eq_ofNat_of_zero_le e1
                      have hd : d < S.objs.length := by omega
                      obtain ⟨p2, t2, w2, hsh2⟩ : ∃ p t wd, shapeN S d = [p, t, wd] := ⟨_, _, _, rfl⟩
                      have HP2 : Hid (powerN S d = max p2 0) := by rw [Hid, powerN, if_pos hcb, Int.toNat_natCast, hsh2]; rfl
                      have HOfB := Lib.hid (fun W (g : Grow W0 W) => by have := HO17.out S V W (HH0.out.grow g).rep HH.out.right HH.out.small d hd; rw [hsh2] at this; exact this)
                      rw [HP2.out] at HBF
                      clear hcb e1 hsh2
                      by_cases hpos : 0 < p2
                      · have hmx : max p2 0 = p2 := by omega
                        rw [hmx, if_pos hpos] at HBF
                        clear hmx
                        go_wp2_with (first | (go_at_call 37; refine (HOfB.out _ (Grow.trans HO6.out.grow grI)).mono ?_; rintro e' w' ⟨rfl, nx, rfl⟩) | (at_builtin; refine wpList_made rfl _ _ 34 rfl 41 Tryz.t41 (.agg (cellsOf [0, 0, 0])) 3 24 Tryz.underlying34 (by kernel_rfl) (by kernel_rfl) (by kernel_rfl) (by kernel_rfl) (by omega) rfl W0 s6 (.mk _ 0 1 1) (flat (((rawTo S k).filter nzB ++ rows4) ++ (backTo S a k6).filter nzB)) (flat [[(d : Int), (a : Int) + 1, p2]]) rfl rfl (HO6.out.made.grow grI) (Grow.trans HO6.out.grow grI) (one_hit _ _ _ _ _ (by go_simp) (by go_simp)) (flat_ones _) (flat_ones _) (by show s6.n + 1 ≤ 4194304; omega) ?_; intro s9 y c1 c2 c3 c4; have C := Lib.hid (And.intro c1 (And.intro c2 (And.intro c3 c4))); clear c1 c2 c3 c4))
                        go_roundw
                        case rel =>
                          refine ⟨k6 + 1, s9, by omega, by go_num, rfl, ?_, ?_⟩
                          · rw [HBF.out, ← List.append_assoc]
                            exact Out.step (HO6.out.more grI) C.out.1 C.out.2.1 C.out.2.2.2 |>.more grI
                          · have : s9.n = s6.n + 1 := C.out.2.2.1
                            omega
                        case measure => simp [intOf]; omega
                      · have hmx : max p2 0 = 0 := by omega
                        rw [hmx, if_neg (by omega), List.append_nil] at HBF
                        have hneg : (0 < p2) = False := by simp; omega
                        clear hmx
                        go_wp2_with (go_at_call 37; refine (HOfB.out _ (Grow.trans HO6.out.grow grI)).mono ?_; rintro e' w' ⟨rfl, nx, rfl⟩)
                        go_roundw
                        case rel => exact ⟨k6 + 1, s6, by omega, by go_num, rfl, by rw [HBF.out]; exact HO6.out.more grI, by omega⟩
                        case measure => simp [intOf]; omega
                    · have hk6e : k6 = (blockersN S a).length := by omega
                      subst hk6e
                      go_wp2_with fail
                      go_roundw
                      case rel =>
                        refine ⟨k + 1, s6, by omega, by go_num, rfl, ?_, by omega⟩
                        rw [HST.out, List.filter_append, HF.out]
                        have := HO6.out.less.more (w' := _) grI
                        simpa [List.append_assoc] using this
                      case measure => simp [intOf]; omega
                · have hneg : (0 < left) = False := by simp; omega
                  go_wp2_with fail
                  go_loopw [3, 138] (fun v i w6 => ∃ (k6 : Nat) (s6 : Sl), k6 ≤ (blockersN S a).length ∧ i = .int .i64 k6 ∧ v = s6.val ∧ Out W0 w6 s6 [(sb, blockersN S a), (sA, attackersN S)] (((rawTo S k).filter nzB ++ rows4) ++ (backTo S a k6).filter nzB) ∧ s6.n ≤ k * 2001 + (blockersN S a).length + 1 + k6) (fun _ i _ => (blockersN S a).length - (intOf i).toNat)
                  case atStart => exact ⟨0, _, by omega, rfl, rfl, by rw [show (backTo S a 0).filter nzB = [] from rfl, List.append_nil]; exact (HO4.out.more grI), (by omega)⟩
                  case round =>
                    obtain ⟨k6, s6, hk6, rfl, rfl, hO6, hn6⟩ := hrel
                    obtain ⟨b6b, b6c, b6l⟩ := grow_box hO6.grow HB0.out HF0.out (by rw [HS0.out]; omega)
                    have HO6 := Lib.hid hO6
                    clear hO6
                    by_cases hlt6 : k6 < (blockersN S a).length
                    · obtain ⟨xl, xc⟩ := (HO6.out.keep (sb, blockersN S a) (by simp)).1.at k6 hlt6
                      have hcb : creatureB S (gt (blockersN S a) k6) = true := blockers_in (a := a) (by rw [gt_eq _ _ hlt6]; exact List.getElem_mem hlt6)
                      have HBF := Lib.hid (backF_succ S a k6 hlt6)
                      obtain ⟨e1, e2, _, _⟩ := creatureB_in hcb
                      generalize gt (blockersN S a) k6 = bx at *
                      obtain ⟨d, rfl⟩ := Int.eq_ofNat_of_zero_le e1
                      have hd : d < S.objs.length := by omega
                      obtain ⟨p2, t2, w2, hsh2⟩ : ∃ p t wd, shapeN S d = [p, t, wd] := ⟨_, _, _, rfl⟩
                      have HP2 : Hid (powerN S d = max p2 0) := by rw [Hid, powerN, if_pos hcb, Int.toNat_natCast, hsh2]; rfl
                      have HOfB := Lib.hid (fun W (g : Grow W0 W) => by have := HO17.out S V W (HH0.out.grow g).rep HH.out.right HH.out.small d hd; rw [hsh2] at this; exact this)
                      rw [HP2.out] at HBF
                      clear hcb e1 hsh2
                      by_cases hpos : 0 < p2
                      · have hmx : max p2 0 = p2 := by omega
                        rw [hmx, if_pos hpos] at HBF
                        clear hmx
                        go_wp2_with (first | (go_at_call 37; refine (HOfB.out _ (Grow.trans HO6.out.grow grI)).mono ?_; rintro e' w' ⟨rfl, nx, rfl⟩) | (at_builtin; refine wpList_made rfl _ _ 34 rfl 41 Tryz.t41 (.agg (cellsOf [0, 0, 0])) 3 24 Tryz.underlying34 (by kernel_rfl) (by kernel_rfl) (by kernel_rfl) (by kernel_rfl) (by omega) rfl W0 s6 (.mk _ 0 1 1) (flat (((rawTo S k).filter nzB ++ rows4) ++ (backTo S a k6).filter nzB)) (flat [[(d : Int), (a : Int) + 1, p2]]) rfl rfl (HO6.out.made.grow grI) (Grow.trans HO6.out.grow grI) (one_hit _ _ _ _ _ (by go_simp) (by go_simp)) (flat_ones _) (flat_ones _) (by show s6.n + 1 ≤ 4194304; omega) ?_; intro s9 y c1 c2 c3 c4; have C := Lib.hid (And.intro c1 (And.intro c2 (And.intro c3 c4))); clear c1 c2 c3 c4))
                        go_roundw
                        case rel =>
                          refine ⟨k6 + 1, s9, by omega, by go_num, rfl, ?_, ?_⟩
                          · rw [HBF.out, ← List.append_assoc]
                            exact Out.step (HO6.out.more grI) C.out.1 C.out.2.1 C.out.2.2.2 |>.more grI
                          · have : s9.n = s6.n + 1 := C.out.2.2.1
                            omega
                        case measure => simp [intOf]; omega
                      · have hmx : max p2 0 = 0 := by omega
                        rw [hmx, if_neg (by omega), List.append_nil] at HBF
                        have hneg : (0 < p2) = False := by simp; omega
                        clear hmx
                        go_wp2_with (go_at_call 37; refine (HOfB.out _ (Grow.trans HO6.out.grow grI)).mono ?_; rintro e' w' ⟨rfl, nx, rfl⟩)
                        go_roundw
                        case rel => exact ⟨k6 + 1, s6, by omega, by go_num, rfl, by rw [HBF.out]; exact HO6.out.more grI, by omega⟩
                        case measure => simp [intOf]; omega
                    · have hk6e : k6 = (blockersN S a).length := by omega
                      subst hk6e
                      go_wp2_with fail
                      go_roundw
                      case rel =>
                        refine ⟨k + 1, s6, by omega, by go_num, rfl, ?_, by omega⟩
                        rw [HST.out, List.filter_append, HF.out]
                        have := HO6.out.less.more (w' := _) grI
                        simpa [List.append_assoc] using this
                      case measure => simp [intOf]; omega
    · go_wp2_with fail
      go_ret
      have hkl : k = (attackersN S).length := by omega
      subst hkl
      have hM := HO.out.made.cells
      have e : (rawTo S (attackersN S).length).filter nzB = HitsN S := by rw [rawTo, List.take_length]; rfl
      rw [e] at hM
      exact ⟨s, rfl, hM.rows3 (fun r hr => by
        have := (List.mem_filter.1 hr).1
        obtain ⟨a, _, h2⟩ := List.mem_flatMap.1 this
        exact hitsN_wid S a r h2), fun b hb => by have h1 := HO.out.made.own b hb; rw [HS0.out] at h1; omega, HG00.out.trans HO.out.grow⟩
end Go.Proofs.YtnjdkkgkaafdbaaGreatDoor
