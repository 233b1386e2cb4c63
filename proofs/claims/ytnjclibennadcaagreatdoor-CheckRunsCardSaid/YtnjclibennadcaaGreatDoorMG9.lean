/-
  The document's Dying: what it hands back is its own.
  The walk of the document's Put.
  The walks of the document's Round, would and Run.
-/
import Derived.Test.YtnjclibennadcaaGreatDoorMRef20
import Derived.Test.YtnjclibennadcaaGreatDoorMG8a
import Derived.Test.YtnjclibennadcaaGreatDoorMG8b
import Derived.Test.YtnjclibennadcaaGreatDoorMChk3
namespace Go.Proofs.YtnjclibennadcaaGreatDoor
open Go Go.RowKit

set_option maxRecDepth 100000 in
set_option maxHeartbeats 4000000 in
theorem dying20_own (T8 : Table08) (O : Of17) (S : St) (V : SV) (w : World) (h : RS S V w) : Calls Tryz.prog 123 #[.agg (stA V S.num)] w fun e w' => ∃ s : Sl, e = .returned s.val ∧ Ints w' s (dyingN S) ∧ (∀ b, s.owns b → w.heap.size ≤ b) ∧ Grow w w' := by
  have hck := (checkN_zero S).2 h.right
  have hdy : dyingN S = dyTo S (S.list 8).length := by unfold dyingN dyTo; rw [if_pos hck, List.take_length]
  have HRef := Lib.hid (fun W (g : Grow w W) => by have := refCheck_any S V W (h.rep.grow g) h.small; rw [hck] at this; exact this)
  have HIs := Lib.hid (fun W (g : Grow w W) id => is17_any T8 S V W (h.rep.grow g) h.right id)
  have HOf := Lib.hid (fun W (g : Grow w W) d (hd : d < S.objs.length) => O S V W (h.rep.grow g) h.right h.small d hd)
  have H := Lib.hid h
  have hN := h.rep.objs.len
  have hL := h.rep.list 8 (by omega)
  have hln := hL.len
  have hsm : (S.list 8).length ≤ 1048576 := h.small.list 8 (by omega)
  have HL := Lib.hid hL
  rw [hdy]
  clear h hdy hL hck O T8
  go_enter Tryz.func123, Tryz.ntmps123
  go_wp2_with (go_at_call 36; refine (HRef.out _ grI).mono ?_; rintro e' w' ⟨rfl, nx, rfl⟩)
  go_loopw [3, 15] (fun v i wr => ∃ (k : Nat) (s : Sl), k ≤ (S.list 8).length ∧ i = .int .i64 k ∧ v = s.val ∧ Made (w.alloc (.cells (stA V S.num) 29)).heap.size wr s 1 ((dyTo S k).map I) ∧ s.n ≤ k ∧ Grow (w.alloc (.cells (stA V S.num) 29)) wr) (fun _ i _ => (S.list 8).length - (intOf i).toNat)
  case atStart =>
    refine ⟨0, .mk (w.heap.size + 1) 0 0 0, by omega, rfl, rfl, ⟨⟨rfl, Nat.le_refl _, fun j u hu => by simp [dyTo] at hu⟩, ⟨Nat.zero_le _, fun j hj => by simp [Sl.c] at hj⟩, fun b hb => ?_⟩, Nat.le_refl _, grI⟩
    obtain rfl : b = w.heap.size + 1 := hb
    exact ⟨by simp only [alloc_size']; omega, by simp only [plus_size, alloc_size']; omega⟩
  case round =>
    obtain ⟨k, s, hk, rfl, rfl, hM, hsn, hG⟩ := hrel
    obtain ⟨x, rfl⟩ := hG
    have HM := Lib.hid hM
    clear hM
    by_cases hlt : k < (S.list 8).length
    · obtain ⟨q1, q2⟩ := (HL.out.grow (w' := (w.alloc (.cells (stA V S.num) 29)).plus x) grI).at k hlt
      have HSD := Lib.hid (dyTo_succ S k hlt)
      generalize gt (S.list 8) k = id at *
      cases hc : creatureB S id with
      | false =>
        have HS2 : Hid (dyTo S (k + 1) = dyTo S k) := by rw [Hid, HSD.out]; simp [dieB, hc]
        have HI2 := Lib.hid (fun W g => by have := HIs.out W g id; rw [hc] at this; exact this)
        clear HSD HIs
        go_wp2_with fail
        refine wp_region_grow (by kernel_rfl) (by kernel_rfl) ?_; (repeat (go_big_quiet_step ( (go_at_call 132; first | refine Calls.grow2 (HI2.out _ grI) | refine Calls.grow (HI2.out _ grI)) ))); refine wpQuiet_nil ?_; rintro _ ⟨nx, rfl⟩
        go_wp2_with fail
        go_roundw
        case rel => exact ⟨k + 1, s, by omega, by go_num, rfl, by rw [HS2.out]; exact HM.out.grow grI, by omega, grI⟩
        case measure => simp [intOf]; omega
      | true =>
        obtain ⟨o0, o1, _, _⟩ := creatureB_in hc
        obtain ⟨d, rfl⟩ := Int.eq_ofNat_of_zero_le o0
        have hd : d < S.objs.length := by omega
        have hd' : (d : Int) < S.objs.length := o1
        obtain ⟨p, t, wd, hsh⟩ : ∃ p t wd, shapeN S d = [p, t, wd] := ⟨_, _, _, rfl⟩
        have HS2 : Hid (dyTo S (k + 1) = dyTo S k ++ (if wrap64 (t - gt (rowAt S.objs d) 6) ≤ 0 then [(d : Int)] else [])) := by
          rw [Hid, HSD.out]
          simp only [dieB, hc, Bool.true_and, Int.toNat_natCast, hsh, decide_eq_true_eq]
          rfl
        have HI2 := Lib.hid (fun W g => by have := HIs.out W g d; rw [hc] at this; exact this)
        have HO2 := Lib.hid (fun W g => by have := HOf.out W g d hd; rw [hsh] at this; exact this)
        obtain ⟨hob, how, _, _, hocell⟩ := H.out.rep.objs.at (by omega) d hd
        have hc6 := hocell 6 (by omega)
        clear HSD HIs HOf hocell o0 o1 hsh
        generalize gt (rowAt S.objs d) 6 = dm at *
        by_cases hle : wrap64 (t - dm) ≤ 0
        · rw [if_pos hle] at HS2
          go_wp2_with fail
          refine wp_region_grow (by kernel_rfl) (by kernel_rfl) ?_; (repeat (go_big_quiet_step ( (first | (go_at_call 132; first | refine Calls.grow2 (HI2.out _ grI) | refine Calls.grow (HI2.out _ grI)) | (go_at_call 71; first | refine Calls.grow2 (HO2.out _ grI) | refine Calls.grow (HO2.out _ grI))) ))); refine wpQuiet_nil ?_; rintro _ ⟨nx, rfl⟩
          go_wp2_with ((at_builtin; refine wpList_made rfl _ _ 23 rfl 3 Tryz.t3 (.int .i64 0) 1 8 Tryz.underlying23 (by kernel_rfl) (by kernel_rfl) (by kernel_rfl) (by kernel_rfl) (by omega) rfl (w.alloc (.cells (stA V S.num) 29)) s (.mk _ 0 1 1) ((dyTo S k).map I) [I (d : Int)] rfl rfl (HM.out.grow grI) grI (one_int _ _ _ (by go_simp)) (flat_one _) (flat_one [(d : Int)]) (by simp only [Sl.n] at hsn ⊢; omega) ?_; intro s2 y c1 _ c3 _; have C := Lib.hid (And.intro c1 c3); clear c1 c3))
          go_roundw
          case rel => exact ⟨k + 1, s2, by omega, by go_num, rfl, by rw [HS2.out, List.map_append]; exact C.out.1.grow grI, by rw [C.out.2]; simp only [Sl.n] at hsn ⊢; omega, grI⟩
          case measure => simp [intOf]; omega
        · rw [if_neg hle, List.append_nil] at HS2
          go_wp2_with fail
          refine wp_region_grow (by kernel_rfl) (by kernel_rfl) ?_; (repeat (go_big_quiet_step ( (first | (go_at_call 132; first | refine Calls.grow2 (HI2.out _ grI) | refine Calls.grow (HI2.out _ grI)) | (go_at_call 71; first | refine Calls.grow2 (HO2.out _ grI) | refine Calls.grow (HO2.out _ grI))) ))); refine wpQuiet_nil ?_; rintro _ ⟨nx, rfl⟩
          go_wp2_with fail
          go_roundw
          case rel => exact ⟨k + 1, s, by omega, by go_num, rfl, by rw [HS2.out]; exact HM.out.grow grI, by omega, grI⟩
          case measure => simp [intOf]; omega
    · go_wp2_with fail
      go_ret
      have hkl : k = (S.list 8).length := by omega
      have hM := HM.out.grow (w' := (w.alloc (.cells (stA V S.num) 29)).plus x) grI
      rw [hkl] at hM
      exact ⟨s, rfl, hM.cells.ints, fun b hb => by have := (hM.own b hb).1; simp only [alloc_size'] at this; omega, grI⟩
end Go.Proofs.YtnjclibennadcaaGreatDoor
namespace Go.Proofs.YtnjclibennadcaaGreatDoor
open Go Go.RowKit Go.Shelf

theorem gput_good (T8 : Table08) (w : World) (b : Nat) (own : Nat → Prop) (E : Em) (R : Gmt w b own E) (he : E.err = 0) (hR : Right E.now) (hw : ∀ i, i < E.now.objs.length → (rowAt E.now.objs i).length = 18) (a : Nat) (ha : a < E.now.objs.length) (base : Int) (hb : basesB base = true) (hn : E.evs.length + 14 ≤ 65536) (hpl : E.pend.length ≤ 65536) :
    Calls Tryz.prog 124 #[.pointer (some ⟨b, 0, none⟩), .int .i64 (a : Int), .int .i64 base] w fun r w' => r = .returned (.tuple #[]) ∧ DPost w b own (E.put a base) w' := by
  by_cases h : homeN (rowAt E.now.objs a) base = gt (rowAt E.now.objs a) 3
  · exact gput_same T8 w b own E R he hR hw a ha base hb hn hpl h
  · exact gput_other T8 w b own E R he hR hw a ha base hb hn hpl h
end Go.Proofs.YtnjclibennadcaaGreatDoor
namespace Go.Proofs.YtnjclibennadcaaGreatDoor
open Go Go.RowKit Go.Shelf

/-- What the document's rounds need. -/
structure CkG (w : World) (b : Nat) (own : Nat → Prop) (E : Em) : Prop where
  em : Gmt w b own E
  ck : CkE E
  glob : GlobE w own
theorem lost_or {S : St} (h : quietB S = false) (hr : resultN S = 0) : 0 < (dyingN S).length := (not_quiet (by rw [h]; simp)).2 hr
set_option maxRecDepth 100000 in
set_option maxHeartbeats 4000000 in
theorem dround_quiet (w : World) (b : Nat) (own : Nat → Prop) (E : Em) (R : Gmt w b own E) (h : E.err ≠ 0 ∨ E.now.num 24 ≠ 0) :
    Calls Tryz.prog 63 #[.pointer (some ⟨b, 0, none⟩)] w fun r w' => r = .returned (.bool false) ∧ Grow w w' := by
  obtain ⟨V, sd, se, sp, hr, ho⟩ := R
  obtain ⟨_, _, _, h40⟩ := hr.cells
  have h36 : w.cell? ⟨b, 36, none⟩ = some (I (E.now.num 24)) := (cell_of_blk hr.host.free hr.host.blk 36).trans (hoA_num _ _ _ 24 (by omega))
  have hlt := hr.host.lt
  clear hr ho
  by_cases he : E.err = 0
  · have h24 : (E.now.num 24 != 0) = true := by
      rcases h with h | h
      · exact absurd he h
      · simpa using h
    rw [he] at h40
    clear h he
    go_enter Tryz.func63, Tryz.ntmps63
    go_wp2_with fail
    go_ret
    exact ⟨rfl, grI⟩
  · have hb : (E.err != 0) = true := by simpa using he
    clear h he
    go_enter Tryz.func63, Tryz.ntmps63
    go_wp2_with fail
    go_ret
    exact ⟨rfl, grI⟩
theorem result_lost {S : St} (h : resultN S ≠ 0) : (lostB S 0 = true ∧ lostB S 1 = true ∧ resultN S = 3) ∨ (lostB S 0 = true ∧ lostB S 1 = false ∧ resultN S = 2) ∨ (lostB S 0 = false ∧ lostB S 1 = true ∧ resultN S = 1) := by
  unfold resultN at *
  cases h0 : lostB S 0 <;> cases h1 : lostB S 1 <;> simp [h0, h1] at h ⊢
theorem result_none {S : St} (h : resultN S = 0) : lostB S 0 = false ∧ lostB S 1 = false := by
  unfold resultN at h
  cases h0 : lostB S 0 <;> cases h1 : lostB S 1 <;> simp [h0, h1] at h ⊢
set_option maxRecDepth 100000 in
set_option maxHeartbeats 8000000 in
theorem dround_any (T8 : Table08) (O : Of17) (w : World) (b : Nat) (own : Nat → Prop) (E : Em) (R : CkG w b own E) (h24 : E.now.num 24 = 0) :
    Calls Tryz.prog 63 #[.pointer (some ⟨b, 0, none⟩)] w fun r w' => r = .returned (.bool (!quietB E.now)) ∧ DPost w b own E.round w' := by
  have hlt0 := R.em.lt
  have hsm := R.ck.right.smallN.small (show 400 ≤ 1048576 by omega)
  have hqv : quietB E.now = (resultN E.now == 0 && (dyingN E.now).length == 0) := by unfold quietB; rw [h24]; simp
  obtain ⟨V, sd, se, sp, hr, ho⟩ := R.em
  obtain ⟨_, _, _, h40⟩ := hr.cells
  rw [R.ck.err] at h40
  have h36 : w.cell? ⟨b, 36, none⟩ = some (I 0) := by rw [← h24]; exact (cell_of_blk hr.host.free hr.host.blk 36).trans (hoA_num _ _ _ 24 (by omega))
  have hbl := hr.host.blk
  have hlt := hr.host.lt
  have HLo := Lib.hid (fun W p => lost20_any E.now V W p)
  have HDy := Lib.hid (fun W (g : Grow w W) => dying20_own T8 O E.now V W ⟨hr.host.rep.grow g, R.ck.right, hsm, R.glob.base.grow g⟩)
  have HR := Lib.hid R
  have HLT := Lib.hid hlt0
  clear hlt0 hsm hr ho
  by_cases hres : resultN E.now = 0
  · obtain ⟨l0, l1⟩ := result_none hres
    have hrd : E.round = E.puts (dyingN E.now) := by unfold Em.round; rw [if_neg (by rw [hres]; simp)]
    rw [hrd, hqv, hres]
    have HCK := Lib.hid (ck_puts R.ck)
    have HTK := Lib.hid (puts_take E (dyingN E.now))
    have hfin : E.puts (dyingN E.now) = E.puts ((dyingN E.now).take (dyingN E.now).length) := by rw [List.take_length]
    have HZ : Hid (E.puts ((dyingN E.now).take 0) = E) := rfl
    have hdl : (dyingN E.now).length ≤ 65536 := Nat.le_trans (dying_len _) (by have := R.ck.evs; omega)
    have HPG := Lib.hid (show ∀ k, k < (dyingN E.now).length → ∃ a : Nat, gt (dyingN E.now) k = a ∧ a < (E.puts ((dyingN E.now).take k)).now.objs.length ∧ (E.puts ((dyingN E.now).take k)).evs.length + 14 ≤ 65536 from fun k hk => by
      have hm : gt (dyingN E.now) k ∈ dyingN E.now := by rw [gt_eq _ _ hk]; exact List.getElem_mem hk
      obtain ⟨z0, z1, _, _⟩ := R.ck.right.zon.ok 8 (by omega) _ (dying_sub E.now _ hm)
      have h1 := dying_len E.now
      have h2 := R.ck.evs
      have h3 : ((dyingN E.now).take k).length = k := by rw [List.length_take]; omega
      have P := puts_good ((dyingN E.now).take k) E R.ck.err R.ck.right R.ck.wid ((dying_nodup R.ck.right).sublist (List.take_sublist _ _)) (fun x hx => dying_sub _ x (List.mem_of_mem_take hx)) (by omega)
      have h4 := P.evs
      rw [h3] at h4
      exact ⟨(gt (dyingN E.now) k).toNat, by omega, by rw [P.many]; omega, by omega⟩)
    rw [hfin]
    have HT := Lib.hid T8
    generalize dyingN E.now = l at *
    clear hres hrd hfin hqv h24 T8 O R
    go_enter Tryz.func63, Tryz.ntmps63
    go_wp2_with fail
    refine wp_region_grow (by kernel_rfl) (by kernel_rfl) ?_; (repeat (go_big_quiet_step ( (go_at_call 122; first | refine Calls.grow2 (HLo.out _ _) | refine Calls.grow (HLo.out _ _)) ))); refine wpQuiet_nil ?_; rintro _ ⟨nx, rfl⟩
    go_wp2_with (go_at_call 123; refine (HDy.out _ grI).mono ?_; rintro e' w' ⟨s, rfl, hI, ho, nD, rfl⟩; (try simp only [drew_plus] at hI); (try simp only [plus_plus] at hI); have HI := Lib.hid hI; have HO := Lib.hid ho; have hsn := hI.len; clear hI ho)
    have hG : Grow w (w.plus (nx.and nD)) := grI
    have hI := HI.out
    have hos : ∀ k, s.owns k → ¬ own k := fun k hk hk2 => by
      have h1 := HO.out k hk
      have h2 := HLT.out k hk2
      simp only [plus_size] at h1
      omega
    have hem : Gmt (w.plus (nx.and nD)) b own E := HR.out.em.grow hG
    clear HI HO hbl h36 h40 HLo HDy
    generalize w.plus (nx.and nD) = W1 at *
    have HI := Lib.hid hI
    have HOS := Lib.hid hos
    have HEM := Lib.hid hem
    have HG := Lib.hid hG
    clear hI hos hem hG
    go_loopw [39] (fun i wr => ∃ (k : Nat) (ownk : Nat → Prop), k ≤ l.length ∧ i = .int .i64 k ∧ TurnG W1 b own (E.puts (l.take k)) wr ownk) (fun i _ => l.length - (intOf i).toNat)
    case atStart => exact ⟨0, own, by omega, rfl, by rw [HZ.out]; exact TurnG.first HEM.out⟩
    case round =>
      obtain ⟨k, ownk, hk, rfl, hTu⟩ := hrel
      have HTu := Lib.hid hTu
      by_cases hlt : k < l.length
      · obtain ⟨q1, q2⟩ := (HI.out.kept hTu.kept (fun hl => HOS.out _ (owns_of HI.out hl))).at k hlt
        obtain ⟨a, ha, hal, hev⟩ := HPG.out k hlt
        have hck := HCK.out k
        have HS := Lib.hid (HTK.out k hlt)
        rw [ha] at q2 HS
        have HPu := Lib.hid (fun Wx (g : Grow wr Wx) => gput_good HT.out Wx b ownk _ (hTu.em.grow g) hck.err hck.right hck.wid a hal 4 (by decide) hev (by have := hck.pend; omega))
        clear hTu hck ha hal hev
        go_wp2_with (go_at_call 124; refine (HPu.out _ grI).mono ?_; rintro e' w2 ⟨rfl, hE⟩; obtain ⟨own3, T3⟩ := HTu.out.step grI hE; rw [← HS.out] at T3; have HT3 := Lib.hid T3; clear hE T3)
        go_roundw
        case rel => exact ⟨k + 1, own3, by omega, by go_num, HT3.out⟩
        case measure => simp [intOf]; omega
      · have hkl : k = l.length := by omega
        subst hkl
        clear hTu
        go_wp2_with fail
        go_ret
        refine ⟨ret_bool ?_, HTu.out.post HG.out⟩
        cases l with
        | nil => rfl
        | cons x l => simp
  · have hin := result_in E.now
    have hqf : quietB E.now = false := by rw [hqv]; simp [hres]
    have hrd : E.round = E.setGame 6 (resultN E.now) := by unfold Em.round; rw [if_pos hres]
    rw [hrd, hqf]
    have HG := Lib.hid (fun W (g : Grow w W) (v : Int) (h0 : 0 ≤ v) (h3 : v ≤ 3) => ggame_any W b own E (R.em.grow g) (R.ck.right.smallN.small (show 400 ≤ 1048576 by omega)) (fun _ => by have := R.ck.evs; omega) 6 v (by omega) ⟨by omega, by omega⟩)
    clear hqv h24 hqf hrd HDy
    rcases result_lost hres with ⟨l0, l1, hv⟩ | ⟨l0, l1, hv⟩ | ⟨l0, l1, hv⟩
    all_goals
      rw [hv]
      clear hv hres hin R T8 O
      go_enter Tryz.func63, Tryz.ntmps63
      go_wp2_with fail
      refine wp_region_grow (by kernel_rfl) (by kernel_rfl) ?_; (repeat (go_big_quiet_step ( (go_at_call 122; first | refine Calls.grow2 (HLo.out _ _) | refine Calls.grow (HLo.out _ _)) ))); refine wpQuiet_nil ?_; rintro _ ⟨nx, rfl⟩
      go_wp2_with fail
      refine (HG.out _ grI _ (by omega) (by omega)).mono ?_
      rintro e' w2 ⟨rfl, hE⟩
      have HE : Hid (DPost w b own _ w2) := DPost.low grI hE
      clear hE
      go_wp2_with fail
      go_ret
      exact ⟨rfl, HE.out⟩
set_option maxRecDepth 100000 in
set_option maxHeartbeats 4000000 in
theorem would_any (T8 : Table08) (O : Of17) (S : St) (V : SV) (w : World) (h : RS S V w) : Calls Tryz.prog 64 #[.agg (stA V S.num)] w fun e w' => e = .returned (.bool (!quietB S)) ∧ Grow w w' := by
  have HLo := Lib.hid (fun W p => lost20_any S V W p)
  have HDy := Lib.hid (fun W (g : Grow w W) => dying20_any T8 O S V W (h.grow g))
  have hqv : quietB S = (S.num 24 != 0 || (resultN S == 0 && (dyingN S).length == 0)) := rfl
  clear h T8 O
  by_cases h24 : S.num 24 = 0
  · have hq : Hid (quietB S = (resultN S == 0 && (dyingN S).length == 0)) := by rw [Hid, hqv, h24]; simp
    have hres : Hid (resultN S = if lostB S 0 = true ∧ lostB S 1 = true then 3 else if lostB S 0 = true then 2 else if lostB S 1 = true then 1 else 0) := rfl
    clear hqv
    cases l0 : lostB S 0 with
    | true =>
      have hqf : Hid (quietB S = false) := by rw [Hid, hq.out, hres.out, l0]; cases lostB S 1 <;> simp
      clear hq hres
      go_enter Tryz.func64, Tryz.ntmps64
      go_wp2_with (go_at_call 122; refine (HLo.out _ _).mono ?_; rintro e' w' ⟨rfl, nl, rfl⟩)
      go_ret
      exact ⟨ret_bool (by rw [hqf.out]; rfl), grI⟩
    | false =>
      cases l1 : lostB S 1 with
      | true =>
        have hqf : Hid (quietB S = false) := by rw [Hid, hq.out, hres.out, l0, l1]; simp
        clear hq hres
        go_enter Tryz.func64, Tryz.ntmps64
        go_wp2_with (go_at_call 122; refine (HLo.out _ _).mono ?_; rintro e' w' ⟨rfl, nl, rfl⟩)
        go_ret
        exact ⟨ret_bool (by rw [hqf.out]; rfl), grI⟩
      | false =>
        have hqf : Hid (quietB S = ((dyingN S).length == 0)) := by rw [Hid, hq.out, hres.out, l0, l1]; simp
        clear hq hres
        generalize dyingN S = l at *
        go_enter Tryz.func64, Tryz.ntmps64
        go_wp2_with (first | (go_at_call 122; refine (HLo.out _ _).mono ?_; rintro e' w' ⟨rfl, nl, rfl⟩) | (go_at_call 123; refine (HDy.out _ grI).mono ?_; rintro e' w' ⟨s, rfl, hI, nd, rfl⟩; have hsn := hI.len; clear hI))
        go_ret
        refine ⟨ret_bool ?_, grI⟩
        rw [hqf.out]
        cases l with
        | nil => rfl
        | cons x l => simp
  · have hqf : Hid (quietB S = true) := by rw [Hid, hqv]; simp [h24]
    have h24b : (S.num 24 == 0) = false := by simpa using h24
    clear hqv h24
    go_enter Tryz.func64, Tryz.ntmps64
    go_wp2_with fail
    go_ret
    exact ⟨ret_bool (by rw [hqf.out]; rfl), grI⟩
/-! ### Run -/
theorem round_quiet {E : Em} (h : E.now.num 24 = 0) (hq : quietB E.now = true) : E.round = E := by
  unfold quietB at hq
  rw [h] at hq
  simp at hq
  unfold Em.round
  rw [if_neg (by rw [hq.1]; simp), hq.2]; rfl
theorem round_or {E : Em} (h : CkE E) (hq : ¬ quietB E.now = true) : E.round.now.num 24 ≠ 0 ∨ CkE E.round := by
  obtain ⟨h24, _⟩ := not_quiet hq
  by_cases hr : resultN E.now = 0
  · exact .inr (h.after hr)
  · have hin := result_in E.now
    have e : E.round = E.setGame 6 (resultN E.now) := by unfold Em.round; rw [if_pos hr]
    obtain ⟨e2, _⟩ := over_good h h24 (resultN E.now) (by omega) hin.2
    left
    rw [e, e2]
    show upd E.now.num 24 (resultN E.now) 24 ≠ 0
    rw [upd_same]; exact hr
/-- A round of the document, of what the rounds keep. -/
theorem dround_run (T8 : Table08) (O : Of17) (w : World) (b : Nat) (own : Nat → Prop) (E : Em) (R : Gmt w b own E) (GL : GlobE w own) (h : E.now.num 24 ≠ 0 ∨ CkE E) :
    Calls Tryz.prog 63 #[.pointer (some ⟨b, 0, none⟩)] w fun r w' => r = .returned (.bool (!quietB E.now)) ∧ DPost w b own (if quietB E.now = true then E else E.round) w' := by
  by_cases h24 : E.now.num 24 = 0
  · have hc : CkE E := by
      rcases h with h | h
      · exact absurd h24 h
      · exact h
    have := dround_any T8 O w b own E ⟨R, hc, GL⟩ h24
    by_cases hq : quietB E.now = true
    · rw [if_pos hq]
      rw [round_quiet h24 hq] at this
      exact this
    · rw [if_neg hq]; exact this
  · have hq := quiet_game h24
    rw [hq, if_pos rfl]
    exact (dround_quiet w b own E R (.inr h24)).mono fun _ _ h => ⟨h.1, .of_grow R h.2⟩
set_option maxRecDepth 100000 in
set_option maxHeartbeats 8000000 in
theorem drun_any (T8 : Table08) (O : Of17) (w : World) (b : Nat) (own : Nat → Prop) (E : Em) (R : Gmt w b own E) (GL : GlobE w own) (g : Nat) (h : RunI E g) (hj : E.now.num 24 ≠ 0 ∨ CkE E) (hg : g ≤ 1000000) (fuel : Int) :
    Calls Tryz.prog 16 #[.pointer (some ⟨b, 0, none⟩), .int .i64 fuel] w fun r w' => r = .returned (.int .i64 (runG g E fuel 0).2) ∧ DPost w b own (runG g E fuel 0).1 w' := by
  generalize hT : runG g E fuel 0 = T
  have HT := Lib.hid hT
  have HR := Lib.hid R
  have HGL := Lib.hid GL
  have HI := Lib.hid h
  have HJ := Lib.hid hj
  have HT8 := Lib.hid T8
  have HOf := Lib.hid O
  clear R GL h hT hj T8 O
  go_enter Tryz.func16, Tryz.ntmps16
  go_wp2_with fail
  go_loopw [5] (fun i wr => ∃ (k : Nat) (gk : Nat) (Ek : Em) (ownk : Nat → Prop), i = .int .i64 k ∧ k + gk = g ∧ TurnG w b own Ek wr ownk ∧ RunI Ek gk ∧ (Ek.now.num 24 ≠ 0 ∨ CkE Ek) ∧ Hid (runG gk Ek fuel k = T)) (fun i _ => g - (intOf i).toNat)
  case atStart => exact ⟨0, g, E, own, rfl, by omega, TurnG.first HR.out, HI.out, HJ.out, HT⟩
  case round =>
    obtain ⟨k, gk, Ek, ownk, rfl, hkg, hTu, hIk, hJk, hTk⟩ := hrel
    obtain ⟨g', rfl⟩ := hIk.pos
    have hgl := HGL.out.kept hTu.kept (fun j hj => (hTu.own j hj).imp id And.left)
    have hsm := hIk.right.smallN.small (show 400 ≤ 1048576 by omega)
    have HRo := Lib.hid (fun W (g : Grow wr W) => dround_run HT8.out HOf.out W b ownk Ek (hTu.em.grow g) (hgl.grow g) hJk)
    have HTu := Lib.hid hTu
    have hdr := hTk.out
    rw [runG, if_neg (by rw [hIk.err]; simp)] at hdr
    have HErr := Lib.hid hIk.err
    have HWo := Lib.hid (fun V W (r : RepSt W V Ek.now) (gb : Glob W) => would_any HT8.out HOf.out Ek.now V W ⟨r, hIk.right, hsm, gb⟩)
    by_cases hq : quietB Ek.now = true
    · rw [if_pos hq] at hdr
      subst hdr
      rw [hq, if_pos rfl] at HRo
      rw [hq] at HWo
      clear hIk hJk hTk hq hsm
      by_cases hf : (k : Int) < fuel
      · clear hTu
        go_wp2_with (first | (go_at_call 63; refine (HRo.out _ grI).mono ?_; rintro e' w2 ⟨rfl, hE⟩; obtain ⟨own2, T2⟩ := HTu.out.step grI hE; clear hE; have hg2 := HGL.out.kept T2.kept (fun j hj => (T2.own j hj).imp id And.left); obtain ⟨V2, sd2, se2, sp2, hr2, ho2⟩ := T2.em; obtain ⟨_, _, _, h40⟩ := hr2.cells; rw [HErr.out] at h40; have hb2 := hr2.host.blk; have hl2 := hr2.host.lt; have HWo2 := Lib.hid (fun W (g : Grow w2 W) => HWo.out V2 W (hr2.host.rep.grow g) (hg2.base.grow g)); have HT2 := Lib.hid T2; clear hr2 ho2 hg2 T2) | (go_at_call 64; refine (HWo2.out _ grI).mono ?_; rintro e' w' ⟨rfl, nw, rfl⟩))
        go_ret
        exact ⟨rfl, (HT2.out.grow grI).post (Grow.refl w)⟩
      · have hf2 : ((k : Int) < fuel) = False := by simp; omega
        clear hf
        have hg2 := HGL.out.kept hTu.kept (fun j hj => (hTu.own j hj).imp id And.left)
        obtain ⟨V2, sd2, se2, sp2, hr2, ho2⟩ := hTu.em
        obtain ⟨_, _, _, h40⟩ := hr2.cells
        rw [HErr.out] at h40
        have hb2 := hr2.host.blk
        have hl2 := hr2.host.lt
        have HWo2 := Lib.hid (fun W (g : Grow wr W) => HWo.out V2 W (hr2.host.rep.grow g) (hg2.base.grow g))
        clear hr2 ho2 hg2 hTu
        go_wp2_with (go_at_call 64; refine (HWo2.out _ grI).mono ?_; rintro e' w' ⟨rfl, nw, rfl⟩)
        go_ret
        exact ⟨rfl, (HTu.out.grow grI).post (Grow.refl w)⟩
    · have hov := hIk.over hq
      obtain ⟨hck, hIr⟩ := hIk.round hq
      rw [if_neg hq] at hdr
      have hqf : quietB Ek.now = false := by simpa using hq
      have hevl : Ek.evs.length < 65536 := by have := hck.evs; omega
      rw [hqf, if_neg (by simp)] at HRo
      rw [hqf] at HWo
      by_cases hf : fuel ≤ k
      · rw [if_pos hf, if_neg (by rw [hov]; simp)] at hdr
        subst hdr
        have hf2 : ((k : Int) < fuel) = False := by simp; omega
        have HG := Lib.hid (fun W (g : Grow wr W) => ggame_any W b ownk Ek (hTu.em.grow g) hsm (fun _ => hevl) 6 3 (by omega) (by omega))
        have HOV := Lib.hid hov
        clear hf hIk hJk hTk hq hqf hov hIr hck hsm hevl
        have hg2 := HGL.out.kept hTu.kept (fun j hj => (hTu.own j hj).imp id And.left)
        obtain ⟨V2, sd2, se2, sp2, hr2, ho2⟩ := hTu.em
        obtain ⟨_, _, _, h40⟩ := hr2.cells
        rw [HErr.out] at h40
        have hb2 := hr2.host.blk
        have hl2 := hr2.host.lt
        have HWo2 := Lib.hid (fun W (g : Grow wr W) => HWo.out V2 W (hr2.host.rep.grow g) (hg2.base.grow g))
        clear hr2 ho2 hg2 hTu
        go_wp2_with (go_at_call 64; refine (HWo2.out _ grI).mono ?_; rintro e' w' ⟨rfl, nw, rfl⟩)
        refine (HG.out _ grI).mono ?_
        rintro e' w3 ⟨rfl, hE⟩
        obtain ⟨own3, T3⟩ := HTu.out.step grI hE
        obtain ⟨V3, sd3, se3, sp3, hr3, ho3⟩ := T3.em
        obtain ⟨_, _, _, h340⟩ := hr3.cells
        have h3z : (Ek.setGame ((6 : Nat) : Int) 3).err = 0 := HOV.out
        rw [h3z] at h340
        have hl3 := hr3.host.lt
        have HT3 := Lib.hid T3
        clear hE T3 hr3 ho3 h3z
        go_wp2_with fail
        go_ret
        exact ⟨rfl, (HT3.out.grow grI).post (Grow.refl w)⟩
      · rw [if_neg hf] at hdr
        have hf2 : (k : Int) < fuel := by omega
        have HJr := Lib.hid (round_or hck hq)
        have HIr := Lib.hid hIr
        have HDR := Lib.hid hdr
        clear hf hTu hIk hJk hTk hq hqf hov hIr hck hsm hevl hdr
        go_wp2_with (go_at_call 63; refine (HRo.out _ grI).mono ?_; rintro e' w2 ⟨rfl, hE⟩; obtain ⟨own2, T2⟩ := HTu.out.step grI hE; have HT2 := Lib.hid T2; clear hE T2)
        go_roundw
        case rel => exact ⟨k + 1, g', Ek.round, own2, by go_num, by omega, HT2.out, HIr.out, HJr.out, by have := HDR.out; rw [Hid]; rw [Int.natCast_add]; exact this⟩
        case measure => simp [intOf]; omega
end Go.Proofs.YtnjclibennadcaaGreatDoor
