/-
  The law EmitRight, walked.
-/
import Derived.Test.YtkbghjfagnjpoaaGreatDoorMDo19
import Derived.Test.YtkbghjfagnjpoaaGreatDoorMAlive19
import Derived.Test.YtkbghjfagnjpoaaGreatDoorMRefChk
namespace Go.Proofs.YtkbghjfagnjpoaaGreatDoor
open Go Go.RowKit Go.Shelf

@[go_sem ↓] theorem load_Act (ρ : Operand → Value) (dst : Option Tmp) (x : Operand) (ty : TypeId) (pos : String) (after : Array Edge) (guard : Option (Nat × Bool)) :
    execOp ρ { dst, op := .load 51 x, type := ty, pos, after, guard } = ldRow 51 (ρ x) := rfl
@[go_sem ↓] theorem store_Act (ρ : Operand → Value) (dst : Option Tmp) (x y : Operand) (ty : TypeId) (pos : String) (after : Array Edge) (guard : Option (Nat × Bool)) :
    execOp ρ { dst, op := .store 51 x y, type := ty, pos, after, guard } = stRow 51 (ρ x) (ρ y) := rfl
@[go_sem] theorem run_load_Act (w : World) (b o : Nat) (h : o + 4 ≤ (w.blk b).size) : (ldRow 51 (.pointer (some ⟨b, o, none⟩))).run Tryz.prog w = .ok (.value (.agg (sub (w.blk b) o 4))) w :=
  run_ldSub w b o 51 4 (by kernel_rfl) (by kernel_rfl) h (by omega)
@[go_sem] theorem run_store_Act (w : World) (b : Nat) (cs : Array Value) (h : (w.blk b).size = 4) (hc : cs.size = 4) (h1 : oneCells cs = true) (hf : w.free b = true) : (stRow 51 (.pointer (some ⟨b, 0, none⟩)) (.agg cs)).run Tryz.prog w = .ok .skip (w.setRow b cs) :=
  run_stRow w b 51 4 _ (by kernel_rfl) h hc (by omega) hf h1
@[go_sem] theorem indexAt_acts (w : World) (s : Sl) (q : IntKind) (i : Int) (h0 : 0 ≤ i) (h1 : i < s.n) : (Instr.indexAt 45 s.val (.int q i)).run Tryz.prog w = .ok (.pointer (some ⟨s.b, s.o + i.toNat * 4, none⟩)) w :=
  run_indexAt_sl w Tryz.underlying45 (fun w => (by kernel_rfl : (sizeOf 51).run Tryz.prog w = .ok 4 w)) s q i h0 h1
theorem Gd.act {L n m : Nat} {d : List Int} {E : Em} (h : Gd L n m d E) (hn : n + 14 ≤ 65536) (k a b c : Int) : Out L (n + 1000) (m + 2) d (E.act k a b c) := by
  unfold Em.act
  split
  · exact (h.put hn a b).mono (by omega) (by omega)
  split
  · exact (h.make a b c).mono (by omega) (by omega)
  split
  · exact (h.life a b).mono (by omega) (by omega)
  split
  · exact (h.mana a b c).mono (by omega) (by omega)
  split
  · exact (h.draw hn a).mono (by omega) (by omega)
  split
  · exact (h.pick a).mono (by omega) (by omega)
  split
  · exact (h.shuffle a).mono (by omega) (by omega)
  split
  · exact (h.show a b).mono (by omega) (by omega)
  split
  · exact Or.inr ⟨h.err, h.right, h.wid, by have := h.evs; show E.evs.length ≤ _; omega, Nat.zero_le _, h.draws, h.len⟩
  · exact (h.mono (by omega) (by omega)).out
theorem Gd.rdy {L n m : Nat} {d : List Int} {E : Em} {w : World} {own : Nat → Prop} (h : Gd L n m d E) (hn : n ≤ 65536) (hm : m ≤ 131072) (hd : d.length ≤ 1048576) (G : GlobE w own) : Rdy w own E where
  err := h.err
  ok := ⟨h.right.smallN.mono (by omega), by have := h.evs; omega, by have := h.pend; omega⟩
  glob := G
  zone := fun i hi => by
    obtain ⟨h1, h2⟩ := h.right.num hi (f := 3) (by decide)
    have h1 : 0 ≤ gt (rowAt E.now.objs i) 3 := h1
    have h2 : gt (rowAt E.now.objs i) 3 ≤ 10 := h2
    omega
  card := fun i hi => h.right.card hi
  nums := fun q hq => by
    have hp : ∀ p f, p < 2 → f < 9 → q = p * 9 + f → -1073741824 ≤ E.now.num q ∧ E.now.num q ≤ 1073741824 := fun p f hp hf e => by
      have := h.right.pl p f hp hf
      rw [e]
      have hf' : f = 0 ∨ f = 1 ∨ f = 2 ∨ f = 3 ∨ f = 4 ∨ f = 5 ∨ f = 6 ∨ f = 7 ∨ f = 8 := by omega
      rcases hf' with rfl | rfl | rfl | rfl | rfl | rfl | rfl | rfl | rfl <;> simp [plBounds, gt] at this <;> omega
    exact hp (q / 9) (q % 9) (by omega) (by omega) (by omega)
  draws := by rw [h.draws]; exact hd
  cur := by
    have h1 : 0 ≤ E.now.num 23 ∧ E.now.num 23 ≤ 4096 := h.right.gm 5 (by decide)
    omega
theorem row4r {l : List (List Int)} {i : Nat} (h : (rowAt l i).length = 4) : ∃ k a b c, rowAt l i = [k, a, b, c] := by
  match hr : rowAt l i, h with
  | [k, a, b, c], _ => exact ⟨k, a, b, c, rfl⟩
theorem new_out {S : St} (h : checkN S = 0) (hw : WidSt S) (d : List Int) : Out S.objs.length 0 0 d (Em.new S d) := by
  unfold Em.new Em.fail
  rw [h, if_pos rfl]
  by_cases hd : 4096 < d.length
  · rw [if_pos hd]; exact Or.inl (by show (19 : Int) ≠ 0; decide)
  · rw [if_neg hd]; exact Or.inr ⟨rfl, (checkN_zero S).1 h, hw, Nat.le_refl _, Nat.le_refl _, rfl, Nat.le_refl _⟩
theorem actBad_errR (E : Em) (k : Int) : (E.actBad k).err = E.err := by unfold Em.actBad; split <;> rfl
set_option maxRecDepth 100000 in
set_option maxHeartbeats 8000000 in
theorem right_law (S : St) (V : SV) (w : World) (R : RepSt w V S) (GL : GlobE w (fun k => w.heap.size ≤ k)) (HA : ∀ W, Grow w W → Calls Tryz.prog 11 #[] W fun e w' => e = .returned (.bool true) ∧ Grow W w')
    (sd : Sl) (draws : List Int) (RD : Ints w sd draws) (hsd : sd.n ≤ 9223372036854775807) (sa : Sl) (acts : List (List Int)) (RA : Rows' w sa 4 acts ∧ ∀ i j, i < acts.length → j < 4 → gt (rowAt acts i) j ≤ 9223372036854775807) (hsa : sa.n ≤ 9223372036854775807) :
    Calls Tryz.prog 4 #[.agg (stA V S.num), sd.val, sa.val] w fun e w' => e = .returned (.bool true) ∧ Grow w w' := by
  obtain ⟨RA, hin⟩ := RA
  have HAl := Lib.hid HA
  have HLo := Lib.hid (fun W (g : Grow w W) => long19_any S V W (R.grow g) sd sa hsd hsa)
  cases hl : long19B S sd.n sa.n with
  | true =>
    rw [hl] at HLo
    clear R GL hl HA RA hsa RD hsd hin
    go_enter Tryz.func4, Tryz.ntmps4
    go_wp2_with (first | (go_at_call 11; refine (HAl.out _ grI).mono ?_; rintro e' w' ⟨rfl, nx, rfl⟩) | (go_at_call 12; refine (HLo.out _ grI).mono ?_; rintro e' w' ⟨rfl, nx, rfl⟩))
    go_ret
    exact ⟨rfl, grI⟩
  | false =>
  have hl2 := hl
  unfold long19B at hl2
  simp only [Bool.or_eq_false_iff, decide_eq_false_iff_not] at hl2
  have hsm := long_small 30 hl2.1
  have hSm := hsm.small (show 40 ≤ 1048576 by omega)
  have ha20 : sa.n ≤ 20 := by omega
  have hd5 : draws.length ≤ 5000 := by have := RD.len; omega
  rw [hl] at HLo
  have HCk := Lib.hid (fun W (g : Grow w W) => refCheck_any S V W (R.grow g) hSm)
  cases hck : (checkN S == 0) with
  | false =>
    have hckb : (checkN S != 0) = true := by simpa using hck
    have hckn : ¬ checkN S = 0 := by simpa using hck
    generalize checkN S = n at *
    clear R GL hl HA RA hsa RD hsd hin hck hl2 hsm hSm
    go_enter Tryz.func4, Tryz.ntmps4
    go_wp2_with (first | (go_at_call 11; refine (HAl.out _ grI).mono ?_; rintro e' w' ⟨rfl, nx, rfl⟩) | (go_at_call 12; refine (HLo.out _ grI).mono ?_; rintro e' w' ⟨rfl, nx, rfl⟩) | (go_at_call 13; refine (HCk.out _ grI).mono ?_; rintro e' w' ⟨rfl, nx, rfl⟩))
    go_ret
    exact ⟨rfl, grI⟩
  | true =>
  have hc0 : checkN S = 0 := by simpa using hck
  have HNew := Lib.hid (fun W (g : Grow w W) => new_any S V W (R.grow g) hSm (GL.base.grow g) sd draws (RD.grow g) (by omega))
  have HOut := Lib.hid (new_out hc0 (fun i hi => R.objs.wid i hi) draws)
  have hN := RA.len
  have hSn := R.objs.len
  have HRA := Lib.hid RA
  have HIN := Lib.hid hin
  have HGL := Lib.hid GL
  have HRAB := Lib.hid (fun (hl : 0 < acts.length) => (RA.at (by omega) 0 hl).1)
  rw [hc0] at HCk
  clear hl hl2 HA R GL hSm hsm RA hsa RD hsd hin hck hc0
  generalize Em.new S draws = E0 at *
  go_enter Tryz.func4, Tryz.ntmps4
  go_wp2_with (first | (go_at_call 11; refine (HAl.out _ grI).mono ?_; rintro e' w' ⟨rfl, m1, rfl⟩) | (go_at_call 12; refine (HLo.out _ grI).mono ?_; rintro e' w' ⟨rfl, m2, rfl⟩) | (go_at_call 13; refine (HCk.out _ grI).mono ?_; rintro e' w' ⟨rfl, m3, rfl⟩) | (go_at_call 14; refine (HNew.out _ grI).mono ?_; rintro e' w1 ⟨b, own, rfl, hem, hown, nN, rfl⟩; have HEM := Lib.hid hem; have HOW := Lib.hid hown; clear hem hown))
  have hem := HEM.out
  have how := HOW.out
  (try simp only [drew_plus] at hem); (try simp only [plus_plus] at hem)
  have hownw : ∀ k, own k → w.heap.size < k := fun k hk => by
    have h1 := (how k hk).1
    simp only [plus_size, alloc_size'] at h1
    omega
  have hgW : Grow w ((w.alloc (.cells (stA V S.num) 29)).plus (((m1.and m2).and m3).and nN)) := grI
  have hqb : ((w.alloc (.cells (stA V S.num) 29)).plus (((m1.and m2).and m3).and nN)).blk w.heap.size = stA V S.num := by go_simp
  have hqf : ((w.alloc (.cells (stA V S.num) 29)).plus (((m1.and m2).and m3).and nN)).free w.heap.size = true := by go_simp
  have hql : w.heap.size < ((w.alloc (.cells (stA V S.num) 29)).plus (((m1.and m2).and m3).and nN)).heap.size := (by first | (go_simp; done) | (go_simp; omega) | (simp only [Sl.b]; go_simp; omega))
  clear HEM HOW how HNew HAl HLo HCk
  generalize (w.alloc (.cells (stA V S.num) 29)).plus (((m1.and m2).and m3).and nN) = W1 at *
  have HGW := Lib.hid hgW
  have HEM := Lib.hid hem
  have HOW := Lib.hid hownw
  have HQB := Lib.hid hqb
  have HQF := Lib.hid hqf
  have HQL := Lib.hid hql
  have HGLW := Lib.hid (HGL.out.kept (own' := own) (hgW.kept _) (fun k hk => Or.inl (Nat.le_of_lt (hownw k hk))))
  clear hem hownw hqb hqf hql hgW
  go_loopw [27] (fun i wr => ∃ (k : Nat) (ownk : Nat → Prop) (Ek : Em), k ≤ acts.length ∧ i = .int .i64 k ∧ Turn W1 b own Ek wr ownk ∧ Out S.objs.length (1000 * k) (2 * k) draws Ek) (fun i _ => acts.length - (intOf i).toNat)
  case atStart => exact ⟨0, own, E0, by omega, rfl, Turn.first HEM.out, HOut.out⟩
  case round =>
    obtain ⟨k, ownk, Ek, hk, rfl, hTu, hO⟩ := hrel
    by_cases hlt : k < acts.length
    · have hgr := (hTu.kept.grow_of HGW.out (fun k hk => Nat.le_of_lt (HOW.out k hk)))
      obtain ⟨qb, qw, qsz, qsub, _⟩ := (HRA.out.grow hgr).at (by omega) k hlt
      obtain ⟨a0, a1, a2, a3, hrow⟩ := row4r qw
      have hi1 : a1 ≤ 9223372036854775807 := by have := HIN.out k 1 hlt (by omega); rw [hrow] at this; exact this
      rw [hrow] at qsub qw
      have hg0 : gt [a0, a1, a2, a3] 0 = a0 := rfl
      have HGR := Lib.hid hgr
      have HTu := Lib.hid hTu
      have HO := Lib.hid hO
      clear hrow hgr
      by_cases h3 : a0 < 3
      · clear hTu hO
        go_wp2_with fail
        go_roundw
        case rel => exact ⟨k + 1, ownk, Ek, by omega, by go_num, HTu.out.grow grI, HO.out.mono (by omega) (by omega)⟩
        case measure => simp [intOf]; omega
      · by_cases he : Ek.err = 0
        · have hG : Gd S.objs.length (1000 * k) (2 * k) draws Ek := hO.resolve_left (fun h => h he)
          have HDo := Lib.hid (fun W (g : Grow wr W) => do19_any W b ownk Ek (HTu.out.em.grow g) (hG.rdy (by omega) (by omega) (by omega) ((HTu.out.glob HGLW.out).grow g)) a0 a1 a2 a3 (by omega) hi1)
          have HAct := Lib.hid (hG.act (by omega) a0 a1 a2 a3)
          clear hTu hO hG he
          generalize Ek.act a0 a1 a2 a3 = E5 at *
          by_cases h5 : E5.err = 0
          · have hG5 : Gd S.objs.length (1000 * k + 1000) (2 * k + 2) draws E5 := HAct.out.resolve_left (fun h => h h5)
            have hsm5 := hG5.right.smallN.small (show 400 ≤ 1048576 by omega)
            have hc5 := (checkN_zero E5.now).2 hG5.right
            have hs5 : E5.state = E5.now := by unfold Em.state; rw [if_neg (by rw [h5]; simp)]
            have hl5 : ¬ E5.now.objs.length < S.objs.length := by have := hG5.len; omega
            have HG5 := Lib.hid hG5
            have HH5 := Lib.hid h5
            have HSM := Lib.hid hsm5
            have HCk5 := Lib.hid (fun (W : World) (V' : SV) (R' : RepSt W V' E5.now) => by have := refCheck_any E5.now V' W R' hsm5; rw [hc5] at this; exact this)
            have HS5 := Lib.hid hs5
            clear hG5 hsm5 hc5 hs5 h5
            go_wp2_with fail
            refine (HDo.out _ grI).mono ?_
            rintro e' w5 ⟨⟨v, rfl⟩, hE⟩
            obtain ⟨own5, T5⟩ := HTu.out.step grI hE
            have hq5 : w5.blk w.heap.size = stA V S.num := by rw [T5.kept.blk _ HQL.out (fun h => by have := HOW.out _ h; omega)]; exact HQB.out
            have hf5 : w5.free w.heap.size = true := by rw [T5.kept.free _ HQL.out (fun h => by have := HOW.out _ h; omega)]; exact HQF.out
            have hz5 : w.heap.size < w5.heap.size := Nat.lt_of_lt_of_le HQL.out T5.kept.size
            have hne5 : ¬ w.heap.size = w5.heap.size := by omega
            have hcc5 := cell_of_blk hf5 hq5
            clear hf5 hq5
            have HEr5 := Lib.hid (fun W (g : Grow w5 W) => by have := err_any W b own5 _ (T5.em.grow g); rw [HH5.out, errV_0] at this; exact this)
            have HSt5 := Lib.hid (fun W (g : Grow w5 W) => by have := estate_any W b own5 _ (T5.em.grow g) HSM.out; rw [HS5.out] at this; exact this)
            have HT5 := Lib.hid T5
            clear hE T5 HDo
            go_wp2_with (first | (go_at_call 16; refine (HEr5.out _ grI).mono ?_; rintro e' w' ⟨rfl, nx, rfl⟩) | (go_at_call 17; refine (HSt5.out _ grI).mono ?_; rintro e' w' ⟨V', rfl, hR', _, n6, rfl⟩; (try simp only [drew_plus] at hR'); (try simp only [plus_plus] at hR'); have hn6 := hR'.objs.len; have HR' := Lib.hid hR'; clear hR') | (go_at_call 13; refine (HCk5.out _ V' (HR'.out.grow grI)).mono ?_; rintro e' w' ⟨rfl, n7, rfl⟩))
            go_roundw
            case rel => exact ⟨k + 1, own5, E5, by omega, by go_num, HT5.out.grow grI, Or.inr (HG5.out.mono (by omega) (by omega))⟩
            case measure => simp [intOf]; omega
          · have HH5 := Lib.hid h5
            clear h5
            go_wp2_with fail
            refine (HDo.out _ grI).mono ?_
            rintro e' w5 ⟨⟨v, rfl⟩, hE⟩
            obtain ⟨own5, T5⟩ := HTu.out.step grI hE
            have HEr5 := Lib.hid (fun W (g : Grow w5 W) => by have := err_any W b own5 _ (T5.em.grow g); rw [errV_is HH5.out] at this; exact this)
            have HG6 := Lib.hid (T5.kept.grow_of HGW.out (fun k hk => Nat.le_of_lt (HOW.out k hk)))
            clear hE T5 HDo
            go_wp2_with (go_at_call 16; refine (HEr5.out _ grI).mono ?_; rintro e' w' ⟨rfl, nx, rfl⟩)
            go_ret
            exact ⟨rfl, HG6.out.trans grI⟩
        · have HDo := Lib.hid (fun W (g : Grow wr W) => do19_err W b ownk Ek (HTu.out.em.grow g) he a0 a1 a2 a3)
          have HH5 : Hid ((Ek.actBad a0).err ≠ 0) := by rw [Hid, actBad_errR]; exact he
          clear hTu hO he
          generalize Ek.actBad a0 = E5 at *
          go_wp2_with fail
          refine (HDo.out _ grI).mono ?_
          rintro e' w5 ⟨rfl, hE⟩
          obtain ⟨own5, T5⟩ := HTu.out.step grI hE
          have HEr5 := Lib.hid (fun W (g : Grow w5 W) => by have := err_any W b own5 _ (T5.em.grow g); rw [errV_is HH5.out] at this; exact this)
          have HG6 := Lib.hid (T5.kept.grow_of HGW.out (fun k hk => Nat.le_of_lt (HOW.out k hk)))
          clear hE T5 HDo
          go_wp2_with (go_at_call 16; refine (HEr5.out _ grI).mono ?_; rintro e' w' ⟨rfl, nx, rfl⟩)
          go_ret
          exact ⟨rfl, HG6.out.trans grI⟩
    · have HG6 := Lib.hid (hTu.kept.grow_of HGW.out (fun k hk => Nat.le_of_lt (HOW.out k hk)))
      clear hTu hO
      go_wp2_with fail
      go_ret
      exact ⟨rfl, HG6.out⟩
end Go.Proofs.YtkbghjfagnjpoaaGreatDoor
