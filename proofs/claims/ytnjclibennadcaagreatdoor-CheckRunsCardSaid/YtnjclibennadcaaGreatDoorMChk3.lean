/-
  The walks of check's round and Run.
  The walk of emit's New.
-/
import Derived.Test.YtnjclibennadcaaGreatDoorMChk
import Derived.Test.YtnjclibennadcaaGreatDoorMEm9
import Derived.Test.YtnjclibennadcaaGreatDoorMEm
namespace Go.Proofs.YtnjclibennadcaaGreatDoor
open Go Go.RowKit Go.Shelf

/-- What rounds need of an emitter in memory. -/
structure CkM (w : World) (b : Nat) (own : Nat → Prop) (E : Em) : Prop where
  em : Emt w b own E
  ck : CkE E
  glob : GlobE w own
theorem CkE.ok {E : Em} (h : CkE E) : EmOk E 65536 := ⟨h.right.smallN.mono (by omega), by have := h.evs; omega, by have := h.pend; omega⟩
theorem CkE.state {E : Em} (h : CkE E) : E.state = E.now := by unfold Em.state; rw [if_neg (by rw [h.err]; simp)]
theorem CkE.zone {E : Em} (h : CkE E) : E.err = 0 → ∀ i, i < E.now.objs.length → 0 ≤ gt (rowAt E.now.objs i) 3 ∧ gt (rowAt E.now.objs i) 3 < 11 := fun _ i hi => by
  have : 0 ≤ gt (rowAt E.now.objs i) 3 ∧ gt (rowAt E.now.objs i) 3 ≤ 10 := okTo18 _ _ (h.right.row hi) 3 (by omega)
  omega
theorem CkE.card {E : Em} (h : CkE E) : E.err = 0 → ∀ i, i < E.now.objs.length → 0 ≤ gt (rowAt E.now.objs i) 0 ∧ gt (rowAt E.now.objs i) 0 < 120 := fun _ _ hi => h.right.card hi
theorem PutsTo.ck {E E' : Em} {n : Nat} (h : PutsTo E E' n) (c : CkE E) : CkE E' := by
  have h1 := h.evs; have h2 := h.pend; have h3 := h.list; have h4 := c.evs; have h5 := c.pend
  exact ⟨h.err, h.right, h.wid, by omega, by omega⟩
theorem puts_take (E : Em) (l : List Int) (k : Nat) (h : k < l.length) : E.puts (l.take (k + 1)) = (E.puts (l.take k)).put (gt l k) 4 := by
  have : l.take (k + 1) = l.take k ++ [gt l k] := by
    rw [List.take_succ_eq_append_getElem h]
    simp [gt, h]
  unfold Em.puts
  rw [this, List.foldl_append]; rfl
theorem ck_puts {E : Em} (h : CkE E) (k : Nat) : CkE (E.puts ((dyingN E.now).take k)) := by
  have h1 := dying_len E.now
  have h2 := h.evs
  have hl : ((dyingN E.now).take k).length ≤ (dyingN E.now).length := by rw [List.length_take]; omega
  exact (puts_good _ E h.err h.right h.wid ((dying_nodup h.right).sublist (List.take_sublist _ _)) (fun x hx => dying_sub _ x (List.mem_of_mem_take hx)) (by omega)).ck h
set_option maxRecDepth 100000 in
set_option maxHeartbeats 4000000 in
theorem round_any (w : World) (b : Nat) (own : Nat → Prop) (E : Em) (R : CkM w b own E) :
    Calls Tryz.prog 62 #[.pointer (some ⟨b, 0, none⟩)] w fun r w' => r = .returned (.tuple #[]) ∧ EPost w b own E.round w' := by
  have hlt := R.em.lt
  have hsm := R.ck.right.smallN.small (show 400 ≤ 1048576 by omega)
  have HSt := Lib.hid (fun W (g : Grow w W) => by have := estate_any W b own E (R.em.grow g) hsm; rw [R.ck.state] at this; exact this)
  have HRes := Lib.hid (fun V W => result_any E.now V W)
  have HDy := Lib.hid (fun V W (r : RepSt W V E.now) (g : Grow w W) => dying_any E.now V W ⟨r, R.ck.right, hsm, R.glob.base.grow g⟩)
  have HR := Lib.hid R
  have HLT := Lib.hid hlt
  clear hlt hsm
  by_cases hr : resultN E.now = 0
  · have hrd : E.round = E.puts (dyingN E.now) := by unfold Em.round; rw [if_neg (by rw [hr]; simp)]
    rw [hrd]
    rw [hr] at HRes
    have HCK := Lib.hid (ck_puts R.ck)
    have HTK := Lib.hid (puts_take E (dyingN E.now))
    have hfin : E.puts (dyingN E.now) = E.puts ((dyingN E.now).take (dyingN E.now).length) := by rw [List.take_length]
    have hz : E.puts ((dyingN E.now).take 0) = E := rfl
    have hdl : (dyingN E.now).length ≤ 65536 := Nat.le_trans (dying_len _) (by have := R.ck.evs; omega)
    rw [hfin]
    have HZ := Lib.hid hz
    generalize dyingN E.now = l at *
    clear hr hrd R hfin hz
    go_enter Tryz.func62, Tryz.ntmps62
    go_wp2_with (first | (go_at_call 38; refine (HSt.out _ grI).mono ?_; rintro e' w' ⟨V', rfl, hR', _, nS, rfl⟩; have HR' := Lib.hid hR'; clear hR') | (go_at_call 117; refine (HRes.out _ _).mono ?_; rintro e' w' ⟨rfl, nR, rfl⟩) | (go_at_call 118; refine (HDy.out _ _ (HR'.out.grow grI) grI).mono ?_; rintro e' w' ⟨s, rfl, hI, ho, nD, rfl⟩; (try simp only [drew_plus] at hI); (try simp only [plus_plus] at hI); have HI := Lib.hid hI; have HO := Lib.hid (fun b hb => (ho b hb).1); have hsn := hI.len; clear hI ho))
    have hG : Grow w (((w.plus nS).alloc (.cells (stA V' E.now.num) 29)).plus (nR.and nD)) := grI
    have hI := HI.out
    have hos : ∀ k, s.owns k → ¬ own k := fun k hk hk2 => by
      have h1 := HO.out k hk
      have h2 := HLT.out k hk2
      simp only [plus_size, alloc_size'] at h1
      omega
    have hem : Emt (((w.plus nS).alloc (.cells (stA V' E.now.num) 29)).plus (nR.and nD)) b own E := HR.out.em.grow hG
    have hgl := HR.out.glob.grow hG
    clear HI HO HR'
    generalize ((w.plus nS).alloc (.cells (stA V' E.now.num) 29)).plus (nR.and nD) = W1 at *
    have HI := Lib.hid hI
    have HOS := Lib.hid hos
    have HEM := Lib.hid hem
    have HG := Lib.hid hG
    have HGL := Lib.hid hgl
    clear hI hos hem hG hgl
    go_loopw [18] (fun i wr => ∃ (k : Nat) (ownk : Nat → Prop), k ≤ l.length ∧ i = .int .i64 k ∧ Turn W1 b own (E.puts (l.take k)) wr ownk) (fun i _ => l.length - (intOf i).toNat)
    case atStart => exact ⟨0, own, by omega, rfl, by rw [HZ.out]; exact Turn.first HEM.out⟩
    case round =>
      obtain ⟨k, ownk, hk, rfl, hTu⟩ := hrel
      have HTu := Lib.hid hTu
      by_cases hlt : k < l.length
      · obtain ⟨q1, q2⟩ := (HI.out.kept hTu.kept (fun hl => HOS.out _ (owns_of HI.out hl))).at k hlt
        have hck := HCK.out k
        have HS := Lib.hid (HTK.out k hlt)
        generalize gt l k = x at *
        generalize E.puts (l.take k) = Ek at *
        have HPu := Lib.hid (fun Wx (g : Grow wr Wx) => eput_any Wx b ownk Ek (hTu.em.grow g) 65536 hck.ok (by omega) ((hTu.glob HGL.out).grow g) hck.zone hck.card x 4)
        clear hTu hck
        go_wp2_with (go_at_call 91; refine (HPu.out _ grI).mono ?_; rintro e' w2 ⟨rfl, hE⟩; obtain ⟨own3, T3⟩ := HTu.out.step grI hE; rw [← HS.out] at T3; have HT3 := Lib.hid T3; clear hE T3)
        go_roundw
        case rel => exact ⟨k + 1, own3, by omega, by go_num, HT3.out⟩
        case measure => simp [intOf]; omega
      · have hkl : k = l.length := by omega
        subst hkl
        clear hTu
        go_wp2_with fail
        go_end0
        exact ⟨rfl, HTu.out.post HG.out⟩
  · have hrd : E.round = E.setGame 6 (resultN E.now) := by unfold Em.round; rw [if_pos hr]
    rw [hrd]
    have HG := Lib.hid (fun W (g : Grow w W) v => esetGame_any W b own E (R.em.grow g) 65536 R.ck.ok (by omega) 6 v)
    generalize resultN E.now = res at *
    clear hrd R
    go_enter Tryz.func62, Tryz.ntmps62
    go_wp2_with (first | (go_at_call 38; refine (HSt.out _ grI).mono ?_; rintro e' w' ⟨V', rfl, hR', _, nx, rfl⟩; have HR' := Lib.hid hR'; clear hR') | (go_at_call 117; refine (HRes.out _ _).mono ?_; rintro e' w' ⟨rfl, nx, rfl⟩) | (go_at_call 61; refine (HG.out _ grI _).mono ?_; rintro e' w' ⟨rfl, hE⟩; have HE := Lib.hid hE; clear hE))
    refine bodyPost_ret (results_none rfl _ _ _) rfl ?_
    exact ⟨rfl, EPost.low grI HE.out⟩
/-! ### Run -/
/-- What the loop of Run keeps. -/
structure RunI (E : Em) (g : Nat) : Prop where
  err : E.err = 0
  right : Right E.now
  evs : E.evs.length ≤ 65536
  pend : E.pend.length ≤ 65536
  wid : ∀ i, i < E.now.objs.length → (rowAt E.now.objs i).length = 18
  gas : (quietB E.now = true ∧ 1 ≤ g) ∨ (CkE E ∧ (E.now.list 8).length + 2 ≤ g)
theorem RunI.of {E : Em} (h : CkE E) (g : Nat) (hg : (E.now.list 8).length + 2 ≤ g) : RunI E g := ⟨h.err, h.right, by have := h.evs; omega, by have := h.pend; omega, h.wid, .inr ⟨h, hg⟩⟩
theorem RunI.round {E : Em} {g : Nat} (h : RunI E (g + 1)) (hq : ¬ quietB E.now = true) : CkE E ∧ RunI E.round g := by
  rcases h.gas with h1 | ⟨h1, h2⟩
  · exact absurd h1.1 hq
  refine ⟨h1, ?_⟩
  obtain ⟨h24, hd⟩ := not_quiet hq
  by_cases hr : resultN E.now = 0
  · have P := h1.round hr
    have := P.list
    have := hd hr
    exact RunI.of (h1.after hr) g (by omega)
  · have hin := result_in E.now
    obtain ⟨_, R⟩ := over_good h1 h24 (resultN E.now) (by omega) hin.2
    have e : E.round = E.setGame 6 (resultN E.now) := by unfold Em.round; rw [if_pos hr]
    rw [e]
    exact ⟨R.err, R.right, by have := R.evs; have := h1.evs; omega, by have := R.pend; have := h1.pend; omega, R.wid, .inl ⟨R.quiet, by omega⟩⟩
theorem RunI.over {E : Em} {g : Nat} (h : RunI E (g + 1)) (hq : ¬ quietB E.now = true) : (E.setGame 6 3).err = 0 := by
  rcases h.gas with h1 | ⟨h1, h2⟩
  · exact absurd h1.1 hq
  · exact (over_good h1 (not_quiet hq).1 3 (by omega) (by omega)).2.err
theorem RunI.pos {E : Em} {g : Nat} (h : RunI E g) : ∃ g', g = g' + 1 := by
  rcases h.gas with ⟨_, h1⟩ | ⟨_, h1⟩
  · exact ⟨g - 1, by omega⟩
  · exact ⟨g - 1, by omega⟩
theorem RunI.ok {E : Em} {g : Nat} (h : RunI E g) : EmOk E 65536 := ⟨h.right.smallN.mono (by omega), h.evs, h.pend⟩
theorem RunI.state {E : Em} {g : Nat} (h : RunI E g) : E.state = E.now := by unfold Em.state; rw [if_neg (by rw [h.err]; simp)]
set_option maxRecDepth 100000 in
set_option maxHeartbeats 4000000 in
theorem runs_any (w : World) (b : Nat) (own : Nat → Prop) (E : Em) (R : Emt w b own E) (GL : GlobE w own) (g : Nat) (h : RunI E g) (hg : g ≤ 1000000) (fuel : Int) :
    Calls Tryz.prog 15 #[.pointer (some ⟨b, 0, none⟩), .int .i64 fuel] w fun r w' => r = .returned (.int .i64 (runG g E fuel 0).2) ∧ EPost w b own (runG g E fuel 0).1 w' := by
  generalize hT : runG g E fuel 0 = T
  have HT := Lib.hid hT
  have HR := Lib.hid R
  have HGL := Lib.hid GL
  have HI := Lib.hid h
  clear R GL h hT
  go_enter Tryz.func15, Tryz.ntmps15
  go_wp2_with fail
  go_loopw [5] (fun i wr => ∃ (k : Nat) (gk : Nat) (Ek : Em) (ownk : Nat → Prop), i = .int .i64 k ∧ k + gk = g ∧ Turn w b own Ek wr ownk ∧ RunI Ek gk ∧ Hid (runG gk Ek fuel k = T)) (fun i _ => g - (intOf i).toNat)
  case atStart => exact ⟨0, g, E, own, rfl, by omega, Turn.first HR.out, HI.out, HT⟩
  case round =>
    obtain ⟨k, gk, Ek, ownk, rfl, hkg, hTu, hIk, hTk⟩ := hrel
    obtain ⟨g', rfl⟩ := hIk.pos
    have hgl := hTu.glob HGL.out
    have hsm := hIk.right.smallN.small (show 400 ≤ 1048576 by omega)
    have HEr := Lib.hid (fun W (g : Grow wr W) => by have := err_any W b ownk Ek (hTu.em.grow g); rw [hIk.err, errV_0] at this; exact this)
    have HSt := Lib.hid (fun W (g : Grow wr W) => by have := estate_any W b ownk Ek (hTu.em.grow g) hsm; rw [hIk.state] at this; exact this)
    have HQu := Lib.hid (fun V W (r : RepSt W V Ek.now) (g : Grow wr W) => quiet_any Ek.now V W ⟨r, hIk.right, hsm, hgl.base.grow g⟩)
    have HTu := Lib.hid hTu
    have hdr := hTk.out
    rw [runG, if_neg (by rw [hIk.err]; simp)] at hdr
    by_cases hq : quietB Ek.now = true
    · rw [if_pos hq] at hdr
      subst hdr
      rw [hq] at HQu
      have HGW := Lib.hid (fun W (g : Grow wr W) => (hTu.grow g).post (Grow.refl w))
      clear hTu hgl hsm hIk hTk hq HTu
      go_wp2_with (first | (go_at_call 37; refine (HEr.out _ grI).mono ?_; rintro e' w' ⟨rfl, nx, rfl⟩) | (go_at_call 38; refine (HSt.out _ grI).mono ?_; rintro e' w' ⟨V', rfl, hR', _, nx, rfl⟩; (try simp only [drew_plus] at hR'); (try simp only [plus_plus] at hR'); have HR' := Lib.hid hR'; clear hR') | (go_at_call 60; refine (HQu.out _ _ HR'.out grI).mono ?_; rintro e' w' ⟨rfl, nx, rfl⟩))
      go_ret
      exact ⟨rfl, HGW.out _ grI⟩
    · have hov := hIk.over hq
      obtain ⟨hck, hIr⟩ := hIk.round hq
      rw [if_neg hq] at hdr
      by_cases hf : fuel ≤ k
      · rw [if_pos hf, if_neg (by rw [hov]; simp)] at hdr
        subst hdr
        have hqf : quietB Ek.now = false := by simpa using hq
        rw [hqf] at HQu
        have HG := Lib.hid (fun W (g : Grow wr W) => esetGame_any W b ownk Ek (hTu.em.grow g) 65536 hIk.ok (by omega) 6 3)
        have HOV := Lib.hid hov
        clear hTu hgl hsm hIk hTk hq hqf hov hIr hck
        go_wp2_with (first | (go_at_call 37; refine (HEr.out _ grI).mono ?_; rintro e' w' ⟨rfl, nx, rfl⟩) | (go_at_call 38; refine (HSt.out _ grI).mono ?_; rintro e' w' ⟨V', rfl, hR', _, nx, rfl⟩; (try simp only [drew_plus] at hR'); (try simp only [plus_plus] at hR'); have HR' := Lib.hid hR'; clear hR') | (go_at_call 60; refine (HQu.out _ _ HR'.out grI).mono ?_; rintro e' w' ⟨rfl, nx, rfl⟩))
        refine (HG.out _ grI).mono ?_
        rintro e' w2 ⟨rfl, hE⟩
        obtain ⟨own2, T2⟩ := HTu.out.step grI hE
        have HE2 := Lib.hid (fun W (g : Grow w2 W) => by have := err_any W b own2 _ (T2.em.grow g); rw [HOV.out, errV_0] at this; exact this)
        have HT2 := Lib.hid T2
        clear hE T2
        go_wp2_with (go_at_call 37; refine (HE2.out _ grI).mono ?_; rintro e' w' ⟨rfl, nx, rfl⟩)
        go_ret
        exact ⟨rfl, (HT2.out.grow grI).post (Grow.refl w)⟩
      · rw [if_neg hf] at hdr
        have hqf : quietB Ek.now = false := by simpa using hq
        rw [hqf] at HQu
        have HRo := Lib.hid (fun W (g : Grow wr W) => round_any W b ownk Ek ⟨hTu.em.grow g, hck, hgl.grow g⟩)
        have HIr := Lib.hid hIr
        have HDR := Lib.hid hdr
        clear hTu hgl hsm hIk hTk hq hqf hov hIr hck hdr
        go_wp2_with (first | (go_at_call 37; refine (HEr.out _ grI).mono ?_; rintro e' w' ⟨rfl, nx, rfl⟩) | (go_at_call 38; refine (HSt.out _ grI).mono ?_; rintro e' w' ⟨V', rfl, hR', _, nx, rfl⟩; (try simp only [drew_plus] at hR'); (try simp only [plus_plus] at hR'); have HR' := Lib.hid hR'; clear hR') | (go_at_call 60; refine (HQu.out _ _ HR'.out grI).mono ?_; rintro e' w' ⟨rfl, nx, rfl⟩) | (go_at_call 62; refine (HRo.out _ grI).mono ?_; rintro e' w2 ⟨rfl, hE⟩; obtain ⟨own3, T3⟩ := HTu.out.step grI hE; have HT3 := Lib.hid T3; clear hE T3))
        go_roundw
        case rel => exact ⟨k + 1, g', Ek.round, own3, by go_num, by omega, HT3.out, HIr.out, by have := HDR.out; rw [Hid]; rw [Int.natCast_add]; exact this⟩
        case measure => simp [intOf]; omega
end Go.Proofs.YtnjclibennadcaaGreatDoor
namespace Go.Proofs.YtnjclibennadcaaGreatDoor
open Go Go.RowKit Go.Shelf

/-- An emitter of a state and draws. -/
def Em.new (S : St) (draws : List Int) : Em := Em.fail ⟨S, draws, [], [], checkN S⟩ (if 4096 < draws.length then 19 else 0)
@[go_sem ↓] theorem build_Emitter (ρ : Operand → Value) (dst : Option Tmp) (parts : Array (Nat × Operand)) (ty : TypeId) (pos : String) (after : Array Edge) (guard : Option (Nat × Bool)) :
    execOp ρ { dst, op := .build 97 parts, type := ty, pos, after, guard } = bdRow 97 (parts.map fun (i, x) => (i, ρ x)) := rfl
set_option maxRecDepth 100000 in
@[go_sem] theorem run_build_emitter (w : World) (V : SV) (num : Nat → Int) (s : Sl) (n : Int) : (bdRow 97 #[(0, .agg (stA V num)), (1, s.val), (4, errV n)]).run Tryz.prog w = .ok (.value (.agg (hoA V num (emR s .nil .nil n)))) w := by
  unfold emR
  by_cases hn : n = 0
  · subst hn
    rw [errV_0]
    cases s <;> kernel_rfl
  · rw [errV_is hn]
    cases s <;> kernel_rfl
theorem em_fresh {w : World} {x : Ext} {S : St} {draws : List Int} {V' : SV} {s2 : Sl} {base : Nat} {t t2 : TypeId} (n : Int) (hR : RepSt (w.plus x) V' S) (hU : ∀ k, V'.uses k → w.heap.size ≤ k ∧ k < (w.plus x).heap.size) (hD : Own (w.plus x) s2 t2 1 base (draws.map I)) (hb : w.heap.size ≤ base) :
    Emt ((w.plus x).alloc (.cells (hoA V' S.num (emR s2 .nil .nil n)) t)) (w.heap.size + x.objs.size) (emOwn (w.heap.size + x.objs.size) V' s2 .nil .nil) ⟨S, draws, [], [], n⟩ ∧ ∀ k, emOwn (w.heap.size + x.objs.size) V' s2 .nil .nil k → w.heap.size ≤ k := by
  have hs : (w.plus x).heap.size = w.heap.size + x.objs.size := plus_size w x
  have hg : Grow (w.plus x) ((w.plus x).alloc (.cells (hoA V' S.num (emR s2 .nil .nil n)) t)) := (Grow.refl _).alloc _
  refine ⟨⟨V', s2, .nil, .nil, ⟨⟨by rw [blk_alloc, if_pos hs.symm], by rw [free_alloc, if_pos hs.symm]; rfl, hR.grow hg, fun h => ?_, fun k hk => ?_⟩, (hD.grow hg).cells.ints, Rows'.nil _ _, Room.nil _ _, Rows'.nil _ _, Room.nil _ _, fun k hk => ((hD.grow hg).lt k hk).2, fun _ h => h.elim, fun _ h => h.elim, fun h => ?_, fun h => h, fun h => h, fun _ _ => ⟨fun h => h, fun h => h⟩, fun _ _ => ⟨fun h => h, fun h => h⟩, fun _ h => h.elim⟩, fun k => Iff.rfl⟩, fun k hk => ?_⟩
  · have := (hU _ h).2; omega
  · have := (hU _ hk).2; rw [alloc_size']; omega
  · have := (hD.lt _ h).2; omega
  · rcases hk with rfl | h | h | h | h
    · omega
    · exact (hU k h).1
    · have := (hD.lt k h).1; omega
    · exact h.elim
    · exact h.elim
set_option maxRecDepth 100000 in
set_option maxHeartbeats 4000000 in
theorem new_any (S : St) (V : SV) (w : World) (R : RepSt w V S) (hS : Small S) (GL : Glob w) (sl : Sl) (draws : List Int) (RD : Ints w sl draws) (hd : draws.length ≤ 1048576) :
    Calls Tryz.prog 13 #[.agg (stA V S.num), sl.val] w fun e w' => ∃ b own, e = .returned (.pointer (some ⟨b, 0, none⟩)) ∧ Emt w' b own (Em.new S draws) ∧ (∀ k, own k → w.heap.size ≤ k ∧ k < w'.heap.size) ∧ Grow w w' := by
  have HR := Lib.hid R
  have HS := Lib.hid hS
  have HG := Lib.hid GL
  have HRD := Lib.hid RD
  have hrc := fun W (g : Grow w W) => rcheck_any W sl draws (RD.grow g)
  unfold Em.new
  generalize (if 4096 < draws.length then (19 : Int) else 0) = m at *
  have HRC := Lib.hid hrc
  clear R hS GL RD hrc
  go_enter Tryz.func13, Tryz.ntmps13
  go_wp2_with fail
  go_region_law (first | (refine step_wanted (by rfl) ?_; go_simp; go_at_call 55; refine (copied_any S V _ (HR.out.grow grI) HS.out).mono ?_; rintro e' w' ⟨V', rfl, hR', hu, nx, rfl⟩; have HR' := Lib.hid hR'; have HU := Lib.hid hu; clear hR' hu) | (refine step_wanted (by rfl) ?_; go_simp; go_at_call 56; refine (cloned_ints _ sl draws (HRD.out.grow grI) hd).mono ?_; rintro e' w' ⟨s2, rfl, hO, _, ny, rfl⟩; have HO := Lib.hid hO; clear hO) | (refine step_wanted (by rfl) ?_; go_simp; go_at_call 57; refine (check_any S V _ (HR.out.grow grI) HS.out (HG.out.grow grI)).mono ?_; rintro e' w' ⟨rfl, nz, rfl⟩))
  all_goals
    go_wp2_with (go_at_call 58; refine (HRC.out _ grI).mono ?_; rintro e' w' ⟨rfl, nc, rfl⟩)
    have h1 := HR'.out
    have h2 := HU.out
    have h3 := HO.out
    (try simp only [drew_plus] at h1); (try simp only [plus_plus] at h1)
    (try simp only [drew_plus] at h2); (try simp only [plus_plus] at h2)
    (try simp only [drew_plus] at h3); (try simp only [plus_plus] at h3)
    have g1 : Grow ((w.alloc (.cells (stA V S.num) 29)).plus nx.late) ((w.alloc (.cells (stA V S.num) 29)).plus ((nx.late.and ny).and nz)) := ⟨ny.and nz, by rw [plus_plus, Ext.and_assoc]⟩
    have g2 : Grow ((w.alloc (.cells (stA V S.num) 29)).plus (nx.late.and ny)) ((w.alloc (.cells (stA V S.num) 29)).plus ((nx.late.and ny).and nz)) := ⟨nz, (plus_plus _ _ _).symm⟩
    have h2b : ∀ k, V'.uses k → (w.alloc (.cells (stA V S.num) 29)).heap.size ≤ k ∧ k < ((w.alloc (.cells (stA V S.num) 29)).plus ((nx.late.and ny).and nz)).heap.size := fun k hk => ⟨(h2 k hk).1, Nat.lt_of_lt_of_le (h2 k hk).2 g1.size⟩
    obtain ⟨q1, q2⟩ := em_fresh (w := w.alloc (.cells (stA V S.num) 29)) (x := (nx.late.and ny).and nz) (t := 97) (checkN S) (h1.grow g1) h2b (h3.grow g2) (by simp only [plus_size]; omega)
    rw [alloc_size'] at q1 q2
    have hGr : Grow w ((((w.alloc (.cells (stA V S.num) 29)).plus ((nx.late.and ny).and nz)).alloc (.cells (hoA V' S.num (emR s2 .nil .nil (checkN S))) 97)).plus nc) := grI
    have hq1 := q1.grow (w' := (((w.alloc (.cells (stA V S.num) 29)).plus ((nx.late.and ny).and nz)).alloc (.cells (hoA V' S.num (emR s2 .nil .nil (checkN S))) 97)).plus nc) ⟨nc, rfl⟩
    clear q1 h1 h2 h2b h3 g1 g2 HR' HU HO
    generalize (((w.alloc (.cells (stA V S.num) 29)).plus ((nx.late.and ny).and nz)).alloc (.cells (hoA V' S.num (emR s2 .nil .nil (checkN S))) 97)).plus nc = Wf at *
    generalize w.heap.size + 1 + ((nx.late.and ny).and nz).objs.size = b at *
    refine (fail_any _ b _ _ hq1 m).mono ?_
    rintro e' w3 ⟨rfl, own3, R3, K3, O3⟩
    have hlow : ∀ k, own3 k → w.heap.size ≤ k := fun k hk => by
      rcases O3 k hk with h | h
      · have := q2 k h; omega
      · have := hGr.size; omega
    have hgr3 : Grow w w3 := K3.grow_of hGr (fun k hk => by have := q2 k hk; omega)
    go_wp2_with fail
    go_ret
    exact ⟨_, own3, rfl, R3, fun k hk => ⟨hlow k hk, R3.lt k hk⟩, hgr3⟩
end Go.Proofs.YtnjclibennadcaaGreatDoor
