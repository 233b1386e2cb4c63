/- check's round and Run of an emitter with an error or with a right state, however many events there are. -/
import Derived.Test.YtgobdndjemicjaaGreatDoorMChk
import Derived.Test.YtgobdndjemicjaaGreatDoorMOc
namespace Go.Proofs.YtgobdndjemicjaaGreatDoor
open Go Go.RowKit Go.Shelf
structure PutsR (d : List Int) (E E' : Em) (n : Nat) : Prop where
 rg : Rg (E.pend.length + 2 * n) d E'
 many : E'.now.objs.length = E.now.objs.length
 num : E'.now.num = E.now.num
 list : (E'.now.list 8).length + n = (E.now.list 8).length
theorem zx5 {m : Nat} {d : List Int} {E : Em} (h : Rg m d E) (l : List Int) (hn : l.Nodup) (hm : ∀ x ∈ l, x ∈ E.now.list 8) (hl : l.length ≤ 400) : (E.puts l).err ≠ 0 ∨ PutsR d E (E.puts l) l.length := by
 have hs := Sim.puts l h.sim (by omega)
 have P : PutsTo E.bare (E.bare.puts l) l.length := zks l E.bare h.err h.right h.wid hn hm (by show 0 + _ ≤ _; omega)
 rcases hs.or with h1 | ⟨h1, h2, h3, h4, _⟩
 · exact Or.inl h1
 · refine Or.inr ⟨⟨h1.trans P.err, by rw [h2]; exact P.right, by rw [h2]; exact P.wid, hs.evs, by rw [h3]; exact P.pend, by rw [h4, P.draws]; exact h.draws⟩, by rw [h2]; exact P.many, by rw [h2]; exact P.num, by rw [h2]; exact P.list⟩
theorem zhp {S : St} (h : Right S) : (dyingN S).length ≤ 400 := Nat.le_trans (znv S) (h.smallN.list 8 (by omega))
theorem z9p {m : Nat} {d : List Int} {E : Em} (h : Rg m d E) (k : Nat) : (E.puts ((dyingN E.now).take k)).err ≠ 0 ∨ PutsR d E (E.puts ((dyingN E.now).take k)) ((dyingN E.now).take k).length := by
 have h1 := zhp h.right
 have hl : ((dyingN E.now).take k).length ≤ (dyingN E.now).length := by rw [List.length_take]; omega
 exact zx5 h _ ((zhe h.right).sublist (List.take_sublist _ _)) (fun x hx => zkd _ x (List.mem_of_mem_take hx)) (by omega)
theorem zr9 {m : Nat} {d : List Int} {E : Em} (h : Rg m d E) (h24 : E.now.num 24 = 0) (v : Int) (h1 : 1 ≤ v) (h3 : v ≤ 3) : (E.setGame 6 v).err ≠ 0 ∨ (Rg m d (E.setGame 6 v) ∧ (E.setGame 6 v).now = E.now.setNum 24 v ∧ (E.setGame 6 v).pend = E.pend) := by
 have hs := h.sim.setGame (by omega) 6 v
 have e := zu9 (E := E.bare) h.err v (by omega) h3 (by show E.now.num 24 ≠ v; omega) (by show 0 < 65536; omega)
 have hR : Right (E.now.setNum 24 v) := h.right.game v (by omega) h3
 rcases hs.or with g1 | ⟨g1, g2, g3, g4, _⟩
 · exact Or.inl g1
 · rw [e] at g1 g2 g3 g4
   have g2' : (E.setGame 6 v).now = E.now.setNum 24 v := g2
   have g3' : (E.setGame 6 v).pend = E.pend := g3
   exact Or.inr ⟨⟨g1.trans h.err, by rw [g2']; exact hR, by rw [g2']; exact h.wid, hs.evs, by rw [g3']; exact h.pend, g4.trans h.draws⟩, g2', g3'⟩
theorem zor {S : St} {v : Int} (h : 1 ≤ v) : zee (S.setNum 24 v) = true := zua (by show upd S.num 24 v 24 ≠ 0; rw [zan]; omega)
theorem zt9 (E : Em) (l : List Int) (k : Nat) (h : k < l.length) : E.puts (l.take (k + 1)) = (E.puts (l.take k)).put (gt l k) 4 := by
 have : l.take (k + 1) = l.take k ++ [gt l k] := by
  rw [List.take_succ_eq_append_getElem h]
  simp [gt, h]
 unfold Em.puts
 rw [this, List.foldl_append]; rfl
structure RunJ (d : List Int) (M : Nat) (E : Em) (g : Nat) : Prop where
 ok : E.err ≠ 0 ∨ (Rg M d E ∧ E.pend.length + 2 * (E.now.list 8).length ≤ M)
 gas : ((E.err ≠ 0 ∨ zee E.now = true) ∧ 1 ≤ g) ∨ (E.now.list 8).length + 2 ≤ g
theorem RunJ.pos {d : List Int} {M : Nat} {E : Em} {g : Nat} (h : RunJ d M E g) : ∃ g', g = g' + 1 := by
 rcases h.gas with ⟨_, h1⟩ | h1
 · exact ⟨g - 1, by omega⟩
 · exact ⟨g - 1, by omega⟩
theorem RunJ.round {d : List Int} {M : Nat} {E : Em} {g : Nat} (h : RunJ d M E (g + 1)) (he : E.err = 0) (hq : ¬ zee E.now = true) : RunJ d M E.round g := by
 obtain ⟨hR, hp⟩ := h.ok.resolve_left (fun h => h he)
 have hg : (E.now.list 8).length + 2 ≤ g + 1 := by
  rcases h.gas with ⟨h1 | h1, _⟩ | h1
  · exact absurd he h1
  · exact absurd h1 hq
  · exact h1
 obtain ⟨h24, hd⟩ := zol hq
 by_cases hr : resultN E.now = 0
 · have e : E.round = E.puts (dyingN E.now) := by unfold Em.round; rw [if_neg (by rw [hr]; simp)]
   rw [e]
   have hpos := hd hr
   rcases zx5 hR (dyingN E.now) (zhe hR.right) (zkd _) (zhp hR.right) with h1 | P
   · exact ⟨Or.inl h1, Or.inl ⟨Or.inl h1, by omega⟩⟩
   · have hl := P.list
     have hpe := P.rg.pend
     exact ⟨Or.inr ⟨⟨P.rg.err, P.rg.right, P.rg.wid, P.rg.evs, by omega, P.rg.draws⟩, by omega⟩, Or.inr (by omega)⟩
 · have hin := zya E.now
   have e : E.round = E.setGame 6 (resultN E.now) := by unfold Em.round; rw [if_pos hr]
   rw [e]
   rcases zr9 hR h24 (resultN E.now) (by omega) hin.2 with h1 | ⟨h1, h2, h3⟩
   · exact ⟨Or.inl h1, Or.inl ⟨Or.inl h1, by omega⟩⟩
   · refine ⟨Or.inr ⟨h1, ?_⟩, Or.inl ⟨Or.inr ?_, by omega⟩⟩
     · rw [h3, h2]; exact hp
     · rw [h2]; exact zor (by omega)
structure RunR (d : List Int) (M : Nat) (E : Em) : Prop where
 rg : Rg M d E
 quiet : zee E.now = true
theorem z6p {d : List Int} {M : Nat} : ∀ (g : Nat) (E : Em) (fuel n : Int), RunJ d M E g → (zvq g E fuel n).1.err ≠ 0 ∨ RunR d M (zvq g E fuel n).1
 | 0, E, fuel, n, h => by obtain ⟨g', hg⟩ := h.pos; cases hg
 | g + 1, E, fuel, n, h => by
   rw [zvq]
   by_cases he : E.err = 0
   · rw [if_neg (by rw [he]; simp)]
     by_cases hq : zee E.now = true
     · rw [if_pos hq]
       obtain ⟨hR, hp⟩ := h.ok.resolve_left (fun h => h he)
       exact Or.inr ⟨hR, hq⟩
     · rw [if_neg hq]
       by_cases hf : fuel ≤ n
       · rw [if_pos hf]
         obtain ⟨hR, hp⟩ := h.ok.resolve_left (fun h => h he)
         rcases zr9 hR (zol hq).1 3 (by omega) (by omega) with h1 | ⟨h1, h2, _⟩
         · exact Or.inl h1
         · exact Or.inr ⟨h1, by show zee (E.setGame 6 3).now = true; rw [h2]; exact zor (by omega)⟩
       · rw [if_neg hf]
         exact z6p g _ fuel (n + 1) (h.round he hq)
   · rw [if_pos he]; exact Or.inl he
set_option maxRecDepth 100000 in
set_option maxHeartbeats 4000000 in
theorem zul (w : World) (b : Nat) (own : Nat → Prop) (E : Em) (R : Emt w b own E) {m : Nat} {d : List Int} (h : Rg m d E) (hm : m + 800 ≤ 131072) (hd : d.length ≤ 1048576) (GL : GlobE w own) :
 Calls Tryz.prog 136 #[.pointer (some ⟨b, 0, none⟩)] w fun r w' => r = .returned (.tuple #[]) ∧ EPost w b own E.round w' := by
 have hlt := R.lt
 have hMo : Mo E := Or.inr (h.mg (by omega) hd)
 have hsm := h.right.smallN.small (show 400 ≤ 1048576 by omega)
 have hst : E.state = E.now := by unfold Em.state; rw [if_neg (by rw [h.err]; simp)]
 have HSt := Lib.hid (fun W (g : Grow w W) => by have := zcu W b own E (R.grow g) hMo; rw [hst] at this; exact this)
 have HRes := Lib.hid (fun V W => zly E.now V W)
 have HDy := Lib.hid (fun V W (r : RepSt W V E.now) (g : Grow w W) => znu E.now V W ⟨r, h.right, hsm, GL.base.grow g⟩)
 have HR := Lib.hid R
 have HGL0 := Lib.hid GL
 have HLT := Lib.hid hlt
 clear hlt hsm
 by_cases hr : resultN E.now = 0
 · have hrd : E.round = E.puts (dyingN E.now) := by unfold Em.round; rw [if_neg (by rw [hr]; simp)]
   rw [hrd]
   rw [hr] at HRes
   have HCK : Hid (∀ k, Mo (E.puts ((dyingN E.now).take k))) := fun k => by
    rcases z9p h k with h1 | P
    · exact Or.inl h1
    · have hl : ((dyingN E.now).take k).length ≤ 400 := by have := zhp h.right; rw [List.length_take]; omega
      exact Or.inr ((P.rg.mono (m' := 131072) (by have := h.pend; omega)).mg (Nat.le_refl _) hd)
   have HTK := Lib.hid (zt9 E (dyingN E.now))
   have hfin : E.puts (dyingN E.now) = E.puts ((dyingN E.now).take (dyingN E.now).length) := by rw [List.take_length]
   have hz : E.puts ((dyingN E.now).take 0) = E := rfl
   have hdl : (dyingN E.now).length ≤ 65536 := Nat.le_trans (zhp h.right) (by omega)
   rw [hfin]
   have HZ := Lib.hid hz
   generalize dyingN E.now = l at *
   clear hr hrd R hfin hz h hMo hst GL
   go_enter Tryz.func136, Tryz.ntmps136
   go_wp2_with (first | (go_at_call 18; refine (HSt.out _ grI).mono ?_; rintro e' w' ⟨V', rfl, hR', _, nS, rfl⟩; have HR' := Lib.hid hR'; clear hR') | (go_at_call 185; refine (HRes.out _ _).mono ?_; rintro e' w' ⟨rfl, nR, rfl⟩) | (go_at_call 186; refine (HDy.out _ _ (HR'.out.grow grI) grI).mono ?_; rintro e' w' ⟨s, rfl, hI, ho, nD, rfl⟩; (try simp only [zad] at hI); (try simp only [zac] at hI); have HI := Lib.hid hI; have HO := Lib.hid (fun b hb => (ho b hb).1); have hsn := hI.len; clear hI ho))
   have hG : Grow w (((w.plus nS).alloc (.cells (stA V' E.now.num) 29)).plus (nR.and nD)) := grI
   have hI := HI.out
   have hos : ∀ k, s.owns k → ¬ own k := fun k hk hk2 => by
    have h1 := HO.out k hk
    have h2 := HLT.out k hk2
    simp only [zab, zaa] at h1
    omega
   have hem : Emt (((w.plus nS).alloc (.cells (stA V' E.now.num) 29)).plus (nR.and nD)) b own E := HR.out.grow hG
   have hgl := HGL0.out.grow hG
   clear HI HO HR'
   generalize ((w.plus nS).alloc (.cells (stA V' E.now.num) 29)).plus (nR.and nD) = W1 at *
   have HI := Lib.hid hI
   have HOS := Lib.hid hos
   have HEM := Lib.hid hem
   have HG := Lib.hid hG
   have HGL := Lib.hid hgl
   clear hI hos hem hG hgl
   go_loopw [18] (fun i wr => ∃ (k : Nat) (ownk : Nat → Prop), k ≤ l.length ∧ i = .int .i64 k ∧ Turn W1 b own (E.puts (l.take k)) wr ownk) (fun i _ => l.length - (intOf i).toNat)
   case atStart => exact ⟨0, own, by omega, rfl, by rw [HZ.out]; exact Turn.first HEM.out⟩
   case round =>
    obtain ⟨k, ownk, hk, rfl, hTu⟩ := hrel
    have HTu := Lib.hid hTu
    by_cases hlt : k < l.length
    · obtain ⟨q1, q2⟩ := (HI.out.kept hTu.kept (fun hl => HOS.out _ (zbk HI.out hl))).at k hlt
      have hck := HCK.out k
      have HS := Lib.hid (HTK.out k hlt)
      generalize gt l k = x at *
      generalize E.puts (l.take k) = Ek at *
      have HPu := Lib.hid (fun Wx (g : Grow wr Wx) => zmt Wx b ownk Ek (hTu.em.grow g) hck ((hTu.glob HGL.out).grow g) x 4)
      clear hTu hck
      go_wp2_with (go_at_call 35; refine (HPu.out _ grI).mono ?_; rintro e' w2 ⟨rfl, hE⟩; obtain ⟨own3, T3⟩ := HTu.out.step grI hE; rw [← HS.out] at T3; have HT3 := Lib.hid T3; clear hE T3)
      go_roundw
      case rel => exact ⟨k + 1, own3, by omega, by go_num, HT3.out⟩
      case measure => simp [intOf]; omega
    · have hkl : k = l.length := by omega
      subst hkl
      clear hTu
      go_wp2_with fail
      go_end0
      exact ⟨rfl, HTu.out.post HG.out⟩
 · have hrd : E.round = E.setGame 6 (resultN E.now) := by unfold Em.round; rw [if_pos hr]
   rw [hrd]
   have HG := Lib.hid (fun W (g : Grow w W) v => zom W b own E (R.grow g) hMo 6 v)
   generalize resultN E.now = res at *
   clear hrd R h hMo hst GL
   go_enter Tryz.func136, Tryz.ntmps136
   go_wp2_with (first | (go_at_call 18; refine (HSt.out _ grI).mono ?_; rintro e' w' ⟨V', rfl, hR', _, nx, rfl⟩; have HR' := Lib.hid hR'; clear hR') | (go_at_call 185; refine (HRes.out _ _).mono ?_; rintro e' w' ⟨rfl, nx, rfl⟩) | (go_at_call 52; refine (HG.out _ grI _).mono ?_; rintro e' w' ⟨rfl, hE⟩; have HE := Lib.hid hE; clear hE))
   refine bodyPost_ret (results_none rfl _ _ _) rfl ?_
   exact ⟨rfl, EPost.low grI HE.out⟩
set_option maxRecDepth 100000 in
set_option maxHeartbeats 4000000 in
theorem z3v (w : World) (b : Nat) (own : Nat → Prop) (E : Em) (R : Emt w b own E) (GL : GlobE w own) {d : List Int} {M : Nat} (hM : M + 800 ≤ 131072) (hd : d.length ≤ 1048576) (g : Nat) (h : RunJ d M E g) (hg : g ≤ 1000000) (fuel : Int) :
 Calls Tryz.prog 79 #[.pointer (some ⟨b, 0, none⟩), .int .i64 fuel] w fun r w' => r = .returned (.int .i64 (zvq g E fuel 0).2) ∧ EPost w b own (zvq g E fuel 0).1 w' := by
 generalize hT : zvq g E fuel 0 = T
 have HT := Lib.hid hT
 have HR := Lib.hid R
 have HGL := Lib.hid GL
 have HI := Lib.hid h
 clear R GL h hT
 go_enter Tryz.func79, Tryz.ntmps79
 go_wp2_with fail
 go_loopw [5] (fun i wr => ∃ (k : Nat) (gk : Nat) (Ek : Em) (ownk : Nat → Prop), i = .int .i64 k ∧ k + gk = g ∧ Turn w b own Ek wr ownk ∧ RunJ d M Ek gk ∧ Hid (zvq gk Ek fuel k = T)) (fun i _ => g - (intOf i).toNat)
 case atStart => exact ⟨0, g, E, own, rfl, by omega, Turn.first HR.out, HI.out, HT⟩
 case round =>
  obtain ⟨k, gk, Ek, ownk, rfl, hkg, hTu, hIk, hTk⟩ := hrel
  obtain ⟨g', rfl⟩ := hIk.pos
  have hgl := hTu.glob HGL.out
  have HTu := Lib.hid hTu
  have hdr := hTk.out
  rw [zvq] at hdr
  by_cases he : Ek.err = 0
  · rw [if_neg (by rw [he]; simp)] at hdr
    obtain ⟨hRg, hpd⟩ := hIk.ok.resolve_left (fun h => h he)
    have hMo : Mo Ek := Or.inr (hRg.mg (by omega) hd)
    have hsm := hRg.right.smallN.small (show 400 ≤ 1048576 by omega)
    have hst : Ek.state = Ek.now := by unfold Em.state; rw [if_neg (by rw [he]; simp)]
    have HEr := Lib.hid (fun W (g : Grow wr W) => by have := zbd W b ownk Ek (hTu.em.grow g); rw [he, zbf] at this; exact this)
    have HSt := Lib.hid (fun W (g : Grow wr W) => by have := zcu W b ownk Ek (hTu.em.grow g) hMo; rw [hst] at this; exact this)
    have HQu := Lib.hid (fun V W (r : RepSt W V Ek.now) (g : Grow wr W) => zx6 Ek.now V W ⟨r, hRg.right, hsm, hgl.base.grow g⟩)
    by_cases hq : zee Ek.now = true
    · rw [if_pos hq] at hdr
      subst hdr
      rw [hq] at HQu
      have HGW := Lib.hid (fun W (g : Grow wr W) => (hTu.grow g).post (Grow.refl w))
      clear hTu hgl hsm hIk hTk hq HTu hRg hMo hst he hpd
      go_wp2_with (first | (go_at_call 17; refine (HEr.out _ grI).mono ?_; rintro e' w' ⟨rfl, nx, rfl⟩) | (go_at_call 18; refine (HSt.out _ grI).mono ?_; rintro e' w' ⟨V', rfl, hR', _, nx, rfl⟩; (try simp only [zad] at hR'); (try simp only [zac] at hR'); have HR' := Lib.hid hR'; clear hR') | (go_at_call 135; refine (HQu.out _ _ HR'.out grI).mono ?_; rintro e' w' ⟨rfl, nx, rfl⟩))
      go_ret
      exact ⟨rfl, HGW.out _ grI⟩
    · rw [if_neg hq] at hdr
      have hqf : zee Ek.now = false := by simpa using hq
      rw [hqf] at HQu
      by_cases hf : fuel ≤ k
      · rw [if_pos hf] at hdr
        have HG := Lib.hid (fun W (g : Grow wr W) => zom W b ownk Ek (hTu.em.grow g) hMo 6 3)
        by_cases hov : (Ek.setGame 6 3).err = 0
        · rw [if_neg (by rw [hov]; simp)] at hdr
          subst hdr
          have HOV := Lib.hid hov
          clear hTu hgl hsm hIk hTk hq hqf hov hRg hMo hst he hpd
          go_wp2_with (first | (go_at_call 17; refine (HEr.out _ grI).mono ?_; rintro e' w' ⟨rfl, nx, rfl⟩) | (go_at_call 18; refine (HSt.out _ grI).mono ?_; rintro e' w' ⟨V', rfl, hR', _, nx, rfl⟩; (try simp only [zad] at hR'); (try simp only [zac] at hR'); have HR' := Lib.hid hR'; clear hR') | (go_at_call 135; refine (HQu.out _ _ HR'.out grI).mono ?_; rintro e' w' ⟨rfl, nx, rfl⟩))
          refine (HG.out _ grI).mono ?_
          rintro e' w2 ⟨rfl, hE⟩
          obtain ⟨own2, T2⟩ := HTu.out.step grI hE
          have HE2 := Lib.hid (fun W (g : Grow w2 W) => by have := zbd W b own2 _ (T2.em.grow g); rw [HOV.out, zbf] at this; exact this)
          have HT2 := Lib.hid T2
          clear hE T2
          go_wp2_with (go_at_call 17; refine (HE2.out _ grI).mono ?_; rintro e' w' ⟨rfl, nx, rfl⟩)
          go_ret
          exact ⟨rfl, (HT2.out.grow grI).post (Grow.refl w)⟩
        · rw [if_pos hov] at hdr
          subst hdr
          have HOV := Lib.hid hov
          clear hTu hgl hsm hIk hTk hq hqf hov hRg hMo hst he hpd
          go_wp2_with (first | (go_at_call 17; refine (HEr.out _ grI).mono ?_; rintro e' w' ⟨rfl, nx, rfl⟩) | (go_at_call 18; refine (HSt.out _ grI).mono ?_; rintro e' w' ⟨V', rfl, hR', _, nx, rfl⟩; (try simp only [zad] at hR'); (try simp only [zac] at hR'); have HR' := Lib.hid hR'; clear hR') | (go_at_call 135; refine (HQu.out _ _ HR'.out grI).mono ?_; rintro e' w' ⟨rfl, nx, rfl⟩))
          refine (HG.out _ grI).mono ?_
          rintro e' w2 ⟨rfl, hE⟩
          obtain ⟨own2, T2⟩ := HTu.out.step grI hE
          have HE2 := Lib.hid (fun W (g : Grow w2 W) => by have := zbd W b own2 _ (T2.em.grow g); rw [zat HOV.out] at this; exact this)
          have HT2 := Lib.hid T2
          clear hE T2
          go_wp2_with (go_at_call 17; refine (HE2.out _ grI).mono ?_; rintro e' w' ⟨rfl, nx, rfl⟩)
          go_ret
          exact ⟨rfl, (HT2.out.grow grI).post (Grow.refl w)⟩
      · rw [if_neg hf] at hdr
        have hIr := hIk.round he hq
        have HRo := Lib.hid (fun W (g : Grow wr W) => zul W b ownk Ek (hTu.em.grow g) hRg hM hd (hgl.grow g))
        have HIr := Lib.hid hIr
        have HDR := Lib.hid hdr
        clear hTu hgl hsm hIk hTk hq hqf hIr hdr hRg hMo hst he hpd
        go_wp2_with (first | (go_at_call 17; refine (HEr.out _ grI).mono ?_; rintro e' w' ⟨rfl, nx, rfl⟩) | (go_at_call 18; refine (HSt.out _ grI).mono ?_; rintro e' w' ⟨V', rfl, hR', _, nx, rfl⟩; (try simp only [zad] at hR'); (try simp only [zac] at hR'); have HR' := Lib.hid hR'; clear hR') | (go_at_call 135; refine (HQu.out _ _ HR'.out grI).mono ?_; rintro e' w' ⟨rfl, nx, rfl⟩) | (go_at_call 136; refine (HRo.out _ grI).mono ?_; rintro e' w2 ⟨rfl, hE⟩; obtain ⟨own3, T3⟩ := HTu.out.step grI hE; have HT3 := Lib.hid T3; clear hE T3))
        go_roundw
        case rel => exact ⟨k + 1, g', Ek.round, own3, by go_num, by omega, HT3.out, HIr.out, by have := HDR.out; rw [Hid]; rw [Int.natCast_add]; exact this⟩
        case measure => simp [intOf]; omega
  · rw [if_pos he] at hdr
    subst hdr
    have HEr := Lib.hid (fun W (g : Grow wr W) => by have := zbd W b ownk Ek (hTu.em.grow g); rw [zat he] at this; exact this)
    have HGW := Lib.hid (fun W (g : Grow wr W) => (hTu.grow g).post (Grow.refl w))
    clear hTu hgl hIk hTk HTu he
    go_wp2_with (go_at_call 17; refine (HEr.out _ grI).mono ?_; rintro e' w' ⟨rfl, nx, rfl⟩)
    go_ret
    exact ⟨rfl, HGW.out _ grI⟩
end Go.Proofs.YtgobdndjemicjaaGreatDoor
