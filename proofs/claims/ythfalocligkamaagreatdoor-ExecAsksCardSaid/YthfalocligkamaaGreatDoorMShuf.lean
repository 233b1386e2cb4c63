/- The walk of an emitter's Shuffle. -/
import Derived.Test.YthfalocligkamaaGreatDoorMColl
import Derived.Test.YthfalocligkamaaGreatDoorMShN
import Derived.Test.YthfalocligkamaaGreatDoorMRtA
namespace Go.Proofs.YthfalocligkamaaGreatDoor
open Go Go.RowKit Go.Shelf
theorem zn3 (E : Em) (f v : Int) : (E.setGame f v).now.list = E.now.list := by
 have d1 : ∀ (E : Em) (u : Int), (E.do1 [4, 0, f, u, v, 0]).now.list = E.now.list ∧ (E.do1 [4, 0, f, u, u, 0]).now.list = E.now.list := fun E u => by
  constructor <;>
  · unfold Em.do1
    split
    · rfl
    · split
      · rfl
      · rename_i S hS
        have := zi7 hS
        subst this
        show (if E.evs.length < 65536 then _ else _ : Em).now.list = _
        split <;> rfl
 unfold Em.setGame
 split
 · rfl
 split
 · exact (d1 E 0).1 |> fun h => by
    unfold Em.do1
    split
    · rfl
    · split
      · rfl
      · rename_i S hS
        have := zi7 hS
        subst this
        show (if E.evs.length < 65536 then _ else _ : Em).now.list = _
        split <;> rfl
 · unfold Em.set
   split
   · rw [zg2]
   · exact (d1 E _).1
theorem zh4 (E : Em) (p : Nat) : (E.shuf0 p).now.list = E.now.list := by
 unfold Em.shuf0
 rw [zn3, zg2]
theorem z3h {E : Em} (he : E.err = 0) (p : Nat) (h : (E.shuf0 p).err = 0) : (ordR E.draws (E.now.num 23) (E.now.list p).length).2.2 = 0 := by
 unfold Em.shuf0 at h
 generalize ordR E.draws (E.now.num 23) (E.now.list p).length = r at *
 by_cases e : r.2.2 = 0
 · exact e
 · exfalso
   have : (E.fail r.2.2).err ≠ 0 := by unfold Em.fail; rw [if_pos he]; exact e
   unfold Em.setGame at h
   rw [if_pos this] at h
   exact this h
theorem zxb {d : List Int} {c : Int} {n : Nat} (h : (ordR d c n).2.2 = 0) : (ordR d c n).1.Perm (idL n) := by
 unfold ordR at h ⊢
 (repeat' split at h)
 · exact absurd h (by decide)
 · exact absurd h (by decide)
 · exact absurd h (by decide)
 · rename_i h1 h2 h3
   rw [if_neg h1, if_neg h2, if_neg h3]
   exact znh _ _ _ _ (Nat.le_refl _)
theorem EmOk.shufAt {E : Em} {n : Nat} (h : EmOk E n) (z : Nat) (id a : Int) : EmOk (E.shufAt z id a) (n + 1) := by
 unfold Em.shufAt
 split
 · exact h.mono (Nat.le_succ n)
 · exact h.do1 _
theorem EmOk.shufTo {E : Em} {n : Nat} (h : EmOk E n) (z : Nat) (l : List Int) : ∀ k, EmOk (E.shufTo z l k) (n + k)
 | 0 => h
 | k + 1 => (h.shufTo z l k).shufAt _ _ _
theorem zku (S : St) (id p : Int) : (hideEv S id p).length ≤ 1 := by unfold hideEv; (repeat' split) <;> simp
theorem zso (S : St) (id p : Int) : ∀ i, i < (hideEv S id p).length → (rowAt (hideEv S id p) i).length = 6 := by
 unfold hideEv
 (repeat' split)
 · intro i hi; cases hi
 · intro i hi; cases hi
 · intro i hi
   have : i = 0 := by simp at hi; omega
   subst this; rfl
theorem EmOk.hideTo {E : Em} {n : Nat} (h : EmOk E n) (l : List Int) : ∀ k, EmOk (E.hideTo l k) (n + k)
 | 0 => h
 | k + 1 => ((h.hideTo l k).dos _).mono (by have := zku (E.hideTo l k).now (gt l k) 3; omega)
theorem EmOk.shuffle {E : Em} {n : Nat} (h : EmOk E n) (p : Int) : EmOk (E.shuffle p) (n + 1 + 2 * (E.shufD p.toNat).length) := by
 have h0 := h.mono (show n ≤ n + 1 + 2 * (E.shufD p.toNat).length by omega)
 have h1 : EmOk (E.shuf0 p.toNat) (n + 1) := (h.fail _).setGame _ _
 unfold Em.shuffle
 split
 · exact h0
 split
 · exact ⟨h0.small, h0.evs, h0.pend⟩
 split
 · exact h1.mono (by omega)
 · exact ((h1.shufTo _ _ _).hideTo _ _).mono (by omega)
theorem zp0 (E : Em) (z : Nat) (l : List Int) (k : Nat) : E.shufTo z l (k + 1) = (E.shufTo z l k).shufAt z (gt l k) k := rfl
theorem zo6 (E : Em) (l : List Int) (k : Nat) : E.hideTo l (k + 1) = (E.hideTo l k).dos (hideEv (E.hideTo l k).now (gt l k) 3) := rfl
theorem RepSt.ints {w : World} {V : SV} {S : St} (h : RepSt w V S) (z : Nat) (hz : z < 11) : Ints w (V.list z) (S.list z) := h.list z hz
theorem zjj {w : World} {b : Nat} {V : SV} {S : St} {rest : Array Value} (h : Host w b V S rest) (z : Nat) (hz : z < 11) : w.cell? ⟨b, 1 + z, none⟩ = some (V.list z).val := by
 rw [zaf h.free h.blk, zgb _ _ _ _ (by omega), zcd _ _ _ hz]
set_option maxRecDepth 100000 in
theorem z8l (w : World) (b : Nat) (own : Nat → Prop) (E : Em) (R : Emt w b own E) (he : E.err = 0) (p : Int) (hp : ¬ (p = 0 ∨ p = 1)) :
 Calls Tryz.prog 81 #[.pointer (some ⟨b, 0, none⟩), .int .i64 p] w fun r w' => r = .returned (.tuple #[]) ∧ EPost w b own (E.shuffle p) w' := by
 have HP := Lib.hid (fun W (g : Grow w W) => zhe W b own E (R.grow g) he p hp)
 have e1 : E.shuffle p = { E with err := 1 } := by unfold Em.shuffle; rw [if_neg (by rw [he]; simp), if_pos hp]
 rw [e1]
 clear R he hp e1
 go_enter Tryz.func81, Tryz.ntmps81
 go_wp2_with (go_at_call 101; refine (HP.out _ grI).mono ?_; rintro e' w' ⟨rfl, hE⟩; have HE := Lib.hid hE; clear hE)
 first | go_end0 | refine bodyPost_ret (results_none rfl _ _ _) rfl ?_
 exact ⟨rfl, EPost.low grI HE.out⟩
set_option maxRecDepth 100000 in
set_option maxHeartbeats 8000000 in
theorem zyo (w : World) (b : Nat) (own : Nat → Prop) (E : Em) (R : Emt w b own E) (he : E.err = 0) (n : Nat) (K : EmOk E n) (hn : 4 * n + 10 ≤ 1000000) (hd : E.draws.length ≤ 1048576) (hc : E.now.num 23 ≤ 1073741824) (p : Nat) (hp : p < 2) :
 Calls Tryz.prog 81 #[.pointer (some ⟨b, 0, none⟩), .int .i64 (p : Int)] w fun r w' => r = .returned (.tuple #[]) ∧ EPost w b own (E.shuffle p) w' := by
 have hown := R.lt
 have HP := Lib.hid (fun W (g : Grow w W) => zd5 W b own E (R.grow g) he (p : Int) (by omega))
 have HR0 := Lib.hid R
 have HHE := Lib.hid he
 have HK := Lib.hid K
 have HL := Lib.hid hown
 have hp11 : p < 11 := by omega
 have hll := K.small.list p hp11
 have e1 : E.shuffle p = if (E.shuf0 p).err ≠ 0 then E.shuf0 p else ((E.shuf0 p).shufTo p (E.shufD p) (E.shufD p).length).hideTo (E.shufD p) (E.shufD p).length := by unfold Em.shuffle; rw [if_neg (by rw [he]; simp), if_neg (by omega), Int.toNat_natCast]
 have hdl : (E.shufD p).length ≤ n := by
  unfold Em.shufD zj8
  rw [List.length_map]
  exact Nat.le_trans (zqy _ _ _) hll
 have hperm : (E.shuf0 p).err = 0 → (ordR E.draws (E.now.num 23) (E.now.list p).length).1.Perm (idL ((E.shuf0 p).now.list p).length) := fun h => by
  rw [zh4]
  exact zxb (z3h he p h)
 have hdd : E.shufD p = zj8 ((E.shuf0 p).now.list p) (ordR E.draws (E.now.num 23) (E.now.list p).length).1 := by rw [zh4]; rfl
 have hs0 : E.shuf0 p = (E.fail (ordR E.draws (E.now.num 23) (E.now.list p).length).2.2).setGame 5 (ordR E.draws (E.now.num 23) (E.now.list p).length).2.1 := rfl
 have HPM := Lib.hid hperm
 have HDD := Lib.hid hdd
 have HS0 := Lib.hid hs0
 have HLL := Lib.hid (show ((E.shuf0 p).now.list p).length ≤ n by rw [zh4]; exact hll)
 have HDL := Lib.hid hdl
 rw [e1]
 generalize E.shuf0 p = E2 at *
 generalize E.shufD p = D at *
 clear hperm hdd hs0 e1 hdl K hown he
 obtain ⟨V, sd, se, sp, hr, ho⟩ := R
 have hcd : w.cell? ⟨b, 37, none⟩ = some sd.val := (zaf hr.host.free hr.host.blk 37).trans (z5f _ _ _ _ _ _)
 have hcg : w.cell? ⟨b, 35, none⟩ = some (I (E.now.num 23)) := by rw [zaf hr.host.free hr.host.blk 35, zgb _ _ _ _ (by omega), show 35 = 12 + 23 from rfl, za7 _ _ _ (by omega)]
 have hcl := zjj hr.host p hp11
 have hln := (hr.host.rep.ints p hp11).len
 have HO := Lib.hid (fun W (g : Grow w W) => zxd W sd E.draws (E.now.num 23) (E.now.list p).length (hr.drs.grow g) hd hc (by omega))
 have hlt := hr.host.lt
 have hne1 : ¬ b = w.heap.size := by omega
 unfold yf6 at HO
 clear hr ho hd hc hll
 generalize E.now.num 23 = u at *
 generalize ordR E.draws u (E.now.list p).length = r at *
 obtain ⟨od, c, er⟩ := r
 simp only at HO HPM HDD HS0
 have hp0 : (0 : Int) ≤ (p : Int) := by omega
 have hpz : (p : Int) < 11 := by omega
 by_cases h2 : E2.err = 0
 · rw [if_neg (by rw [h2]; simp)]
   have HH2 := Lib.hid h2
   have HK2 : Hid (EmOk E2 (n + 1)) := by rw [HS0.out]; exact (HK.out.fail er).setGame 5 c
   clear h2
   go_enter Tryz.func81, Tryz.ntmps81
   go_wp2_with (go_at_call 101; refine (HP.out _ grI).mono ?_; rintro e' w' ⟨rfl, n1, rfl⟩)
   go_region_held3 (fun W => W.cell? ⟨b, 37, none⟩ = some sd.val ∧ W.cell? ⟨b, 35, none⟩ = some (I u) ∧ W.cell? ⟨b, 1 + p, none⟩ = some (V.list p).val) (simp [go_sem, *]) (first | (go_at_call 108; refine (HO.out _ grI).mono ?_; rintro e' w' ⟨so, rfl, hI, hW, n2, rfl⟩; (try simp only [zae] at hI); (try simp only [zad] at hI); have HI := Lib.hid hI; have HW := Lib.hid hW; clear hI hW))
   have hGW : Grow w (w.plus (n1.and n2.late)) := ⟨_, rfl⟩
   have hI1 := HI.out
   have hW1 : ∀ k, so.owns k → w.heap.size ≤ k := fun k hk => by
    have h1 := (HW.out k hk).1
    have h2 : (w.plus n1).drew.heap.size = (w.plus n1).heap.size := rfl
    rw [h2, zac] at h1
    omega
   have hEm := HR0.out.grow hGW
   clear HI HW hcd hcg hcl hln hlt hne1 HO HP
   generalize w.plus (n1.and n2.late) = W1 at *
   have HG1 := Lib.hid hGW
   have HI := Lib.hid hI1
   have HSO := Lib.hid hW1
   have HF := Lib.hid (fun W (g : Grow W1 W) => ze2 W b own E (hEm.grow g) er)
   have HT1 := Lib.hid (Turn.first hEm)
   clear hGW hI1 hW1 hEm
   go_wp2_with fail
   refine (HF.out _ grI).mono ?_
   rintro e' w2 ⟨rfl, hE⟩
   obtain ⟨own2, T2⟩ := HT1.out.step grI hE
   have HGm := Lib.hid (fun W (g : Grow w2 W) => zee W b own2 _ (T2.em.grow g) n (HK.out.fail er) (by omega) 5 c)
   have HT2 := Lib.hid T2
   clear hE T2 HF
   go_wp2_with fail
   refine (HGm.out _ grI).mono ?_
   rintro e' w3 ⟨rfl, hE⟩
   rw [← HS0.out] at hE
   obtain ⟨own3, T3⟩ := HT2.out.step grI hE
   have HE3 := Lib.hid (fun W (g : Grow w3 W) => zas W b own3 _ (T3.em.grow g))
   have HT3 := Lib.hid T3
   clear hE T3 HGm HT2
   rw [HH2.out, za4] at HE3
   have HFN := Lib.hid (fun W (g : Grow w3 W) => zqn W b own3 E2 (HT3.out.em.grow g))
   have hlt3 := HT3.out.em.lt
   have HL3 := Lib.hid hlt3
   have hb3 : b < w3.heap.size := by obtain ⟨V3, _, _, _, hr3, _⟩ := HT3.out.em; exact hr3.host.lt
   obtain ⟨V3, sd3, se3, sp3, hr3, ho3⟩ := HT3.out.em
   have hcl3 := zjj hr3.host p hp11
   have HDe := Lib.hid (fun W (g : Grow w3 W) => z0u W (V3.list p) so (E2.now.list p) od ((hr3.host.rep.ints p hp11).grow g) ((HI.out.kept HT3.out.kept (fun hl ho => by have h1 := HSO.out _ (zbs HI.out hl); have h2 := HL.out _ ho; omega)).grow g) (by have := HLL.out; omega) (HPM.out HH2.out))
   rw [← HDD.out] at HDe
   clear hr3 ho3 hlt3
   go_wp2_with (first | (go_at_call 17; refine (HE3.out _ grI).mono ?_; rintro e' w' ⟨rfl, n3, rfl⟩) | (go_at_call 110; refine (HDe.out _ grI).mono ?_; rintro e' w' ⟨sD, rfl, hI, hO, nD, rfl⟩; (try simp only [zae] at hI); (try simp only [zad] at hI); have HID := Lib.hid hI; have HOD := Lib.hid hO; have hnD := hI.len; clear hI hO) | (go_at_call 26; refine (HFN.out _ grI).mono ?_; rintro e' w' ⟨rfl, n5, rfl⟩))
   have hG4 : Grow w3 (w3.plus ((n3.and nD).and n5)) := ⟨_, rfl⟩
   have hT4 := HT3.out.grow hG4
   have hD4 : Ints (w3.plus ((n3.and nD).and n5)) sD D := HID.out.grow grI
   have hO4 : ∀ k, sD.owns k → ¬ own3 k := fun k hk ho => by
    have h1 := (HOD.out k hk).1
    have h2 := HL3.out k ho
    rw [zac] at h1
    omega
   clear HID HOD HDe HE3 HFN HT3 HL3 hb3 hcl3 hG4
   generalize w3.plus ((n3.and nD).and n5) = W4 at *
   have HT4 := Lib.hid hT4
   have HD4 := Lib.hid hD4
   have HO4 := Lib.hid hO4
   clear hT4 hD4 hO4
   go_loopw [69] (fun i wr => ∃ (k : Nat) (ownk : Nat → Prop), k ≤ D.length ∧ i = .int .i64 k ∧ Turn W4 b own3 (E2.shufTo p D k) wr ownk) (fun i _ => D.length - (intOf i).toNat)
   case atStart => exact ⟨0, own3, by omega, rfl, Turn.first HT4.out.em⟩
   case round =>
    obtain ⟨k, ownk, hk, rfl, hTu⟩ := hrel
    have hDl := HDL.out
    by_cases hlt : k < D.length
    · obtain ⟨q1, q2⟩ := (HD4.out.kept hTu.kept (fun hl => HO4.out _ (zbs HD4.out hl))).at k hlt
      have hEk := HK2.out.shufTo p D k
      have HS := Lib.hid (zp0 E2 p D k)
      generalize gt D k = id at *
      generalize E2.shufTo p D k = Ek at *
      have HTu := Lib.hid hTu
      have hown := hTu.em.lt
      have HL5 := Lib.hid hown
      have hsl := hEk.small.list p hp11
      obtain ⟨V2, sd2, se2, sp2, hr2, ho2⟩ := hTu.em
      have hcl2 := zjj hr2.host p hp11
      have hl2 := hr2.host.lt
      have hne2 : ¬ b = wr.heap.size := by omega
      have HIx := Lib.hid (fun W (g : Grow wr W) => zm7 W (V2.list p) (Ek.now.list p) id ((hr2.host.rep.ints p hp11).grow g) (by omega))
      unfold Em.shufAt at HS
      generalize idxL (Ek.now.list p) id = ix at *
      have HDo := Lib.hid (fun W (g : Grow wr W) (q : Nat) (h : W.blk q = cellsOf [1, id, (p : Int), ix, (p : Int), (k : Int)]) (hq : ¬ ownk q) => ze1 W b ownk Ek (HTu.out.em.grow g) (n + 1 + k) hEk (.mk q 0 1 1) [[1, id, (p : Int), ix, (p : Int), (k : Int)]] ((zd4 W q 6 _ rfl h).rows (by omega) (zij (fun r hr => by rw [List.mem_singleton] at hr; subst hr; rfl))) (fun _ => hq) (by simp; omega))
      clear hr2 ho2 hTu hown hEk hsl
      by_cases hik : ix = (k : Int)
      · subst hik
        rw [if_pos rfl] at HS
        go_wp2_with (go_at_call 111; refine (HIx.out _ grI).mono ?_; rintro e' w' ⟨rfl, hww⟩; subst w')
        go_roundw
        case rel => exact ⟨k + 1, ownk, by omega, by go_num, by rw [HS.out]; exact HTu.out.grow grI⟩
        case measure => simp [intOf]; omega
      · rw [if_neg hik] at HS
        have hbq : (ix == (k : Int)) = false := by simpa using hik
        go_wp2_with (go_at_call 111; refine (HIx.out _ grI).mono ?_; rintro e' w' ⟨rfl, hww⟩; subst w')
        refine (HDo.out _ grI _ (by go_simp) (fun hq => by have := HL5.out _ hq; (try simp only [zac, zaa] at this); omega)).mono ?_
        rintro e' w5 ⟨rfl, hE⟩
        obtain ⟨own5, T5⟩ := HTu.out.step grI hE
        have HT5 := Lib.hid T5
        clear hE T5 HDo
        go_wp2_with fail
        go_roundw
        case rel => exact ⟨k + 1, own5, by omega, by go_num, by rw [HS.out]; exact HT5.out⟩
        case measure => simp [intOf]; omega
    · have hkl : k = D.length := by omega
      subst hkl
      have HTu := Lib.hid hTu
      have hE3 := HK2.out.shufTo p D D.length
      have HE3 := Lib.hid hE3
      clear hTu hE3
      go_wp2_with fail
      go_loopw [98] (fun i w6 => ∃ (k : Nat) (own6 : Nat → Prop), k ≤ D.length ∧ i = .int .i64 k ∧ Turn W4 b own3 ((E2.shufTo p D D.length).hideTo D k) w6 own6) (fun i _ => D.length - (intOf i).toNat)
      case atStart => exact ⟨0, ownk, by omega, rfl, HTu.out⟩
      case round =>
       obtain ⟨k, own6, hk, rfl, hTu⟩ := hrel
       by_cases hlt : k < D.length
       · obtain ⟨q1, q2⟩ := (HD4.out.kept hTu.kept (fun hl => HO4.out _ (zbs HD4.out hl))).at k hlt
         have hEk := HE3.out.hideTo D k
         have HS := Lib.hid (zo6 (E2.shufTo p D D.length) D k)
         generalize gt D k = id at *
         generalize (E2.shufTo p D D.length).hideTo D k = Ek at *
         have HTv := Lib.hid hTu
         have hown := hTu.em.lt
         have HL5 := Lib.hid hown
         obtain ⟨V2, sd2, se2, sp2, hr2, ho2⟩ := hTu.em
         have hH := hr2.host
         have hcell := zaf (hH).free (hH).blk; have hfz := zah (hH).free; have hset := zag (hH).free (hH).blk; have hblk := (hH).blk; have hfree := (hH).free; have hlt := (hH).lt; have hne1 : ¬ b = (wr).heap.size := (by omega); have hne2 : ¬ (wr).heap.size = b := (by omega)
         have h1 := zku Ek.now id 3
         have HW := Lib.hid (zso Ek.now id 3)
         have HSh := Lib.hid (fun W (g : Grow wr W) => z1b Ek.now V2 W (hr2.host.rep.grow g) id 3)
         have HDo := Lib.hid (fun W (g : Grow wr W) (s : Sl) (r : Rows' W s 6 (hideEv Ek.now id 3)) (hq : ∀ k, s.owns k → ¬ own6 k) => ze1 W b own6 Ek (HTv.out.em.grow g) (n + 1 + D.length + k) hEk s (hideEv Ek.now id 3) r (fun hl => hq _ (zbn r hl)) (by omega))
         clear hr2 ho2 hTu hown hEk hH h1
         generalize hideEv Ek.now id 3 = l at *
         go_wp2_with (go_at_call 113; refine (HSh.out _ grI).mono ?_; rintro e' w' ⟨s', rfl, hO, nx, rfl⟩; have HO2 := Lib.hid (fun k hk => (hO.lt k hk).1); have hO3 : Rows' _ s' 6 l := hO.rows (by omega) HW.out; clear hO; (try simp only [zae] at hO3); (try simp only [zad] at hO3); have HO3 := Lib.hid hO3; clear hO3)
         refine (HDo.out _ grI s' HO3.out (fun k hk hk2 => by have h1 := HO2.out k hk; have h2 := HL5.out k hk2; (try simp only [zac] at h1); omega)).mono ?_
         rintro e' w7 ⟨rfl, hE⟩
         obtain ⟨own7, T7⟩ := HTv.out.step grI hE
         have HT7 := Lib.hid T7
         clear hE T7 HDo
         go_wp2_with fail
         go_roundw
         case rel => exact ⟨k + 1, own7, by omega, by go_num, by rw [HS.out]; exact HT7.out⟩
         case measure => simp [intOf]; omega
       · have hkl : k = D.length := by omega
         subst hkl
         have HTv := Lib.hid hTu
         clear hTu
         go_wp2_with fail
         go_end0
         exact ⟨rfl, EPost.low HG1.out (EPost.then HT4.out.kept HT4.out.own ⟨_, HTv.out.em, HTv.out.kept, HTv.out.own⟩)⟩
 · rw [if_pos h2]
   have HH2 := Lib.hid h2
   clear h2
   go_enter Tryz.func81, Tryz.ntmps81
   go_wp2_with (go_at_call 101; refine (HP.out _ grI).mono ?_; rintro e' w' ⟨rfl, n1, rfl⟩)
   go_region_held3 (fun W => W.cell? ⟨b, 37, none⟩ = some sd.val ∧ W.cell? ⟨b, 35, none⟩ = some (I u) ∧ W.cell? ⟨b, 1 + p, none⟩ = some (V.list p).val) (simp [go_sem, *]) (first | (go_at_call 108; refine (HO.out _ grI).mono ?_; rintro e' w' ⟨so, rfl, hI, hW, n2, rfl⟩; (try simp only [zae] at hI); (try simp only [zad] at hI); have HI := Lib.hid hI; have HW := Lib.hid hW; clear hI hW))
   have hGW : Grow w (w.plus (n1.and n2.late)) := ⟨_, rfl⟩
   have hI1 := HI.out
   have hW1 : ∀ k, so.owns k → w.heap.size ≤ k := fun k hk => by
    have h1 := (HW.out k hk).1
    have h2 : (w.plus n1).drew.heap.size = (w.plus n1).heap.size := rfl
    rw [h2, zac] at h1
    omega
   have hEm := HR0.out.grow hGW
   clear HI HW hcd hcg hcl hln hlt hne1 HO HP
   generalize w.plus (n1.and n2.late) = W1 at *
   have HG1 := Lib.hid hGW
   have HI := Lib.hid hI1
   have HSO := Lib.hid hW1
   have HF := Lib.hid (fun W (g : Grow W1 W) => ze2 W b own E (hEm.grow g) er)
   have HT1 := Lib.hid (Turn.first hEm)
   clear hGW hI1 hW1 hEm
   go_wp2_with fail
   refine (HF.out _ grI).mono ?_
   rintro e' w2 ⟨rfl, hE⟩
   obtain ⟨own2, T2⟩ := HT1.out.step grI hE
   have HGm := Lib.hid (fun W (g : Grow w2 W) => zee W b own2 _ (T2.em.grow g) n (HK.out.fail er) (by omega) 5 c)
   have HT2 := Lib.hid T2
   clear hE T2 HF
   go_wp2_with fail
   refine (HGm.out _ grI).mono ?_
   rintro e' w3 ⟨rfl, hE⟩
   rw [← HS0.out] at hE
   obtain ⟨own3, T3⟩ := HT2.out.step grI hE
   have HE3 := Lib.hid (fun W (g : Grow w3 W) => zas W b own3 _ (T3.em.grow g))
   have HT3 := Lib.hid T3
   clear hE T3 HGm HT2
   rw [zap HH2.out] at HE3
   go_wp2_with (go_at_call 17; refine (HE3.out _ grI).mono ?_; rintro e' w' ⟨rfl, nx, rfl⟩)
   first | go_end0 | refine bodyPost_ret (results_none rfl _ _ _) rfl ?_
   exact ⟨rfl, EPost.low HG1.out ((HT3.out.post (Grow.refl _)).more grI)⟩
theorem zmz (w : World) (b : Nat) (own : Nat → Prop) (E : Em) (R : Emt w b own E) (he : E.err = 0) (n : Nat) (K : EmOk E n) (hn : 4 * n + 10 ≤ 1000000) (hd : E.draws.length ≤ 1048576) (hc : E.now.num 23 ≤ 1073741824) (p : Int) :
 Calls Tryz.prog 81 #[.pointer (some ⟨b, 0, none⟩), .int .i64 p] w fun r w' => r = .returned (.tuple #[]) ∧ EPost w b own (E.shuffle p) w' := by
 by_cases hp : p = 0 ∨ p = 1
 · obtain ⟨q, rfl⟩ := Int.eq_ofNat_of_zero_le (show 0 ≤ p by omega)
   exact zyo w b own E R he n K hn hd hc q (by omega)
 · exact z8l w b own E R he p hp
end Go.Proofs.YthfalocligkamaaGreatDoor
