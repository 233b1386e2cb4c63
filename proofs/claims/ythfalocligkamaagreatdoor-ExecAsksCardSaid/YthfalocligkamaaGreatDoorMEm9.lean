/- The walk of an emitter's await, whatever the card. -/
import Derived.Test.YthfalocligkamaaGreatDoorMPutN
namespace Go.Proofs.YthfalocligkamaaGreatDoor
open Go Go.RowKit Go.Shelf
@[go_sem] theorem zxr (w : World) : (za0 99 #[]).run Tryz.prog w = .ok (.value (.agg (CdV.arr ⟨0, 0, false, 0, 0, 0, 0, 0, 0, 0, 0, 0, .nil⟩))) w := by kernel_rfl
set_option maxRecDepth 100000 in
set_option maxHeartbeats 2000000 in
theorem zvm (w : World) (n : Int) (hn : n < 0 ∨ 120 ≤ n) : Calls Tryz.prog 130 #[.int .i64 n] w fun e w' => ∃ c : CdV, e = .returned (.tuple #[.agg c.arr, .iface 66 (.int .i64 4)]) ∧ CardOk w' w.heap.size c ⟨0, 0, 0, 0, []⟩ ∧ Grow w w' := by
 by_cases h0 : n < 0
 · clear hn
   go_enter Tryz.func130, Tryz.ntmps130
   go_wp2_with fail
   refine bodyPost_ret (zaj rfl _ _ _ rfl ?_) rfl ?_
   · go_simp
   · refine ⟨⟨0, 0, false, 0, 0, 0, 0, 0, 0, 0, 0, 0, .nil⟩, (by first | rfl | (go_simp; done) | (go_simp; rfl)), ⟨rfl, rfl, rfl, rfl, [], RowsV.nil _ _, .inl rfl, .nil⟩, grI⟩
 · have h1 : 120 ≤ n := by omega
   clear hn
   go_enter Tryz.func130, Tryz.ntmps130
   go_wp2_with fail
   refine bodyPost_ret (zaj rfl _ _ _ rfl ?_) rfl ?_
   · go_simp
   · refine ⟨⟨0, 0, false, 0, 0, 0, 0, 0, 0, 0, 0, 0, .nil⟩, (by first | rfl | (go_simp; done) | (go_simp; rfl)), ⟨rfl, rfl, rfl, rfl, [], RowsV.nil _ _, .inl rfl, .nil⟩, grI⟩
set_option maxRecDepth 100000 in
set_option maxHeartbeats 8000000 in
theorem zri (w : World) (b : Nat) (own : Nat → Prop) (E : Em) (R : Emt w b own E) (a : Nat) (ha : a < E.now.objs.length) (hx : ¬ (0 ≤ gt (rowAt E.now.objs a) 0 ∧ gt (rowAt E.now.objs a) 0 < 120)) (wh ctl : Int) :
 Calls Tryz.prog 118 #[.pointer (some ⟨b, 0, none⟩), .int .i64 (a : Int), .int .i64 wh, .int .i64 ctl] w fun r w' => r = .returned (.tuple #[]) ∧ EPost w b own (E.await a wh ctl) w' := by
 have hown := R.lt
 have HR0 := Lib.hid R
 obtain ⟨V, sd, se, sp, hr, ho⟩ := R
 have hoc := hr.host.rep.objs.cell a 0 ha (by omega)
 have hN := hr.host.rep.objs.len
 have hob := (zbd hoc).1
 rw [Nat.add_zero] at hoc
 have hH := hr.host
 have hcell := zaf (hH).free (hH).blk; have hfz := zah (hH).free; have hset := zag (hH).free (hH).blk; have hblk := (hH).blk; have hfree := (hH).free; have hlt := (hH).lt; have hne1 : ¬ b = (w).heap.size := (by omega); have hne2 : ¬ (w).heap.size = b := (by omega)
 have HL := Lib.hid hown
 clear hr ho hH hblk hown
 unfold Em.await
 rw [Int.toNat_natCast, if_neg hx]
 have ha1 : (a : Int) < E.now.objs.length := by omega
 generalize gt (rowAt E.now.objs a) 0 = x at *
 have HCa := Lib.hid (fun W => zvm W x (by omega))
 have HUs := Lib.hid (fun W (cc : CdV) m (h : CardOk W m cc ⟨0, 0, 0, 0, []⟩) => zmm W cc ⟨0, 0, 0, 0, []⟩ m h wh (by simp))
 clear hx
 go_enter Tryz.func118, Tryz.ntmps118
 go_wp2_with (go_at_call 130; refine (HCa.out _).mono ?_; rintro e' w' ⟨cc, rfl, hC, n1, rfl⟩; have HC := Lib.hid hC; clear hC)
 have hC := HC.out
 (try simp only [zae] at hC); (try simp only [zad] at hC)
 have hG : Grow w ((w.plus n1).alloc (.cells cc.arr 99)) := grI
 have hC2 := hC.grow (w' := (w.plus n1).alloc (.cells cc.arr 99)) grI
 have hqb : ((w.plus n1).alloc (.cells cc.arr 99)).blk (w.plus n1).heap.size = cc.arr := by rw [zeq, if_pos rfl]
 have hqf : ((w.plus n1).alloc (.cells cc.arr 99)).free (w.plus n1).heap.size = true := by go_simp
 have hql : (w.plus n1).heap.size < ((w.plus n1).alloc (.cells cc.arr 99)).heap.size := by rw [zaa]; omega
 have hqo : ¬ own (w.plus n1).heap.size := fun h => by
  have h2 := HL.out _ h
  rw [zac] at h2
  omega
 clear hC HC
 have HF := Lib.hid (fun W (g : Grow ((w.plus n1).alloc (.cells cc.arr 99)) W) => by have := ze2 W b own E ((HR0.out.grow hG).grow g) 4; rw [zap (show (4 : Int) ≠ 0 by decide)] at this; exact this)
 have hq0 : (w.plus n1).heap.size = w.heap.size + n1.objs.size := zac _ _
 rw [hq0] at hqb hqf hql hqo
 have HT1 := Lib.hid (Turn.first (HR0.out.grow hG))
 generalize hq : w.heap.size + n1.objs.size = q at *
 clear hq hcell hfz hset hfree hlt hne1 hne2 hoc hob hN
 generalize (w.plus n1).alloc (.cells cc.arr 99) = W1 at *
 have HG := Lib.hid hG
 refine (HF.out _ grI).mono ?_
 rintro e' w2 ⟨rfl, hE⟩
 obtain ⟨own2, T2⟩ := HT1.out.step grI hE
 have hb2 : w2.blk q = cc.arr := by rw [T2.kept.blk _ hql hqo]; exact hqb
 have hf2 : w2.free q = true := by rw [T2.kept.free _ hql hqo]; exact hqf
 have hl2 : q < w2.heap.size := Nat.lt_of_lt_of_le hql T2.kept.size
 have HC2 := Lib.hid ((⟨hC2.kind, hC2.pw, hC2.tf, hC2.says, by obtain ⟨l, _, _, h3⟩ := hC2.abs; cases h3; exact ⟨[], by obtain ⟨l', h1, _, h3'⟩ := hC2.abs; cases h3'; exact ⟨h1.len, h1.cap, h1.wid, fun i j x hx => by simp at hx⟩, .inl rfl, .nil⟩⟩ : CardOk w2 w.heap.size cc ⟨0, 0, 0, 0, []⟩))
 have HT2 := Lib.hid T2
 have hu0 : usesN [] wh = [] := rfl
 rw [hu0] at HUs
 clear hE T2 HF hqb hqf hql hqo hC2 hG
 go_wp2_with (go_at_call 144; refine (HUs.out _ _ _ (HC2.out.grow grI)).mono ?_; rintro e' w' ⟨s, rfl, hI, _, n2, rfl⟩; have hsn := hI.len; clear hI)
 go_loopw [32] (fun i wr => i = .int .i64 0 ∧ wr = w2.plus n2) (fun i _ => 0)
 case atStart => exact ⟨rfl, rfl⟩
 case round =>
  obtain ⟨rfl, rfl⟩ := hrel
  go_wp2_with fail
  go_end0
  exact ⟨rfl, EPost.low HG.out ((HT2.out.post (Grow.refl _)).more grI)⟩
theorem zfc (w : World) (b : Nat) (own : Nat → Prop) (E : Em) (R : Emt w b own E) (n : Nat) (K : EmOk E n) (hn : n + 2 ≤ 1000000) (a : Nat) (ha : a < E.now.objs.length) (wh ctl : Int) :
 Calls Tryz.prog 118 #[.pointer (some ⟨b, 0, none⟩), .int .i64 (a : Int), .int .i64 wh, .int .i64 ctl] w fun r w' => r = .returned (.tuple #[]) ∧ EPost w b own (E.await a wh ctl) w' := by
 by_cases h : 0 ≤ gt (rowAt E.now.objs a) 0 ∧ gt (rowAt E.now.objs a) 0 < 120
 · exact zvg w b own E R n K hn a ha h.1 h.2 wh ctl
 · exact zri w b own E R a ha h wh ctl
end Go.Proofs.YthfalocligkamaaGreatDoor
namespace Go.Proofs.YthfalocligkamaaGreatDoor
open Go Go.RowKit Go.Shelf
@[go_sem] theorem z7l (w : World) (c : List Int) (hc : c.length = 9) (k : IntKind) (i : Int) (h0 : 0 ≤ i) (h1 : i < 9) : (Instr.index 25 (.agg (cellsOf c)) (.int k i)).run Tryz.prog w = .ok (I (gt c i.toNat)) w :=
 zgf w 25 3 9 Tryz.underlying25 Tryz.underlying3 (by kernel_rfl) c hc k i h0 h1
theorem zxl : sub (cellsOf restL) 0 9 = cellsOf restL := rfl
theorem zjs (E : Em) (id fr dz own : Int) : E.put2 id fr dz own = ((fun (E4 : Em) => (if dz = 8 ∧ fr ≠ dz then E4.setObj id 5 1 else E4).show id (zbx dz))
 ((fun (E3 : Em) => if dz ≠ 9 then E3.setObj id 16 0 else E3) ((fun (E2 : Em) => if dz < 8 then E2.setObj id 2 own else E2) (if dz ≠ 8 then E.restTo id 9 else E)))) := rfl
set_option maxRecDepth 100000 in
set_option maxHeartbeats 1000000 in
theorem zql (w : World) (b : Nat) (own : Nat → Prop) (E : Em) (R : Emt w b own E) (n : Nat) (K : EmOk E n) (hn : n + 20 ≤ 1000000) (GL : GlobE w own) (hzone : E.err = 0 → ∀ i, i < E.now.objs.length → 0 ≤ gt (rowAt E.now.objs i) 3 ∧ gt (rowAt E.now.objs i) 3 < 11) (id base : Int) :
 Calls Tryz.prog 85 #[.pointer (some ⟨b, 0, none⟩), .int .i64 id, .int .i64 base] w fun r w' => r = .returned (.tuple #[]) ∧ EPost w b own (E.put id base) w' := by
 have hown := R.lt
 have HEr := Lib.hid (fun W (g : Grow w W) => zas W b own E (R.grow g))
 have HR0 := Lib.hid R
 unfold Em.put
 by_cases he : E.err = 0
 · rw [if_neg (by rw [he]; simp)]
   have HZ := Lib.hid (hzone he)
   have HK := Lib.hid K
   have HGL := Lib.hid GL
   have HLT := Lib.hid hown
   have HMT : Hid (∀ W, Grow w W → ∀ c : Bool, c = true → ∀ m : Int, Calls Tryz.prog 106 #[.pointer (some ⟨b, 0, none⟩), .bool c, .int .i64 m] W fun e w' => e = .returned (.bool true) ∧ Grow W w') := fun W g c hc m => by subst hc; exact zg9 W b own E (R.grow g) he m
   have HMF : Hid (∀ W, Grow w W → ∀ c : Bool, c = false → ∀ m : Int, m ≠ 0 → Calls Tryz.prog 106 #[.pointer (some ⟨b, 0, none⟩), .bool c, .int .i64 m] W fun e w' => e = .returned (.bool false) ∧ EPost W b own { E with err := m } w') := fun W g c hc m hm => by
    subst hc
    have h := ziq W b own E (R.grow g) false m hm
    have e1 : E.must false m = { E with err := m } := by unfold Em.must; rw [if_neg (by rw [he]; simp)]; rfl
    rw [e1, Bool.and_false] at h
    exact h
   have HHE := Lib.hid he
   rw [he, za4] at HEr
   obtain ⟨V, sd, se, sp, hr, ho⟩ := R
   have hH := hr.host
   have hcell := zaf (hH).free (hH).blk; have hfz := zah (hH).free; have hset := zag (hH).free (hH).blk; have hblk := (hH).blk; have hfree := (hH).free; have hlt := (hH).lt; have hne1 : ¬ b = (w).heap.size := (by omega); have hne2 : ¬ (w).heap.size = b := (by omega)
   have hN := hr.host.rep.objs.len
   have HRP := Lib.hid hr.host.rep
   have HIN := Lib.hid hr.host.in'
   clear hr ho hH hblk K hown he GL hzone
   by_cases hid : 0 ≤ id ∧ id < E.now.objs.length
   · rw [if_neg (fun h => h hid)]
     cases hb : zgv base with
     | false =>
       rw [if_pos rfl]
       have hB := fun W => zms base W
       rw [hb] at hB
       have HB := Lib.hid hB
       obtain ⟨i0, i1⟩ := hid
       clear hb hB
       obtain ⟨a, rfl⟩ := Int.eq_ofNat_of_zero_le i0
       go_enter Tryz.func85, Tryz.ntmps85
       go_wp2_with (first | (go_at_call 17; refine (HEr.out _ grI).mono ?_; rintro e' w' ⟨rfl, nx, rfl⟩) | (go_at_call 106; refine (HMT.out _ grI _ (by first | rfl | (simp; omega)) _).mono ?_; rintro e' w' ⟨rfl, nx, rfl⟩) | (go_at_call 115; refine (HB.out _).mono ?_; rintro e' w' ⟨rfl, hww⟩; subst w') | (go_at_call 106; refine (HMF.out _ grI _ (by first | rfl | (simp; omega)) _ (by decide)).mono ?_; rintro e' w' ⟨rfl, hE⟩; have HE := Lib.hid hE; clear hE))
       refine bodyPost_ret (results_none rfl _ _ _) rfl ?_
       exact ⟨rfl, EPost.low grI HE.out⟩
     | true =>
       rw [if_neg (by simp)]
       have hB := fun W => zms base W
       rw [hb] at hB
       have HB := Lib.hid hB
       obtain ⟨i0, i1⟩ := hid
       obtain ⟨a, rfl⟩ := Int.eq_ofNat_of_zero_le i0
       have ha : a < E.now.objs.length := by omega
       obtain ⟨qb, qw, qsz, qsub, _⟩ := HRP.out.objs.at (by omega) a ha
       have hzz := HZ.out a ha
       simp only [Int.toNat_natCast]
       have hev0 : ∀ d : Int, E.now.putEv a d = [1, (a : Int), gt (rowAt E.now.objs a) 3, idxL (E.now.list (gt (rowAt E.now.objs a) 3).toNat) a, d, ((E.now.list d.toNat).length : Int) - (if gt (rowAt E.now.objs a) 3 = d then 1 else 0)] := fun d => by unfold St.putEv; rw [Int.toNat_natCast]
       generalize rowAt E.now.objs a = o at *
       have hho := z7g o hb
       have hhg := zkw o
       obtain ⟨fr, hfr⟩ := Int.eq_ofNat_of_zero_le hzz.1
       obtain ⟨d, hd⟩ := Int.eq_ofNat_of_zero_le hho.1
       have HHo := Lib.hid (fun W => by have h := z2a o qw base W; rw [hd] at h; exact h)
       rw [hfr] at hev0 hzz
       rw [hd] at hho
       have hb4 : d = 8 → ¬ base = 4 := fun e1 e2 => by subst e1; subst e2; exact hhg hd
       clear hhg
       have hev := hev0 d
       simp only [Int.toNat_natCast] at hev
       rw [hfr, hd, hev]
       have hf11 : fr < 11 := by omega
       have hd11 : d < 11 := by omega
       have hfi : (fr : Int) < 11 := by omega
       have hdi : (d : Int) < 11 := by omega
       have hln := HK.out.small.list d hd11
       have hlf := HK.out.small.list fr hf11
       have hvd := (HRP.out.list d hd11).len
       have HI := Lib.hid (fun W (g : Grow w W) => zm7 W (V.list fr) (E.now.list fr) a ((HRP.out.list fr hf11).grow g) (by omega))
       have HD := Lib.hid (fun W (g : Grow w W) (q : Nat) (ev : List Int) (he : ev.length = 6) (h : W.blk q = cellsOf ev) (hq : ¬ own q) => ze1 W b own E (HR0.out.grow g) n HK.out (.mk q 0 1 1) [ev] ((zd4 W q 6 _ he h).rows (by omega) (zij (fun r hr => by rw [List.mem_singleton] at hr; subst hr; exact he))) (fun _ => hq) (by simp; omega))
       clear hb hB hev0 hev hzz hho hd
       by_cases hfd : fr = d
       case' pos =>
        have hfb : ((fr : Int) == (d : Int)) = true := by simp [hfd]
        rw [if_pos (by rw [hfd] : (fr : Int) = d)]
        clear hfd
        go_enter Tryz.func85, Tryz.ntmps85
        go_wp2_with (first | (go_at_call 17; refine (HEr.out _ grI).mono ?_; rintro e' w' ⟨rfl, nx, rfl⟩) | (go_at_call 106; refine (HMT.out _ grI _ (by first | rfl | (simp; omega)) _).mono ?_; rintro e' w' ⟨rfl, nx, rfl⟩) | (go_at_call 115; refine (HB.out _).mono ?_; rintro e' w' ⟨rfl, hww⟩; subst w'))
        refine zab (by kernel_rfl) (by kernel_rfl) ?_; (repeat (go_big_quiet_step ( (go_at_call 116; first | refine Calls.grow2 (HHo.out _) | refine Calls.grow (HHo.out _)) ))); refine wpQuiet_nil ?_; rintro _ ⟨nx, rfl⟩
        go_wp2_with (go_at_call 111; refine (HI.out _ grI).mono ?_; rintro e' w' ⟨rfl, hww⟩; subst w')
        rename (Act -> World -> Prop) => K
        rename (∀ a w, _ -> _) => hK
        rename_i n1 n2 n3 z1 z2
        have hM : Mine ((((w.plus ((n1.and n2).and n3)).alloc (.cells (cellsOf o) 57)).plus nx).alloc (.cells (cellsOf [1, (a : Int), (fr : Int), idxL (E.now.list fr) a, (d : Int), ((E.now.list d).length : Int) - 1]) 90)) own (w.heap.size + ((n1.and n2).and n3).objs.size) (cellsOf o) := ⟨(by first | (go_simp; done) | (go_simp; omega) | (simp only [Sl.b]; go_simp; omega)), fun hq => by have := HLT.out _ hq; omega, by go_simp, by go_simp⟩
        have hGw : Grow w ((((w.plus ((n1.and n2).and n3)).alloc (.cells (cellsOf o) 57)).plus nx).alloc (.cells (cellsOf [1, (a : Int), (fr : Int), idxL (E.now.list fr) a, (d : Int), ((E.now.list d).length : Int) - 1]) 90)) := grI
        refine (HD.out _ hGw (w.heap.size + ((n1.and n2).and n3).objs.size + 1 + nx.objs.size) [1, (a : Int), (fr : Int), idxL (E.now.list fr) a, (d : Int), ((E.now.list d).length : Int) - 1] rfl (by go_simp) (fun hq => by have := HLT.out _ hq; (try simp only [zac, zaa] at this); omega)).mono ?_
        generalize w.heap.size + ((n1.and n2).and n3).objs.size = q at *
        generalize ((((w.plus ((n1.and n2).and n3)).alloc (.cells (cellsOf o) 57)).plus nx).alloc (.cells (cellsOf [1, (a : Int), (fr : Int), idxL (E.now.list fr) a, (d : Int), ((E.now.list d).length : Int) - 1]) 90)) = W at *
        have hK1 := HK.out.do1 [1, (a : Int), (fr : Int), idxL (E.now.list fr) a, (d : Int), ((E.now.list d).length : Int) - 1]
        have hl1 := zi6 E [1, (a : Int), (fr : Int), idxL (E.now.list fr) a, (d : Int), ((E.now.list d).length : Int) - 1] (by simp [gt]) (by simp [gt])
        have hc1 : ∀ i, gt (rowAt (E.do1 [1, (a : Int), (fr : Int), idxL (E.now.list fr) a, (d : Int), ((E.now.list d).length : Int) - 1]).now.objs i) 0 = gt (rowAt E.now.objs i) 0 := zg0 E [1, (a : Int), (fr : Int), idxL (E.now.list fr) a, (d : Int), ((E.now.list d).length : Int) - 1] (by simp [gt]) (by simp [gt]) (fun h => by simp [gt] at h)
        rintro e' w1 ⟨rfl, hE⟩
        have hE : EPost W b own (E.do1 [1, (a : Int), (fr : Int), idxL (E.now.list fr) a, (d : Int), ((E.now.list d).length : Int) - 1]) w1 := hE
        generalize hE1 : E.do1 [1, (a : Int), (fr : Int), idxL (E.now.list fr) a, (d : Int), ((E.now.list d).length : Int) - 1] = E1 at *
        have HE1 := Lib.hid hE1
        clear hE1
       case' neg =>
        have hfb : ((fr : Int) == (d : Int)) = false := by rw [beq_eq_false_iff_ne]; omega
        rw [if_neg (fun h => hfd (by omega) : ¬ (fr : Int) = d), Int.sub_zero]
        clear hfd
        go_enter Tryz.func85, Tryz.ntmps85
        go_wp2_with (first | (go_at_call 17; refine (HEr.out _ grI).mono ?_; rintro e' w' ⟨rfl, nx, rfl⟩) | (go_at_call 106; refine (HMT.out _ grI _ (by first | rfl | (simp; omega)) _).mono ?_; rintro e' w' ⟨rfl, nx, rfl⟩) | (go_at_call 115; refine (HB.out _).mono ?_; rintro e' w' ⟨rfl, hww⟩; subst w'))
        refine zab (by kernel_rfl) (by kernel_rfl) ?_; (repeat (go_big_quiet_step ( (go_at_call 116; first | refine Calls.grow2 (HHo.out _) | refine Calls.grow (HHo.out _)) ))); refine wpQuiet_nil ?_; rintro _ ⟨nx, rfl⟩
        go_wp2_with (go_at_call 111; refine (HI.out _ grI).mono ?_; rintro e' w' ⟨rfl, hww⟩; subst w')
        rename (Act -> World -> Prop) => K
        rename (∀ a w, _ -> _) => hK
        rename_i n1 n2 n3 z1 z2
        have hM : Mine ((((w.plus ((n1.and n2).and n3)).alloc (.cells (cellsOf o) 57)).plus nx).alloc (.cells (cellsOf [1, (a : Int), (fr : Int), idxL (E.now.list fr) a, (d : Int), ((E.now.list d).length : Int)]) 90)) own (w.heap.size + ((n1.and n2).and n3).objs.size) (cellsOf o) := ⟨(by first | (go_simp; done) | (go_simp; omega) | (simp only [Sl.b]; go_simp; omega)), fun hq => by have := HLT.out _ hq; omega, by go_simp, by go_simp⟩
        have hGw : Grow w ((((w.plus ((n1.and n2).and n3)).alloc (.cells (cellsOf o) 57)).plus nx).alloc (.cells (cellsOf [1, (a : Int), (fr : Int), idxL (E.now.list fr) a, (d : Int), ((E.now.list d).length : Int)]) 90)) := grI
        refine (HD.out _ hGw (w.heap.size + ((n1.and n2).and n3).objs.size + 1 + nx.objs.size) [1, (a : Int), (fr : Int), idxL (E.now.list fr) a, (d : Int), ((E.now.list d).length : Int)] rfl (by go_simp) (fun hq => by have := HLT.out _ hq; (try simp only [zac, zaa] at this); omega)).mono ?_
        generalize w.heap.size + ((n1.and n2).and n3).objs.size = q at *
        generalize ((((w.plus ((n1.and n2).and n3)).alloc (.cells (cellsOf o) 57)).plus nx).alloc (.cells (cellsOf [1, (a : Int), (fr : Int), idxL (E.now.list fr) a, (d : Int), ((E.now.list d).length : Int)]) 90)) = W at *
        have hK1 := HK.out.do1 [1, (a : Int), (fr : Int), idxL (E.now.list fr) a, (d : Int), ((E.now.list d).length : Int)]
        have hl1 := zi6 E [1, (a : Int), (fr : Int), idxL (E.now.list fr) a, (d : Int), ((E.now.list d).length : Int)] (by simp [gt]) (by simp [gt])
        have hc1 : ∀ i, gt (rowAt (E.do1 [1, (a : Int), (fr : Int), idxL (E.now.list fr) a, (d : Int), ((E.now.list d).length : Int)]).now.objs i) 0 = gt (rowAt E.now.objs i) 0 := zg0 E [1, (a : Int), (fr : Int), idxL (E.now.list fr) a, (d : Int), ((E.now.list d).length : Int)] (by simp [gt]) (by simp [gt]) (fun h => by simp [gt] at h)
        rintro e' w1 ⟨rfl, hE⟩
        have hE : EPost W b own (E.do1 [1, (a : Int), (fr : Int), idxL (E.now.list fr) a, (d : Int), ((E.now.list d).length : Int)]) w1 := hE
        generalize hE1 : E.do1 [1, (a : Int), (fr : Int), idxL (E.now.list fr) a, (d : Int), ((E.now.list d).length : Int)] = E1 at *
        have HE1 := Lib.hid hE1
        clear hE1
       all_goals
        obtain ⟨own1, R1, K1, O1⟩ := hE
        have T1 : Turn W b own E1 w1 own1 := ⟨R1, K1, O1⟩
        have HGw := Lib.hid hGw
        have hgl := T1.glob (HGL.out.grow hGw)
        have hgr := hgl.rest
        have hgt := hgl.lt
        have hra := zxl
        have hrl : restL.length = 9 := rfl
        have HB4 := Lib.hid hb4
        clear hb4
        clear R1 K1 O1 hgl hGw hcell hfz hset hfree hlt hne1 hne2 hN HRP HIN HB HI HD HHo HMT HMF HEr HZ qb qsz qsub hvd hln hlf HR0 HLT HGL
        have M1 := T1.mine hM
        have hcq1 := zaf M1.free M1.blk
        have hql1 := M1.lt
        have HT1 := Lib.hid T1
        clear M1 T1
        by_cases hd8 : d = 8
        · subst hd8
          by_cases hfr8 : fr = 8
          · subst hfr8
            have HS1 := Lib.hid (fun Wx (g : Grow w1 Wx) => zb6 Wx b own1 E1 (HT1.out.em.grow g) (n + 1) hK1 (by omega) a 16 0)
            go_wp2_with fail
            refine (HS1.out _ grI).mono ?_
            rintro e' w2 ⟨rfl, hE⟩
            obtain ⟨own2, T2⟩ := HT1.out.step grI hE
            have hK2 := hK1.setObj a 16 0
            have hl2 := (zcy E1 a 16 0).trans hl1
            have hc2 : ∀ i, gt (rowAt (E1.setObj a 16 0).now.objs i) 0 = gt (rowAt E.now.objs i) 0 := fun i => (zcx E1 a 16 0 (by decide) i).trans (hc1 i)
            generalize hE2 : E1.setObj a 16 0 = E2 at *
            have HE2 := Lib.hid hE2
            clear hE hE2 HS1 hcq1 hql1 HT1 hK1 hc1 hl1
            have M2 := T2.mine hM
            have hcq2 := zaf M2.free M2.blk
            have hql2 := M2.lt
            have HT2 := Lib.hid T2
            clear M2 T2
            have HS2 := Lib.hid (fun Wx (g : Grow w2 Wx) => zes Wx b own2 E2 (HT2.out.em.grow g) (n + 1 + 1) hK2 (by omega) a (zbx ((8 : Nat) : Int)))
            go_wp2_with (go_at_call 117; refine (zfl _ _).mono ?_; rintro e' w' ⟨rfl, hww⟩; subst w')
            refine (HS2.out _ grI).mono ?_
            rintro e' w3 ⟨rfl, hE⟩
            obtain ⟨own3, T3⟩ := HT2.out.step grI hE
            have hK3 := hK2.show a (zbx ((8 : Nat) : Int))
            have hl3 := (zhl E2 a (zbx ((8 : Nat) : Int))).trans hl2
            have hc3 : ∀ i, gt (rowAt (E2.show a (zbx ((8 : Nat) : Int))).now.objs i) 0 = gt (rowAt E.now.objs i) 0 := fun i => (zfq E2 a (zbx ((8 : Nat) : Int)) i).trans (hc2 i)
            generalize hE3 : E2.show a (zbx ((8 : Nat) : Int)) = E3 at *
            have HE3 := Lib.hid hE3
            clear hE hE3 HS2 hcq2 hql2 HT2 hK2 hc2 hl2
            have M3 := T3.mine hM
            have hcq3 := zaf M3.free M3.blk
            have hql3 := M3.lt
            have HT3 := Lib.hid T3
            clear M3 T3
            have HEr3 := Lib.hid (fun Wx (g : Grow w3 Wx) => zas Wx b own3 E3 (HT3.out.em.grow g))
            have hfin : E1.put2 a ((8 : Nat) : Int) ((8 : Nat) : Int) (gt o 1) = E3 := by
             rw [zjs, ← HE3.out, ← HE2.out]
             have c1 : ¬ (((8 : Nat) : Int) ≠ 8) := by omega
             have c2 : ¬ (((8 : Nat) : Int) < 8) := by omega
             have c3 : ((8 : Nat) : Int) ≠ 9 := by omega
             simp only [if_neg c1, if_neg c2, if_pos c3, if_neg (fun h : ((8 : Nat) : Int) = 8 ∧ ((8 : Nat) : Int) ≠ ((8 : Nat) : Int) => h.2 rfl)]
            have HFIN := Lib.hid hfin
            clear hfin HE2 HE3
            by_cases he3 : E3.err = 0
            · rw [he3, za4] at HEr3
              have HPUT : Hid (∀ x y z v, E3.put3 a x y z v = (if y = 8 ∧ x ≠ y then E3.await a 2 (gt (rowAt E3.now.objs a) 2) else if x = 8 ∧ z = 4 then E3.await a 3 v else E3)) := fun x y z v => by unfold Em.put3; rw [if_neg (by rw [he3]; simp), Int.toNat_natCast]
              have ha3 : a < E3.now.objs.length := by omega
              have HAw := Lib.hid (fun Wx (g : Grow w3 Wx) wh ctl => zfc Wx b own3 E3 (HT3.out.em.grow g) (n + 1 + 1 + 1) hK3 (by omega) a ha3 wh ctl)
              clear he3 hc3 hK3
              have hb4b : (base == 4) = false := by simpa using HB4.out (by trivial)
              go_wp2_with (first | (go_at_call 17; refine (HEr3.out _ grI).mono ?_; rintro e' w' ⟨rfl, nx, rfl⟩))
              go_end0
              refine ⟨rfl, ?_⟩
              rw [HE1.out, HFIN.out, HPUT.out, if_neg (fun h => h.2 rfl), if_neg (fun h => HB4.out (by trivial) h.2)]
              exact (HT3.out.grow grI).post HGw.out
            · rw [zap he3] at HEr3
              have HPUT : Hid (∀ x y z v, E3.put3 a x y z v = E3) := fun x y z v => by unfold Em.put3; rw [if_pos he3]
              clear he3
              go_wp2_with (first | (go_at_call 17; refine (HEr3.out _ grI).mono ?_; rintro e' w' ⟨rfl, nx, rfl⟩))
              go_end0
              refine ⟨rfl, ?_⟩
              rw [HE1.out, HFIN.out, HPUT.out]
              exact (HT3.out.grow grI).post HGw.out
          · have hfr8i : (fr : Int) ≠ ((8 : Nat) : Int) := by omega
            have y1 : ((fr : Int) != 8) = true := by simp; omega
            have y2 : ¬ (fr : Int) = 8 := by omega
            have HS1 := Lib.hid (fun Wx (g : Grow w1 Wx) => zb6 Wx b own1 E1 (HT1.out.em.grow g) (n + 1) hK1 (by omega) a 16 0)
            go_wp2_with fail
            refine (HS1.out _ grI).mono ?_
            rintro e' w2 ⟨rfl, hE⟩
            obtain ⟨own2, T2⟩ := HT1.out.step grI hE
            have hK2 := hK1.setObj a 16 0
            have hl2 := (zcy E1 a 16 0).trans hl1
            have hc2 : ∀ i, gt (rowAt (E1.setObj a 16 0).now.objs i) 0 = gt (rowAt E.now.objs i) 0 := fun i => (zcx E1 a 16 0 (by decide) i).trans (hc1 i)
            generalize hE2 : E1.setObj a 16 0 = E2 at *
            have HE2 := Lib.hid hE2
            clear hE hE2 HS1 hcq1 hql1 HT1 hK1 hc1 hl1
            have M2 := T2.mine hM
            have hcq2 := zaf M2.free M2.blk
            have hql2 := M2.lt
            have HT2 := Lib.hid T2
            clear M2 T2
            have HS2 := Lib.hid (fun Wx (g : Grow w2 Wx) => zb6 Wx b own2 E2 (HT2.out.em.grow g) (n + 1 + 1) hK2 (by omega) a 5 1)
            go_wp2_with fail
            refine (HS2.out _ grI).mono ?_
            rintro e' w3 ⟨rfl, hE⟩
            obtain ⟨own3, T3⟩ := HT2.out.step grI hE
            have hK3 := hK2.setObj a 5 1
            have hl3 := (zcy E2 a 5 1).trans hl2
            have hc3 : ∀ i, gt (rowAt (E2.setObj a 5 1).now.objs i) 0 = gt (rowAt E.now.objs i) 0 := fun i => (zcx E2 a 5 1 (by decide) i).trans (hc2 i)
            generalize hE3 : E2.setObj a 5 1 = E3 at *
            have HE3 := Lib.hid hE3
            clear hE hE3 HS2 hcq2 hql2 HT2 hK2 hc2 hl2
            have M3 := T3.mine hM
            have hcq3 := zaf M3.free M3.blk
            have hql3 := M3.lt
            have HT3 := Lib.hid T3
            clear M3 T3
            have HS3 := Lib.hid (fun Wx (g : Grow w3 Wx) => zes Wx b own3 E3 (HT3.out.em.grow g) (n + 1 + 1 + 1) hK3 (by omega) a (zbx ((8 : Nat) : Int)))
            go_wp2_with (go_at_call 117; refine (zfl _ _).mono ?_; rintro e' w' ⟨rfl, hww⟩; subst w')
            refine (HS3.out _ grI).mono ?_
            rintro e' w4 ⟨rfl, hE⟩
            obtain ⟨own4, T4⟩ := HT3.out.step grI hE
            have hK4 := hK3.show a (zbx ((8 : Nat) : Int))
            have hl4 := (zhl E3 a (zbx ((8 : Nat) : Int))).trans hl3
            have hc4 : ∀ i, gt (rowAt (E3.show a (zbx ((8 : Nat) : Int))).now.objs i) 0 = gt (rowAt E.now.objs i) 0 := fun i => (zfq E3 a (zbx ((8 : Nat) : Int)) i).trans (hc3 i)
            generalize hE4 : E3.show a (zbx ((8 : Nat) : Int)) = E4 at *
            have HE4 := Lib.hid hE4
            clear hE hE4 HS3 hcq3 hql3 HT3 hK3 hc3 hl3
            have M4 := T4.mine hM
            have hcq4 := zaf M4.free M4.blk
            have hql4 := M4.lt
            have HT4 := Lib.hid T4
            clear M4 T4
            have HEr4 := Lib.hid (fun Wx (g : Grow w4 Wx) => zas Wx b own4 E4 (HT4.out.em.grow g))
            have hfin : E1.put2 a fr ((8 : Nat) : Int) (gt o 1) = E4 := by
             rw [zjs, ← HE4.out, ← HE3.out, ← HE2.out]
             have c1 : ¬ (((8 : Nat) : Int) ≠ 8) := by omega
             have c2 : ¬ (((8 : Nat) : Int) < 8) := by omega
             have c3 : ((8 : Nat) : Int) ≠ 9 := by omega
             simp only [if_neg c1, if_neg c2, if_pos c3, if_pos (show ((8 : Nat) : Int) = 8 ∧ (fr : Int) ≠ ((8 : Nat) : Int) from ⟨rfl, hfr8i⟩)]
            have HFIN := Lib.hid hfin
            clear hfin HE2 HE3 HE4
            by_cases he4 : E4.err = 0
            · rw [he4, za4] at HEr4
              have HPUT : Hid (∀ x y z v, E4.put3 a x y z v = (if y = 8 ∧ x ≠ y then E4.await a 2 (gt (rowAt E4.now.objs a) 2) else if x = 8 ∧ z = 4 then E4.await a 3 v else E4)) := fun x y z v => by unfold Em.put3; rw [if_neg (by rw [he4]; simp), Int.toNat_natCast]
              have ha4 : a < E4.now.objs.length := by omega
              have HAw := Lib.hid (fun Wx (g : Grow w4 Wx) wh ctl => zfc Wx b own4 E4 (HT4.out.em.grow g) (n + 1 + 1 + 1 + 1) hK4 (by omega) a ha4 wh ctl)
              clear he4 hc4 hK4
              obtain ⟨V2, sd2, se2, sp2, hr2, ho2⟩ := HT4.out.em
              have hcell2 := zaf hr2.host.free hr2.host.blk
              have hN2 := hr2.host.rep.objs.len
              have hlt2 := hr2.host.lt
              have hoc2 := hr2.host.rep.objs.cell a 2 ha4 (by omega)
              have hob2 := (zbd hoc2).1
              have ha2 : (a : Int) < E4.now.objs.length := by omega
              clear hr2 ho2
              go_wp2_with (first | (go_at_call 17; refine (HEr4.out _ grI).mono ?_; rintro e' w' ⟨rfl, nx, rfl⟩))
              refine (HAw.out _ grI 2 _).mono ?_
              rintro e' w5 ⟨rfl, hE⟩
              obtain ⟨own5, T5⟩ := HT4.out.step grI hE
              go_wp2_with fail
              go_end0
              refine ⟨rfl, ?_⟩
              rw [HE1.out, HFIN.out, HPUT.out, if_pos ⟨rfl, hfr8i⟩]
              exact T5.post HGw.out
            · rw [zap he4] at HEr4
              have HPUT : Hid (∀ x y z v, E4.put3 a x y z v = E4) := fun x y z v => by unfold Em.put3; rw [if_pos he4]
              clear he4
              go_wp2_with (first | (go_at_call 17; refine (HEr4.out _ grI).mono ?_; rintro e' w' ⟨rfl, nx, rfl⟩))
              go_end0
              refine ⟨rfl, ?_⟩
              rw [HE1.out, HFIN.out, HPUT.out]
              exact (HT4.out.grow grI).post HGw.out
        by_cases hd9 : d = 9
        · subst hd9
          go_wp2_with fail
          go_loopw [85] (fun i wr => ∃ (k : Nat) (ownk : Nat → Prop), k ≤ 9 ∧ i = .int .i64 k ∧ Turn W b own (E1.restTo a k) wr ownk) (fun i _ => 9 - (intOf i).toNat)
          case atStart => exact ⟨0, own1, by omega, rfl, HT1.out⟩
          case round =>
           obtain ⟨k, ownk, hk, rfl, hTu⟩ := hrel
           by_cases hlt9 : k < 9
           · have HS := Lib.hid (fun Wx (g : Grow wr Wx) => zb6 Wx b ownk (E1.restTo a k) (hTu.em.grow g) (n + 1 + k) (hK1.restTo a k (by omega)) (by omega) a (gt restL k) 0)
             have HSU := Lib.hid (zdl E1 a k hlt9)
             have HTu := Lib.hid hTu
             have hk9 : (k : Int) < 9 := by omega
             clear hTu
             go_wp2_with (go_at_call 86; refine (HS.out _ grI).mono ?_; rintro e' w2 ⟨rfl, hE⟩; obtain ⟨own3, T3⟩ := HTu.out.step grI hE; rw [← HSU.out] at T3; have HT3 := Lib.hid T3; clear hE T3)
             go_roundw
             case rel => exact ⟨k + 1, own3, by omega, by go_num, HT3.out⟩
             case measure => simp [intOf]; omega
           · have hk9 : k = 9 := by omega
             subst hk9
             rename World => w2
             have T2 := hTu
             have hK2 := hK1.restTo a 9 (by omega)
             have hl2 := (zf3 E1 a 9 (by omega)).trans hl1
             have hc2 : ∀ i, gt (rowAt (E1.restTo a 9).now.objs i) 0 = gt (rowAt E.now.objs i) 0 := fun i => (ze7 E1 a 9 (by omega) i).trans (hc1 i)
             generalize hE2 : E1.restTo a 9 = E2 at *
             rename Nat → Prop => own2
             have HE2 := Lib.hid hE2
             clear hTu hE2 hcq1 hql1 HT1 hK1 hc1 hl1
             have M2 := T2.mine hM
             have hcq2 := zaf M2.free M2.blk
             have hql2 := M2.lt
             have HT2 := Lib.hid T2
             clear M2 T2
             have HS2 := Lib.hid (fun Wx (g : Grow w2 Wx) => zes Wx b own2 E2 (HT2.out.em.grow g) (n + 1 + 9) hK2 (by omega) a (zbx ((9 : Nat) : Int)))
             go_wp2_with (go_at_call 117; refine (zfl _ _).mono ?_; rintro e' w' ⟨rfl, hww⟩; subst w')
             refine (HS2.out _ grI).mono ?_
             rintro e' w3 ⟨rfl, hE⟩
             obtain ⟨own3, T3⟩ := HT2.out.step grI hE
             have hK3 := hK2.show a (zbx ((9 : Nat) : Int))
             have hl3 := (zhl E2 a (zbx ((9 : Nat) : Int))).trans hl2
             have hc3 : ∀ i, gt (rowAt (E2.show a (zbx ((9 : Nat) : Int))).now.objs i) 0 = gt (rowAt E.now.objs i) 0 := fun i => (zfq E2 a (zbx ((9 : Nat) : Int)) i).trans (hc2 i)
             generalize hE3 : E2.show a (zbx ((9 : Nat) : Int)) = E3 at *
             have HE3 := Lib.hid hE3
             clear hE hE3 HS2 hcq2 hql2 HT2 hK2 hc2 hl2
             have M3 := T3.mine hM
             have hcq3 := zaf M3.free M3.blk
             have hql3 := M3.lt
             have HT3 := Lib.hid T3
             clear M3 T3
             have HEr3 := Lib.hid (fun Wx (g : Grow w3 Wx) => zas Wx b own3 E3 (HT3.out.em.grow g))
             have hfin : E1.put2 a fr ((9 : Nat) : Int) (gt o 1) = E3 := by
              rw [zjs, ← HE3.out, ← HE2.out]
              have c1 : ((9 : Nat) : Int) ≠ 8 := by omega
              have c2 : ¬ ((9 : Nat) : Int) < 8 := by omega
              have c3 : ¬ (((9 : Nat) : Int) ≠ 9) := by omega
              have c4 : ¬ (((9 : Nat) : Int) = 8 ∧ (fr : Int) ≠ ((9 : Nat) : Int)) := by omega
              simp only [if_pos c1, if_neg c2, if_neg c3, if_neg c4]
             have HFIN := Lib.hid hfin
             clear hfin HE2 HE3
             have HD8 : Hid (¬ ((9 : Nat) : Int) = 8) := by show ¬ ((9 : Nat) : Int) = 8; omega
             by_cases he3 : E3.err = 0
             · rw [he3, za4] at HEr3
               have HPUT : Hid (∀ x y z v, E3.put3 a x y z v = (if y = 8 ∧ x ≠ y then E3.await a 2 (gt (rowAt E3.now.objs a) 2) else if x = 8 ∧ z = 4 then E3.await a 3 v else E3)) := fun x y z v => by unfold Em.put3; rw [if_neg (by rw [he3]; simp), Int.toNat_natCast]
               have ha3 : a < E3.now.objs.length := by omega
               have HAw := Lib.hid (fun Wx (g : Grow w3 Wx) wh ctl => zfc Wx b own3 E3 (HT3.out.em.grow g) (n + 1 + 9 + 1) hK3 (by omega) a ha3 wh ctl)
               clear he3 hc3 hK3
               by_cases hdie : (fr : Int) = 8 ∧ base = 4
               · obtain ⟨hd1, hd2⟩ := hdie
                 have hfn : fr = 8 := by omega
                 subst hfn
                 subst hd2
                 clear hd1
                 go_wp2_with (first | (go_at_call 17; refine (HEr3.out _ grI).mono ?_; rintro e' w' ⟨rfl, nx, rfl⟩))
                 refine (HAw.out _ grI 3 _).mono ?_
                 rintro e' w4 ⟨rfl, hE⟩
                 obtain ⟨own4, T4⟩ := HT3.out.step grI hE
                 go_wp2_with fail
                 go_end0
                 refine ⟨rfl, ?_⟩
                 rw [HE1.out, HFIN.out, HPUT.out, if_neg (fun h => HD8.out h.1), if_pos ⟨rfl, rfl⟩]
                 exact T4.post HGw.out
               · have HDI := Lib.hid hdie
                 by_cases hf8 : fr = 8
                 · subst hf8
                   have hb4b : (base == 4) = false := by simpa using fun h => hdie ⟨rfl, h⟩
                   clear hdie
                   go_wp2_with (first | (go_at_call 17; refine (HEr3.out _ grI).mono ?_; rintro e' w' ⟨rfl, nx, rfl⟩))
                   go_end0
                   refine ⟨rfl, ?_⟩
                   rw [HE1.out, HFIN.out, HPUT.out, if_neg (fun h => HD8.out h.1), if_neg HDI.out]
                   exact (HT3.out.grow grI).post HGw.out
                 · have hf8b : ((fr : Int) == 8) = false := by rw [beq_eq_false_iff_ne]; omega
                   clear hdie
                   go_wp2_with (first | (go_at_call 17; refine (HEr3.out _ grI).mono ?_; rintro e' w' ⟨rfl, nx, rfl⟩))
                   go_end0
                   refine ⟨rfl, ?_⟩
                   rw [HE1.out, HFIN.out, HPUT.out, if_neg (fun h => HD8.out h.1), if_neg HDI.out]
                   exact (HT3.out.grow grI).post HGw.out
             · rw [zap he3] at HEr3
               have HPUT : Hid (∀ x y z v, E3.put3 a x y z v = E3) := fun x y z v => by unfold Em.put3; rw [if_pos he3]
               clear he3
               go_wp2_with (first | (go_at_call 17; refine (HEr3.out _ grI).mono ?_; rintro e' w' ⟨rfl, nx, rfl⟩))
               go_end0
               refine ⟨rfl, ?_⟩
               rw [HE1.out, HFIN.out, HPUT.out]
               exact (HT3.out.grow grI).post HGw.out
        by_cases hd10 : d = 10
        · subst hd10
          go_wp2_with fail
          go_loopw [85] (fun i wr => ∃ (k : Nat) (ownk : Nat → Prop), k ≤ 9 ∧ i = .int .i64 k ∧ Turn W b own (E1.restTo a k) wr ownk) (fun i _ => 9 - (intOf i).toNat)
          case atStart => exact ⟨0, own1, by omega, rfl, HT1.out⟩
          case round =>
           obtain ⟨k, ownk, hk, rfl, hTu⟩ := hrel
           by_cases hlt9 : k < 9
           · have HS := Lib.hid (fun Wx (g : Grow wr Wx) => zb6 Wx b ownk (E1.restTo a k) (hTu.em.grow g) (n + 1 + k) (hK1.restTo a k (by omega)) (by omega) a (gt restL k) 0)
             have HSU := Lib.hid (zdl E1 a k hlt9)
             have HTu := Lib.hid hTu
             have hk9 : (k : Int) < 9 := by omega
             clear hTu
             go_wp2_with (go_at_call 86; refine (HS.out _ grI).mono ?_; rintro e' w2 ⟨rfl, hE⟩; obtain ⟨own3, T3⟩ := HTu.out.step grI hE; rw [← HSU.out] at T3; have HT3 := Lib.hid T3; clear hE T3)
             go_roundw
             case rel => exact ⟨k + 1, own3, by omega, by go_num, HT3.out⟩
             case measure => simp [intOf]; omega
           · have hk9 : k = 9 := by omega
             subst hk9
             rename World => w2
             have T2 := hTu
             have hK2 := hK1.restTo a 9 (by omega)
             have hl2 := (zf3 E1 a 9 (by omega)).trans hl1
             have hc2 : ∀ i, gt (rowAt (E1.restTo a 9).now.objs i) 0 = gt (rowAt E.now.objs i) 0 := fun i => (ze7 E1 a 9 (by omega) i).trans (hc1 i)
             generalize hE2 : E1.restTo a 9 = E2 at *
             rename Nat → Prop => own2
             have HE2 := Lib.hid hE2
             clear hTu hE2 hcq1 hql1 HT1 hK1 hc1 hl1
             have M2 := T2.mine hM
             have hcq2 := zaf M2.free M2.blk
             have hql2 := M2.lt
             have HT2 := Lib.hid T2
             clear M2 T2
             have HS2 := Lib.hid (fun Wx (g : Grow w2 Wx) => zb6 Wx b own2 E2 (HT2.out.em.grow g) (n + 1 + 9) hK2 (by omega) a 16 0)
             go_wp2_with fail
             refine (HS2.out _ grI).mono ?_
             rintro e' w3 ⟨rfl, hE⟩
             obtain ⟨own3, T3⟩ := HT2.out.step grI hE
             have hK3 := hK2.setObj a 16 0
             have hl3 := (zcy E2 a 16 0).trans hl2
             have hc3 : ∀ i, gt (rowAt (E2.setObj a 16 0).now.objs i) 0 = gt (rowAt E.now.objs i) 0 := fun i => (zcx E2 a 16 0 (by decide) i).trans (hc2 i)
             generalize hE3 : E2.setObj a 16 0 = E3 at *
             have HE3 := Lib.hid hE3
             clear hE hE3 HS2 hcq2 hql2 HT2 hK2 hc2 hl2
             have M3 := T3.mine hM
             have hcq3 := zaf M3.free M3.blk
             have hql3 := M3.lt
             have HT3 := Lib.hid T3
             clear M3 T3
             have HS3 := Lib.hid (fun Wx (g : Grow w3 Wx) => zes Wx b own3 E3 (HT3.out.em.grow g) (n + 1 + 9 + 1) hK3 (by omega) a (zbx ((10 : Nat) : Int)))
             go_wp2_with (go_at_call 117; refine (zfl _ _).mono ?_; rintro e' w' ⟨rfl, hww⟩; subst w')
             refine (HS3.out _ grI).mono ?_
             rintro e' w4 ⟨rfl, hE⟩
             obtain ⟨own4, T4⟩ := HT3.out.step grI hE
             have hK4 := hK3.show a (zbx ((10 : Nat) : Int))
             have hl4 := (zhl E3 a (zbx ((10 : Nat) : Int))).trans hl3
             have hc4 : ∀ i, gt (rowAt (E3.show a (zbx ((10 : Nat) : Int))).now.objs i) 0 = gt (rowAt E.now.objs i) 0 := fun i => (zfq E3 a (zbx ((10 : Nat) : Int)) i).trans (hc3 i)
             generalize hE4 : E3.show a (zbx ((10 : Nat) : Int)) = E4 at *
             have HE4 := Lib.hid hE4
             clear hE hE4 HS3 hcq3 hql3 HT3 hK3 hc3 hl3
             have M4 := T4.mine hM
             have hcq4 := zaf M4.free M4.blk
             have hql4 := M4.lt
             have HT4 := Lib.hid T4
             clear M4 T4
             have HEr4 := Lib.hid (fun Wx (g : Grow w4 Wx) => zas Wx b own4 E4 (HT4.out.em.grow g))
             have hfin : E1.put2 a fr ((10 : Nat) : Int) (gt o 1) = E4 := by
              rw [zjs, ← HE4.out, ← HE3.out, ← HE2.out]
              have c1 : ((10 : Nat) : Int) ≠ 8 := by omega
              have c2 : ¬ ((10 : Nat) : Int) < 8 := by omega
              have c3 : (((10 : Nat) : Int) ≠ 9) := by omega
              have c4 : ¬ (((10 : Nat) : Int) = 8 ∧ (fr : Int) ≠ ((10 : Nat) : Int)) := by omega
              simp only [if_pos c1, if_neg c2, if_pos c3, if_neg c4]
             have HFIN := Lib.hid hfin
             clear hfin HE2 HE3 HE4
             have HD8 : Hid (¬ ((10 : Nat) : Int) = 8) := by show ¬ ((10 : Nat) : Int) = 8; omega
             by_cases he4 : E4.err = 0
             · rw [he4, za4] at HEr4
               have HPUT : Hid (∀ x y z v, E4.put3 a x y z v = (if y = 8 ∧ x ≠ y then E4.await a 2 (gt (rowAt E4.now.objs a) 2) else if x = 8 ∧ z = 4 then E4.await a 3 v else E4)) := fun x y z v => by unfold Em.put3; rw [if_neg (by rw [he4]; simp), Int.toNat_natCast]
               have ha4 : a < E4.now.objs.length := by omega
               have HAw := Lib.hid (fun Wx (g : Grow w4 Wx) wh ctl => zfc Wx b own4 E4 (HT4.out.em.grow g) (n + 1 + 9 + 1 + 1) hK4 (by omega) a ha4 wh ctl)
               clear he4 hc4 hK4
               by_cases hdie : (fr : Int) = 8 ∧ base = 4
               · obtain ⟨hd1, hd2⟩ := hdie
                 have hfn : fr = 8 := by omega
                 subst hfn
                 subst hd2
                 clear hd1
                 go_wp2_with (first | (go_at_call 17; refine (HEr4.out _ grI).mono ?_; rintro e' w' ⟨rfl, nx, rfl⟩))
                 refine (HAw.out _ grI 3 _).mono ?_
                 rintro e' w5 ⟨rfl, hE⟩
                 obtain ⟨own5, T5⟩ := HT4.out.step grI hE
                 go_wp2_with fail
                 go_end0
                 refine ⟨rfl, ?_⟩
                 rw [HE1.out, HFIN.out, HPUT.out, if_neg (fun h => HD8.out h.1), if_pos ⟨rfl, rfl⟩]
                 exact T5.post HGw.out
               · have HDI := Lib.hid hdie
                 by_cases hf8 : fr = 8
                 · subst hf8
                   have hb4b : (base == 4) = false := by simpa using fun h => hdie ⟨rfl, h⟩
                   clear hdie
                   go_wp2_with (first | (go_at_call 17; refine (HEr4.out _ grI).mono ?_; rintro e' w' ⟨rfl, nx, rfl⟩))
                   go_end0
                   refine ⟨rfl, ?_⟩
                   rw [HE1.out, HFIN.out, HPUT.out, if_neg (fun h => HD8.out h.1), if_neg HDI.out]
                   exact (HT4.out.grow grI).post HGw.out
                 · have hf8b : ((fr : Int) == 8) = false := by rw [beq_eq_false_iff_ne]; omega
                   clear hdie
                   go_wp2_with (first | (go_at_call 17; refine (HEr4.out _ grI).mono ?_; rintro e' w' ⟨rfl, nx, rfl⟩))
                   go_end0
                   refine ⟨rfl, ?_⟩
                   rw [HE1.out, HFIN.out, HPUT.out, if_neg (fun h => HD8.out h.1), if_neg HDI.out]
                   exact (HT4.out.grow grI).post HGw.out
             · rw [zap he4] at HEr4
               have HPUT : Hid (∀ x y z v, E4.put3 a x y z v = E4) := fun x y z v => by unfold Em.put3; rw [if_pos he4]
               clear he4
               go_wp2_with (first | (go_at_call 17; refine (HEr4.out _ grI).mono ?_; rintro e' w' ⟨rfl, nx, rfl⟩))
               go_end0
               refine ⟨rfl, ?_⟩
               rw [HE1.out, HFIN.out, HPUT.out]
               exact (HT4.out.grow grI).post HGw.out
        have x1 : (d : Int) < 8 := by omega
        have x2 : ((d : Int) != 8) = true := by simp; omega
        have x3 : ((d : Int) != 9) = true := by simp; omega
        have x4 : ((d : Int) == 8) = false := by simp; omega
        go_wp2_with fail
        go_loopw [85] (fun i wr => ∃ (k : Nat) (ownk : Nat → Prop), k ≤ 9 ∧ i = .int .i64 k ∧ Turn W b own (E1.restTo a k) wr ownk) (fun i _ => 9 - (intOf i).toNat)
        case atStart => exact ⟨0, own1, by omega, rfl, HT1.out⟩
        case round =>
         obtain ⟨k, ownk, hk, rfl, hTu⟩ := hrel
         by_cases hlt9 : k < 9
         · have HS := Lib.hid (fun Wx (g : Grow wr Wx) => zb6 Wx b ownk (E1.restTo a k) (hTu.em.grow g) (n + 1 + k) (hK1.restTo a k (by omega)) (by omega) a (gt restL k) 0)
           have HSU := Lib.hid (zdl E1 a k hlt9)
           have HTu := Lib.hid hTu
           have hk9 : (k : Int) < 9 := by omega
           clear hTu
           go_wp2_with (go_at_call 86; refine (HS.out _ grI).mono ?_; rintro e' w2 ⟨rfl, hE⟩; obtain ⟨own3, T3⟩ := HTu.out.step grI hE; rw [← HSU.out] at T3; have HT3 := Lib.hid T3; clear hE T3)
           go_roundw
           case rel => exact ⟨k + 1, own3, by omega, by go_num, HT3.out⟩
           case measure => simp [intOf]; omega
         · have hk9 : k = 9 := by omega
           subst hk9
           rename World => w2
           have T2 := hTu
           have hK2 := hK1.restTo a 9 (by omega)
           have hl2 := (zf3 E1 a 9 (by omega)).trans hl1
           have hc2 : ∀ i, gt (rowAt (E1.restTo a 9).now.objs i) 0 = gt (rowAt E.now.objs i) 0 := fun i => (ze7 E1 a 9 (by omega) i).trans (hc1 i)
           generalize hE2 : E1.restTo a 9 = E2 at *
           rename Nat → Prop => own2
           have HE2 := Lib.hid hE2
           clear hTu hE2 hcq1 hql1 HT1 hK1 hc1 hl1
           have M2 := T2.mine hM
           have hcq2 := zaf M2.free M2.blk
           have hql2 := M2.lt
           have HT2 := Lib.hid T2
           clear M2 T2
           have HS2 := Lib.hid (fun Wx (g : Grow w2 Wx) => zb6 Wx b own2 E2 (HT2.out.em.grow g) (n + 1 + 9) hK2 (by omega) a 2 (gt o 1))
           go_wp2_with fail
           refine (HS2.out _ grI).mono ?_
           rintro e' w3 ⟨rfl, hE⟩
           obtain ⟨own3, T3⟩ := HT2.out.step grI hE
           have hK3 := hK2.setObj a 2 (gt o 1)
           have hl3 := (zcy E2 a 2 (gt o 1)).trans hl2
           have hc3 : ∀ i, gt (rowAt (E2.setObj a 2 (gt o 1)).now.objs i) 0 = gt (rowAt E.now.objs i) 0 := fun i => (zcx E2 a 2 (gt o 1) (by decide) i).trans (hc2 i)
           generalize hE3 : E2.setObj a 2 (gt o 1) = E3 at *
           have HE3 := Lib.hid hE3
           clear hE hE3 HS2 hcq2 hql2 HT2 hK2 hc2 hl2
           have M3 := T3.mine hM
           have hcq3 := zaf M3.free M3.blk
           have hql3 := M3.lt
           have HT3 := Lib.hid T3
           clear M3 T3
           have HS3 := Lib.hid (fun Wx (g : Grow w3 Wx) => zb6 Wx b own3 E3 (HT3.out.em.grow g) (n + 1 + 9 + 1) hK3 (by omega) a 16 0)
           go_wp2_with fail
           refine (HS3.out _ grI).mono ?_
           rintro e' w4 ⟨rfl, hE⟩
           obtain ⟨own4, T4⟩ := HT3.out.step grI hE
           have hK4 := hK3.setObj a 16 0
           have hl4 := (zcy E3 a 16 0).trans hl3
           have hc4 : ∀ i, gt (rowAt (E3.setObj a 16 0).now.objs i) 0 = gt (rowAt E.now.objs i) 0 := fun i => (zcx E3 a 16 0 (by decide) i).trans (hc3 i)
           generalize hE4 : E3.setObj a 16 0 = E4 at *
           have HE4 := Lib.hid hE4
           clear hE hE4 HS3 hcq3 hql3 HT3 hK3 hc3 hl3
           have M4 := T4.mine hM
           have hcq4 := zaf M4.free M4.blk
           have hql4 := M4.lt
           have HT4 := Lib.hid T4
           clear M4 T4
           have HS4 := Lib.hid (fun Wx (g : Grow w4 Wx) => zes Wx b own4 E4 (HT4.out.em.grow g) (n + 1 + 9 + 1 + 1) hK4 (by omega) a (zbx d))
           go_wp2_with (go_at_call 117; refine (zfl _ _).mono ?_; rintro e' w' ⟨rfl, hww⟩; subst w')
           refine (HS4.out _ grI).mono ?_
           rintro e' w5 ⟨rfl, hE⟩
           obtain ⟨own5, T5⟩ := HT4.out.step grI hE
           have hK5 := hK4.show a (zbx d)
           have hl5 := (zhl E4 a (zbx d)).trans hl4
           have hc5 : ∀ i, gt (rowAt (E4.show a (zbx d)).now.objs i) 0 = gt (rowAt E.now.objs i) 0 := fun i => (zfq E4 a (zbx d) i).trans (hc4 i)
           generalize hE5 : E4.show a (zbx d) = E5 at *
           have HE5 := Lib.hid hE5
           clear hE hE5 HS4 hcq4 hql4 HT4 hK4 hc4 hl4
           have M5 := T5.mine hM
           have hcq5 := zaf M5.free M5.blk
           have hql5 := M5.lt
           have HT5 := Lib.hid T5
           clear M5 T5
           have HEr5 := Lib.hid (fun Wx (g : Grow w5 Wx) => zas Wx b own5 E5 (HT5.out.em.grow g))
           have hfin : E1.put2 a fr d (gt o 1) = E5 := by
            rw [zjs, ← HE5.out, ← HE4.out, ← HE3.out, ← HE2.out]
            have c1 : (d : Int) ≠ 8 := by omega
            have c2 : (d : Int) < 8 := by omega
            have c3 : (d : Int) ≠ 9 := by omega
            have c4 : ¬ ((d : Int) = 8 ∧ (fr : Int) ≠ d) := by omega
            simp only [if_pos c1, if_pos c2, if_pos c3, if_neg c4]
           have HFIN := Lib.hid hfin
           clear hfin HE5 HE4 HE3 HE2
           have HD8 : Hid (¬ (d : Int) = 8) := by show ¬ (d : Int) = 8; omega
           by_cases he5 : E5.err = 0
           · rw [he5, za4] at HEr5
             have HPUT : Hid (∀ x y z v, E5.put3 a x y z v = (if y = 8 ∧ x ≠ y then E5.await a 2 (gt (rowAt E5.now.objs a) 2) else if x = 8 ∧ z = 4 then E5.await a 3 v else E5)) := fun x y z v => by unfold Em.put3; rw [if_neg (by rw [he5]; simp), Int.toNat_natCast]
             have ha5 : a < E5.now.objs.length := by omega
             have HAw := Lib.hid (fun Wx (g : Grow w5 Wx) wh ctl => zfc Wx b own5 E5 (HT5.out.em.grow g) (n + 1 + 9 + 1 + 1 + 1) hK5 (by omega) a ha5 wh ctl)
             clear he5 hc5 hK5
             by_cases hdie : (fr : Int) = 8 ∧ base = 4
             · obtain ⟨hd1, hd2⟩ := hdie
               have hfn : fr = 8 := by omega
               subst hfn
               subst hd2
               clear hd1
               go_wp2_with (first | (go_at_call 17; refine (HEr5.out _ grI).mono ?_; rintro e' w' ⟨rfl, nx, rfl⟩))
               refine (HAw.out _ grI 3 _).mono ?_
               rintro e' w6 ⟨rfl, hE⟩
               obtain ⟨own6, T6⟩ := HT5.out.step grI hE
               go_wp2_with fail
               go_end0
               refine ⟨rfl, ?_⟩
               rw [HE1.out, HFIN.out, HPUT.out, if_neg (fun h => HD8.out h.1), if_pos ⟨rfl, rfl⟩]
               exact T6.post HGw.out
             · have HDI := Lib.hid hdie
               by_cases hf8 : fr = 8
               · subst hf8
                 have hb4b : (base == 4) = false := by simpa using fun h => hdie ⟨rfl, h⟩
                 clear hdie
                 go_wp2_with (first | (go_at_call 17; refine (HEr5.out _ grI).mono ?_; rintro e' w' ⟨rfl, nx, rfl⟩))
                 go_end0
                 refine ⟨rfl, ?_⟩
                 rw [HE1.out, HFIN.out, HPUT.out, if_neg (fun h => HD8.out h.1), if_neg HDI.out]
                 exact (HT5.out.grow grI).post HGw.out
               · have hf8b : ((fr : Int) == 8) = false := by rw [beq_eq_false_iff_ne]; omega
                 clear hdie
                 go_wp2_with (first | (go_at_call 17; refine (HEr5.out _ grI).mono ?_; rintro e' w' ⟨rfl, nx, rfl⟩))
                 go_end0
                 refine ⟨rfl, ?_⟩
                 rw [HE1.out, HFIN.out, HPUT.out, if_neg (fun h => HD8.out h.1), if_neg HDI.out]
                 exact (HT5.out.grow grI).post HGw.out
           · rw [zap he5] at HEr5
             have HPUT : Hid (∀ x y z v, E5.put3 a x y z v = E5) := fun x y z v => by unfold Em.put3; rw [if_pos he5]
             clear he5
             go_wp2_with (first | (go_at_call 17; refine (HEr5.out _ grI).mono ?_; rintro e' w' ⟨rfl, nx, rfl⟩))
             go_end0
             refine ⟨rfl, ?_⟩
             rw [HE1.out, HFIN.out, HPUT.out]
             exact (HT5.out.grow grI).post HGw.out
   · rw [if_pos hid]
     by_cases i0 : 0 ≤ id
     · have i1 : (E.now.objs.length : Int) ≤ id := by omega
       have i2 : decide (id < E.now.objs.length) = false := by simp; omega
       clear hid
       go_enter Tryz.func85, Tryz.ntmps85
       go_wp2_with (first | (go_at_call 17; refine (HEr.out _ grI).mono ?_; rintro e' w' ⟨rfl, nx, rfl⟩) | (go_at_call 106; refine (HMF.out _ grI _ (by first | rfl | (simp; omega)) _ (by decide)).mono ?_; rintro e' w' ⟨rfl, hE⟩; have HE := Lib.hid hE; clear hE))
       refine bodyPost_ret (results_none rfl _ _ _) rfl ?_
       exact ⟨rfl, EPost.low grI HE.out⟩
     · clear hid
       go_enter Tryz.func85, Tryz.ntmps85
       go_wp2_with (first | (go_at_call 17; refine (HEr.out _ grI).mono ?_; rintro e' w' ⟨rfl, nx, rfl⟩) | (go_at_call 106; refine (HMF.out _ grI _ (by first | rfl | (simp; omega)) _ (by decide)).mono ?_; rintro e' w' ⟨rfl, hE⟩; have HE := Lib.hid hE; clear hE))
       refine bodyPost_ret (results_none rfl _ _ _) rfl ?_
       exact ⟨rfl, EPost.low grI HE.out⟩
 · rw [if_pos he]
   rw [zap he] at HEr
   clear he R K hown GL hzone
   go_enter Tryz.func85, Tryz.ntmps85
   go_wp2_with (go_at_call 17; refine (HEr.out _ grI).mono ?_; rintro e' w' ⟨rfl, nx, rfl⟩)
   refine bodyPost_ret (results_none rfl _ _ _) rfl ?_
   exact ⟨rfl, .of_grow HR0.out grI⟩
end Go.Proofs.YthfalocligkamaaGreatDoor
