/- Whether an object is a creature, how strong it is, what is left of it, which words it has: of a right state. -/
import Derived.Test.YtgobdndjemicjaaGreatDoorMEval
namespace Go.Proofs.YtgobdndjemicjaaGreatDoor
open Go Go.RowKit
structure RS (S : St) (V : SV) (w : World) : Prop where
 rep : RepSt w V S
 right : Right S
 small : Small S
 glob : Glob w
theorem RS.grow {S : St} {V : SV} {w w' : World} (h : RS S V w) (g : Grow w w') : RS S V w' := ⟨h.rep.grow g, h.right, h.small, h.glob.grow g⟩
theorem RS.check {S : St} {V : SV} {w : World} (h : RS S V w) : Calls Tryz.prog 47 #[.agg (stA V S.num)] w fun e w' => e = .returned .nilIface ∧ Grow w w' := by
 refine (znq S V w h.rep h.small h.glob).mono ?_
 rintro e w' ⟨rfl, g⟩
 exact ⟨by rw [(zdy S).2 h.right]; rfl, g⟩
def ofV (S : St) (id : Int) : Value := if zbu S id = true then .tuple #[.agg (cellsOf (zha S id.toNat)), .nilIface] else .tuple #[.agg (cellsOf [0, 0, 0]), errV 4]
@[go_sem] theorem zvw (w : World) : (za2 247 #[]).run Tryz.prog w = .ok (.value (.agg (cellsOf [0, 0, 0]))) w := by kernel_rfl
set_option maxRecDepth 100000 in
theorem z6i (S : St) (V : SV) (w : World) (h : RS S V w) (id : Int) :
 Calls Tryz.prog 253 #[.agg (stA V S.num), .int .i64 id] w fun e w' => e = .returned (ofV S id) ∧ Grow w w' := by
 have HH := Lib.hid h
 clear h
 have HO : Hid (ofV S id = if zbu S id = true then .tuple #[.agg (cellsOf (zha S id.toNat)), .nilIface] else .tuple #[.agg (cellsOf [0, 0, 0]), errV 4]) := rfl
 cases hc : zbu S id with
 | true =>
   obtain ⟨c1, c2, _, _⟩ := zjb hc
   obtain ⟨d, rfl⟩ := Int.eq_ofNat_of_zero_le c1
   have hd : d < S.objs.length := by omega
   rw [hc, Int.toNat_natCast] at HO
   have hsl : (zha S d).length = 3 := rfl
   have HCR : Hid (∀ W, Grow w W → Calls Tryz.prog 247 #[.agg (stA V S.num), .int .i64 (d : Int)] W fun e w' => e = .returned (.bool true) ∧ Grow W w') := fun W g => by
    have := zjc S V W (HH.out.grow g).rep HH.out.right d
    rw [hc] at this; exact this
   clear hc c1 c2
   go_enter Tryz.func253, Tryz.ntmps253
   go_wp2_with (first | (go_at_call 47; refine ((HH.out.grow grI).check).mono ?_; rintro e w' ⟨rfl, nx, rfl⟩) | (go_at_call 247; refine (HCR.out _ grI).mono ?_; rintro e w' ⟨rfl, nx, rfl⟩) | (go_at_call 265; refine (z10 S V _ (HH.out.grow grI).rep HH.out.right HH.out.small d hd).mono ?_; rintro e w' ⟨rfl, nx, rfl⟩))
   refine bodyPost_ret (zg8 rfl _ _ _ rfl ?_) rfl ?_
   · go_simp
   · exact ⟨by rw [HO.out]; go_simp, grI⟩
 | false =>
   rw [hc] at HO
   have HCR : Hid (∀ W, Grow w W → Calls Tryz.prog 247 #[.agg (stA V S.num), .int .i64 id] W fun e w' => e = .returned (.bool false) ∧ Grow W w') := fun W g => by
    have := zjc S V W (HH.out.grow g).rep HH.out.right id
    rw [hc] at this; exact this
   clear hc
   go_enter Tryz.func253, Tryz.ntmps253
   go_wp2_with (first | (go_at_call 47; refine ((HH.out.grow grI).check).mono ?_; rintro e w' ⟨rfl, nx, rfl⟩) | (go_at_call 247; refine (HCR.out _ grI).mono ?_; rintro e w' ⟨rfl, nx, rfl⟩))
   refine bodyPost_ret (zg8 rfl _ _ _ rfl ?_) rfl ?_
   · go_simp
   · exact ⟨by rw [HO.out]; go_simp, grI⟩
def zqb (S : St) (id : Int) : Value := if zbu S id = true then .tuple #[.int .i64 (wrap64 (gt (zha S id.toNat) 1 - gt (rowAt S.objs id.toNat) 6)), .nilIface] else .tuple #[.int .i64 0, errV 4]
set_option maxRecDepth 100000 in
theorem zzd (S : St) (V : SV) (w : World) (h : RS S V w) (id : Int) :
 Calls Tryz.prog 235 #[.agg (stA V S.num), .int .i64 id] w fun e w' => e = .returned (zqb S id) ∧ Grow w w' := by
 have HH := Lib.hid h
 have hN := h.rep.objs.len
 clear h
 have hsl : (zha S id.toNat).length = 3 := rfl
 cases hc : zbu S id with
 | true =>
   have HO : Hid (∀ W, Grow w W → Calls Tryz.prog 253 #[.agg (stA V S.num), .int .i64 id] W fun e w' => e = .returned (.tuple #[.agg (cellsOf (zha S id.toNat)), .nilIface]) ∧ Grow W w') := fun W g => by
    have := z6i S V W (HH.out.grow g) id
    rw [ofV, if_pos hc] at this; exact this
   have HV : Hid (zqb S id = .tuple #[.int .i64 (wrap64 (gt (zha S id.toNat) 1 - gt (rowAt S.objs id.toNat) 6)), .nilIface]) := by rw [Hid, zqb, if_pos hc]
   obtain ⟨c1, c2, _, _⟩ := zjb hc
   obtain ⟨d, rfl⟩ := Int.eq_ofNat_of_zero_le c1
   have hd : d < S.objs.length := by omega
   obtain ⟨hob, how, hosz, hosub, hocell⟩ := HH.out.rep.objs.at (by omega) d hd
   have hoc := hocell 6 (by omega)
   rw [Int.toNat_natCast] at HV HO hsl
   clear hc c1 hocell hosub hosz
   generalize gt (rowAt S.objs d) 6 = dmg at *
   go_enter Tryz.func235, Tryz.ntmps235
   go_wp2_with (go_at_call 253; refine (HO.out _ grI).mono ?_; rintro e w' ⟨rfl, nx, rfl⟩)
   refine zaf (by kernel_rfl) (by kernel_rfl) ?_; (repeat (go_big_quiet_step ( fail ))); refine wpQuiet_nil ?_; rintro _ ⟨nx, rfl⟩
   go_wp2_with fail
   go_ret2
   exact ⟨by rw [HV.out]; rfl, grI⟩
 | false =>
   have HO : Hid (∀ W, Grow w W → Calls Tryz.prog 253 #[.agg (stA V S.num), .int .i64 id] W fun e w' => e = .returned (.tuple #[.agg (cellsOf [0, 0, 0]), .iface 96 (.int .i64 4)]) ∧ Grow W w') := fun W g => by
    have := z6i S V W (HH.out.grow g) id
    rw [ofV, if_neg (by rw [hc]; decide)] at this; exact this
   have HV : Hid (zqb S id = .tuple #[.int .i64 0, .iface 96 (.int .i64 4)]) := by rw [Hid, zqb, if_neg (by rw [hc]; decide)]; rfl
   clear hc
   go_enter Tryz.func235, Tryz.ntmps235
   go_wp2_with (go_at_call 253; refine (HO.out _ grI).mono ?_; rintro e w' ⟨rfl, nx, rfl⟩)
   go_ret2
   exact ⟨by rw [HV.out]; rfl, grI⟩
end Go.Proofs.YtgobdndjemicjaaGreatDoor
