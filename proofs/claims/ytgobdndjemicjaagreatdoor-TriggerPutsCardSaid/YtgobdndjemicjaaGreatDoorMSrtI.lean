/- Sorting rows so that equal ones keep their order: the library's way, as plain functions. -/
import Derived.Test.YtgobdndjemicjaaGreatDoorMMade
import Derived.Test.YtgobdndjemicjaaGreatDoorMDel
import Derived.Test.YtgobdndjemicjaaGreatDoorMIs19
namespace Go.Proofs.YtgobdndjemicjaaGreatDoor
open Go Go.RowKit
abbrev LR := List (List Int)
def swp (l : LR) (i j : Nat) : LR := (l.set i (rowAt l j)).set j (rowAt l i)
def zk6 (lt : List Int → List Int → Bool) (a : Nat) : Nat → LR → LR
 | 0, l => l
 | j + 1, l => if a < j + 1 ∧ lt (rowAt l (j + 1)) (rowAt l j) = true then zk6 lt a j (swp l (j + 1) j) else l
def zhb (lt : List Int → List Int → Bool) (a : Nat) : Nat → LR → LR
 | 0, l => l
 | k + 1, l => zk6 lt a (a + 1 + k) (zhb lt a k l)
def z9n (a b : Nat) : Nat → LR → LR
 | 0, l => l
 | k + 1, l => swp (z9n a b k l) (a + k) (b + k)
def yc9 (m : Nat) : Nat → Nat → Nat → LR → LR
 | 0, i, _, l => z9n (m - i) m i l
 | g + 1, i, j, l => if i = j then z9n (m - i) m i l else if j < i then yc9 m g (i - j) j (z9n (m - i) m j l) else yc9 m g i (j - i) (z9n (m - i) (m + j - i) i l)
def bsG (P : Nat → Bool) : Nat → Nat → Nat → Nat
 | 0, i, _ => i
 | g + 1, i, j => if i < j then (if P ((i + j) / 2) = true then bsG P g ((i + j) / 2 + 1) j else bsG P g i ((i + j) / 2)) else i
def ygb (a : Nat) : Nat → LR → LR
 | 0, l => l
 | k + 1, l => swp (ygb a k l) (a + k) (a + k + 1)
def yed (m : Nat) : Nat → LR → LR
 | 0, l => l
 | k + 1, l => swp (yed m k l) (m - k) (m - k - 1)
def yas (lt : List Int → List Int → Bool) : Nat → Nat → Nat → Nat → LR → LR
 | 0, _, _, _, l => l
 | g + 1, a, m, b, l =>
   if m - a = 1 then ygb a (bsG (fun h => lt (rowAt l h) (rowAt l a)) (b - m + 1) m b - 1 - a) l
   else if b - m = 1 then yed m (m - bsG (fun h => !lt (rowAt l m) (rowAt l h)) (m - a + 1) a m) l
   else
    let mid := (a + b) / 2
    let n := mid + m
    let s0 := if mid < m then n - b else a
    let r0 := if mid < m then mid else m
    let st := bsG (fun c => !lt (rowAt l (n - 1 - c)) (rowAt l c)) (r0 - s0 + 1) s0 r0
    let en := n - st
    let l1 := if st < m ∧ m < en then yc9 m (en - st) (m - st) (en - m) l else l
    let l2 := if a < st ∧ st < mid then yas lt g a st mid l1 else l1
    if mid < en ∧ en < b then yas lt g mid en b l2 else l2
def zxm (lt : List Int → List Int → Bool) (n : Nat) : Nat → Nat → LR → LR
 | 0, _, l => l
 | g + 1, a, l => if a + 20 ≤ n then zxm lt n g (a + 20) (zhb lt a 19 l) else zhb lt a (n - a - 1) l
def z3n (lt : List Int → List Int → Bool) (n bs : Nat) : Nat → Nat → LR → LR
 | 0, _, l => l
 | g + 1, a, l => if a + 2 * bs ≤ n then z3n lt n bs g (a + 2 * bs) (yas lt (2 * bs) a (a + bs) (a + 2 * bs) l) else if a + bs < n then yas lt (n - a) a (a + bs) n l else l
def yc2 (lt : List Int → List Int → Bool) (n : Nat) : Nat → Nat → LR → LR
 | 0, _, l => l
 | g + 1, bs, l => if bs < n then yc2 lt n g (2 * bs) (z3n lt n bs (n + 1) 0 l) else l
def stbS (lt : List Int → List Int → Bool) (l : LR) : LR := yc2 lt l.length (l.length + 1) 20 (zxm lt l.length (l.length + 1) 0 l)
theorem zk0 (l : LR) (i j : Nat) : (swp l i j).length = l.length := by simp [swp]
theorem zoa (lt : List Int → List Int → Bool) (a : Nat) : ∀ j l, (zk6 lt a j l).length = l.length
 | 0, l => rfl
 | j + 1, l => by
   unfold zk6
   split
   · rw [zoa lt a j, zk0]
   · rfl
theorem zhv (lt : List Int → List Int → Bool) (a : Nat) : ∀ k l, (zhb lt a k l).length = l.length
 | 0, l => rfl
 | k + 1, l => by unfold zhb; rw [zoa, zhv lt a k]
theorem zih (a b : Nat) : ∀ k l, (z9n a b k l).length = l.length
 | 0, l => rfl
 | k + 1, l => by unfold z9n; rw [zk0, zih a b k]
theorem zm2 (m : Nat) : ∀ g i j l, (yc9 m g i j l).length = l.length
 | 0, i, j, l => zih _ _ _ _
 | g + 1, i, j, l => by
   unfold yc9
   split
   · exact zih _ _ _ _
   split
   · rw [zm2 m g, zih]
   · rw [zm2 m g, zih]
theorem zsf (a : Nat) : ∀ k l, (ygb a k l).length = l.length
 | 0, l => rfl
 | k + 1, l => by unfold ygb; rw [zk0, zsf a k]
theorem zri (a : Nat) : ∀ k l, (yed a k l).length = l.length
 | 0, l => rfl
 | k + 1, l => by unfold yed; rw [zk0, zri a k]
theorem znd (lt : List Int → List Int → Bool) : ∀ g a m b l, (yas lt g a m b l).length = l.length
 | 0, a, m, b, l => rfl
 | g + 1, a, m, b, l => by
   unfold yas
   split
   · exact zsf _ _ _
   split
   · exact zri _ _ _
   · have ih := znd lt g
     simp only
     (repeat' split) <;> simp only [ih, zm2]
theorem zn9 (lt : List Int → List Int → Bool) (n : Nat) : ∀ g a l, (zxm lt n g a l).length = l.length
 | 0, a, l => rfl
 | g + 1, a, l => by
   unfold zxm
   split
   · rw [zn9 lt n g, zhv]
   · exact zhv _ _ _ _
theorem zoj (lt : List Int → List Int → Bool) (n bs : Nat) : ∀ g a l, (z3n lt n bs g a l).length = l.length
 | 0, a, l => rfl
 | g + 1, a, l => by
   unfold z3n
   split
   · rw [zoj lt n bs g, znd]
   split
   · exact znd _ _ _ _ _ _
   · rfl
theorem zrs (lt : List Int → List Int → Bool) (n : Nat) : ∀ g bs l, (yc2 lt n g bs l).length = l.length
 | 0, bs, l => rfl
 | g + 1, bs, l => by
   unfold yc2
   split
   · rw [zrs lt n g, zoj]
   · rfl
theorem z45 (lt : List Int → List Int → Bool) (l : LR) : (stbS lt l).length = l.length := by unfold stbS; rw [zrs, zn9]
end Go.Proofs.YtgobdndjemicjaaGreatDoor
namespace Go.Proofs.YtgobdndjemicjaaGreatDoor
open Go Go.RowKit Go.Shelf
def zpi (act : Int) (x y : List Int) : Int := if decide (gt x 2 = act) = decide (gt y 2 = act) then 0 else if gt x 2 = act then -1 else 1
def ltP (act : Int) (x y : List Int) : Bool := decide (gt x 2 = act) && !decide (gt y 2 = act)
theorem z7i {act : Int} {x y : List Int} (h : ltP act x y = true) : zpi act x y < 0 := by
 unfold ltP at h; unfold zpi
 by_cases hx : gt x 2 = act <;> by_cases hy : gt y 2 = act <;> simp [hx, hy] at h ⊢
theorem z7h {act : Int} {x y : List Int} (h : ltP act x y = false) : 0 ≤ zpi act x y := by
 unfold ltP at h; unfold zpi
 by_cases hx : gt x 2 = act <;> by_cases hy : gt y 2 = act <;> simp [hx, hy] at h ⊢
def z1o (q : Nat) : Value := .func (.func 138) #[] #[.pointer (some ⟨q, 0, none⟩)]
set_option maxRecDepth 100000 in
theorem z3s (w : World) (q : Nat) (act : Int) (hq : w.cell? ⟨q, 0, none⟩ = some (I act)) (x y : List Int) (hx : x.length = 3) (hy : y.length = 3) :
 Calls Tryz.prog 138 #[.agg (cellsOf x), .agg (cellsOf y), .pointer (some ⟨q, 0, none⟩)] w fun e w' => e = .returned (.int .i64 (zpi act x y)) ∧ Grow w w' := by
 change _ = some (Value.int .i64 act) at hq
 have hql := (zaz hq).1
 have hne : ¬ q = w.heap.size := by omega
 have hne1 : ¬ q = w.heap.size + 1 := by omega
 by_cases hx2 : gt x 2 = act
 · by_cases hy2 : gt y 2 = act
   · have e : zpi act x y = 0 := by unfold zpi; simp [hx2, hy2]
     rw [e]
     have bx : (gt x 2 == act) = true := by simpa using hx2
     have by' : (gt y 2 == act) = true := by simpa using hy2
     clear hx2 hy2 e
     go_enter Tryz.func138, Tryz.ntmps138
     go_wp2_with fail
     refine zaf (by kernel_rfl) (by kernel_rfl) ?_; (repeat (go_big_quiet_step ( fail ))); refine wpQuiet_nil ?_; rintro _ ⟨nx, rfl⟩
     go_wp2_with fail
     go_ret
     exact ⟨rfl, grI⟩
   · have e : zpi act x y = -1 := by unfold zpi; simp [hx2, hy2]
     rw [e]
     have bx : (gt x 2 == act) = true := by simpa using hx2
     have by' : (gt y 2 == act) = false := by simpa using hy2
     clear hx2 hy2 e
     go_enter Tryz.func138, Tryz.ntmps138
     go_wp2_with fail
     refine zaf (by kernel_rfl) (by kernel_rfl) ?_; (repeat (go_big_quiet_step ( fail ))); refine wpQuiet_nil ?_; rintro _ ⟨nx, rfl⟩
     go_wp2_with fail
     go_ret
     exact ⟨rfl, grI⟩
 · by_cases hy2 : gt y 2 = act
   · have e : zpi act x y = 1 := by unfold zpi; simp [hx2, hy2]
     rw [e]
     have bx : (gt x 2 == act) = false := by simpa using hx2
     have by' : (gt y 2 == act) = true := by simpa using hy2
     clear hx2 hy2 e
     go_enter Tryz.func138, Tryz.ntmps138
     go_wp2_with fail
     refine zaf (by kernel_rfl) (by kernel_rfl) ?_; (repeat (go_big_quiet_step ( fail ))); refine wpQuiet_nil ?_; rintro _ ⟨nx, rfl⟩
     go_wp2_with fail
     go_ret
     exact ⟨rfl, grI⟩
   · have e : zpi act x y = 0 := by unfold zpi; simp [hx2, hy2]
     rw [e]
     have bx : (gt x 2 == act) = false := by simpa using hx2
     have by' : (gt y 2 == act) = false := by simpa using hy2
     clear hx2 hy2 e
     go_enter Tryz.func138, Tryz.ntmps138
     go_wp2_with fail
     refine zaf (by kernel_rfl) (by kernel_rfl) ?_; (repeat (go_big_quiet_step ( fail ))); refine wpQuiet_nil ?_; rintro _ ⟨nx, rfl⟩
     go_wp2_with fail
     go_ret
     exact ⟨rfl, grI⟩
structure Dat (w : World) (s : Sl) (q : Nat) (act : Int) (l : LR) : Prop where
 rows : Rows' w s 3 l
 room : Room w s 3
 act : w.cell? ⟨q, 0, none⟩ = some (I act)
 ne : ¬ q = s.b
theorem Dat.grow {w w' : World} {s : Sl} {q : Nat} {act : Int} {l : LR} (h : Dat w s q act l) (g : Grow w w') : Dat w' s q act l := by
 refine ⟨h.rows.grow g, h.room.grow g, ?_, h.ne⟩
 obtain ⟨x, rfl⟩ := g
 rw [zc4 w x _ _ (zaz h.act).1]
 exact h.act
theorem Dat.put {w : World} {s : Sl} {q : Nat} {act : Int} {l : LR} (h : Dat w s q act l) {i : Nat} (hi : i < l.length) {r : List Int} (hr : r.length = 3) : Dat (w.setCells s.b (s.o + i * 3) (r.map I)) s q act (l.set i r) := by
 have hl := h.rows.len
 have hc := h.rows.cap
 refine ⟨h.rows.put hi hr, h.room.put _ _ (by omega) (by rw [List.length_map, hr]; omega), ?_, h.ne⟩
 have hk : Kept (fun k => k = s.b) w (w.setCells s.b (s.o + i * 3) (r.map I)) := Kept.setCells (own := fun k => k = s.b) s.b (fun _ => rfl) _ _ _ (Kept.refl _ _)
 rw [hk.cell q 0 (zaz h.act).1 h.ne]
 exact h.act
theorem Dat.there {w : World} {s : Sl} {q : Nat} {act : Int} {l : LR} (h : Dat w s q act l) {i : Nat} (hi : i < l.length) : w.there s.b (s.o + i * 3) 3 := fun j hj => by
 have hl := h.rows.len
 have hc := h.rows.cap
 have := h.room.there (i * 3 + j) (by omega)
 rw [← Nat.add_assoc] at this
 exact this
theorem Dat.at {w : World} {s : Sl} {q : Nat} {act : Int} {l : LR} (h : Dat w s q act l) {i : Nat} (hi : i < l.length) : s.b < w.heap.size ∧ (rowAt l i).length = 3 ∧ s.o + i * 3 + 3 ≤ (w.blk s.b).size ∧ sub (w.blk s.b) (s.o + i * 3) 3 = cellsOf (rowAt l i) := by
 obtain ⟨h1, h2, h3, h4, _⟩ := h.rows.at (by decide) i hi
 exact ⟨h1, h2, h3, h4⟩
theorem Dat.swap {w : World} {s : Sl} {q : Nat} {act : Int} {l : LR} (h : Dat w s q act l) {i j : Nat} (hi : i < l.length) (hj : j < l.length) :
 Dat ((w.setCells s.b (s.o + i * 3) ((rowAt l j).map I)).setCells s.b (s.o + j * 3) ((rowAt l i).map I)) s q act (swp l i j) :=
 (h.put hi (h.rows.wid j hj)).put (by rw [List.length_set]; exact hj) (h.rows.wid i hi)
theorem Kept.swap {own : Nat → Prop} {w0 w : World} (h : Kept own w0 w) (b : Nat) (hb : own b) (o1 o2 : Nat) (v1 v2 : List Value) : Kept own w0 ((w.setCells b o1 v1).setCells b o2 v2) :=
 Kept.setCells b (fun _ => hb) _ _ _ (Kept.setCells b (fun _ => hb) _ _ _ h)
theorem Dat.there2 {w : World} {s : Sl} {q : Nat} {act : Int} {l : LR} (h : Dat w s q act l) {i j : Nat} (hi : i < l.length) (hj : j < l.length) : (w.setCells s.b (s.o + i * 3) ((rowAt l j).map I)).there s.b (s.o + j * 3) 3 :=
 (h.put hi (h.rows.wid j hj)).there (by rw [List.length_set]; exact hj)
@[go_sem] theorem zyt (w : World) (b o : Nat) (c : List Int) (hc : c.length = 3) (ht : w.there b o 3) : (zas 99 (.pointer (some ⟨b, o, none⟩)) (.agg (cellsOf c))).run Tryz.prog w = .ok .skip (w.setCells b o (c.map I)) := by
 unfold zas
 rw [Sem.run_bind, run_storeAt_mid (P := Tryz.prog) w b o 99 (cellsOf c) (by rw [zbr, hc]; exact ht) (by rw [zbr, hc]; kernel_rfl) (zh4 c)]
 rfl
@[go_sem] theorem z0r (w : World) (b o : Nat) (h : o + 3 ≤ (w.blk b).size) : (za8 99 (.pointer (some ⟨b, o, none⟩))).run Tryz.prog w.drew = .ok (.value (.agg (sub (w.blk b) o 3))) w.drew := zjp w.drew b o h
end Go.Proofs.YtgobdndjemicjaaGreatDoor
namespace Go.Proofs.YtgobdndjemicjaaGreatDoor
open Go Go.RowKit Go.Shelf
set_option maxRecDepth 100000 in
set_option maxHeartbeats 8000000 in
theorem z8h (w : World) (s : Sl) (q : Nat) (act : Int) (l : LR) (D : Dat w s q act l) (hl : l.length ≤ 1048576) (a b : Nat) (hab : a ≤ b) (hb : b ≤ l.length) :
 Calls Tryz.prog 236 #[s.val, .int .i64 (a : Int), .int .i64 (b : Int), z1o q] w fun e w' => e = .returned (.tuple #[]) ∧ Dat w' s q act (zhb (ltP act) a (b - a - 1) l) ∧ Kept s.owns w w' := by
 have hsn := D.rows.len
 have HD := Lib.hid D
 generalize hT : zhb (ltP act) a (b - a - 1) l = T
 have HT := Lib.hid hT
 clear D hT
 unfold z1o
 go_enter Tryz.func236, Tryz.ntmps236
 go_wp2_with fail
 go_loopw [8] (fun i wr => ∃ (k c : Nat) (cur : LR), i = .int .i64 (c : Int) ∧ Hid (c = a + 1 + k ∧ k ≤ b - a - 1) ∧ c ≤ 1048577 ∧ Hid (cur = zhb (ltP act) a k l) ∧ Hid (Dat wr s q act cur ∧ Kept s.owns w wr)) (fun i _ => b - (intOf i).toNat)
 case atStart => exact ⟨0, a + 1, l, by go_num, ⟨by omega, by omega⟩, by omega, rfl, HD.out, Kept.refl _ _⟩
 case round =>
  obtain ⟨k, c, cur, rfl, hck, hcb, HC, HI⟩ := hrel
  have hlen : cur.length = l.length := by rw [HC.out, zhv]
  by_cases hlt : c < b
  · have HN : Hid (zhb (ltP act) a (k + 1) l = zk6 (ltP act) a c cur) := by rw [Hid, HC.out, hck.out.1]; rfl
    have HCL : Hid (c < cur.length) := by rw [Hid]; omega
    have hac : a < c := by have := hck.out.1; omega
    go_wp2_with fail
    go_loopw [9] (fun jv wi => ∃ (j : Nat) (cj : LR), jv = .int .i64 (j : Int) ∧ a ≤ j ∧ j ≤ c ∧ Hid (zk6 (ltP act) a j cj = zk6 (ltP act) a c cur) ∧ cj.length = l.length ∧ Hid (Dat wi s q act cj ∧ Kept s.owns w wi)) (fun jv _ => (intOf jv).toNat)
    case atStart => exact ⟨c, cur, rfl, by omega, Nat.le_refl _, rfl, hlen, HI.out⟩
    case round =>
     obtain ⟨j, cj, rfl, haj, hjc, HJ, hcl, HI2⟩ := hrel
     by_cases hja : a < j
     · obtain ⟨i, hij⟩ : ∃ i, j = i + 1 := ⟨j - 1, by omega⟩
       have hjn : j ≤ 1048577 := by omega
       have hi1 : j < cj.length := by have := HCL.out; omega
       have hi0 : i < cj.length := by omega
       obtain ⟨a1, a2, a3, a4⟩ := HI2.out.1.at hi1
       obtain ⟨_, b2, b3, b4⟩ := HI2.out.1.at hi0
       have hdr := HJ.out
       rw [hij, zk6, ← hij] at hdr
       have hja' : (a : Int) < (j : Int) := by omega
       have x0 : (0 : Int) ≤ (j : Int) - 1 := by omega
       have x1 : (j : Int) - 1 < l.length := by omega
       have x2 : ((j : Int) - 1).toNat = i := by omega
       have x3 : (j : Int) < l.length := by omega
       have x6 : j < l.length := by omega
       have y0 : (1 : Int) ≤ (j : Int) := by omega
       have y1 : 1 ≤ j := by omega
       have y2 : 0 < j := by omega
       have y3 : (0 : Int) < (j : Int) := by omega
       have y4 : (j : Int) ≤ l.length := by omega
       have y5 : j ≤ l.length := by omega
       have hai : a ≤ i := by omega
       have hic : i ≤ c := by omega
       have hme : Hid (i < j) := by rw [Hid]; omega
       have hso : s.owns s.b := Sl.owns_b (by omega)
       have HCmp := Lib.hid (fun W (g : Grow wr W) => z3s W q act ((HI2.out.1.grow g).act) (rowAt cj j) (rowAt cj i) a2 b2)
       have HTH := Lib.hid (fun W (g : Grow wr W) => (HI2.out.1.grow g).there hi1)
       have HTH2 := Lib.hid (fun W (g : Grow wr W) => (HI2.out.1.grow g).there2 hi1 hi0)
       have HSW := Lib.hid (fun W (g : Grow wr W) => (HI2.out.1.grow g).swap hi1 hi0)
       have HK := Lib.hid HI2.out.2
       have hsl : (swp cj j i).length = l.length := (zk0 _ _ _).trans hcl
       have HX2 : Hid ((j : Int) - 1 = (i : Int)) := by rw [Hid]; omega
       generalize hsw : swp cj j i = cj2 at *
       clear hsw hij
       cases hlp : ltP act (rowAt cj j) (rowAt cj i) with
       | true =>
         have hneg := z7i hlp
         rw [if_pos ⟨hja, hlp⟩] at hdr
         have HDR := Lib.hid hdr
         clear HI2 HJ hdr hlp
         generalize hcv : zpi act (rowAt cj j) (rowAt cj i) = cv at *
         generalize rowAt cj j = ra at *
         generalize rowAt cj i = rb at *
         clear hcv hcl hi1 hi0 hjc haj hlen hlt
         go_wp2_with fail
         refine zaf (by kernel_rfl) (by kernel_rfl) ?_; (repeat (go_big_quiet_step ( (go_at_call 138; first | refine Calls.grow2 (HCmp.out _ grI) | refine Calls.grow (HCmp.out _ grI)) ))); refine wpQuiet_nil ?_; rintro _ ⟨nx, rfl⟩
         go_wp2_with fail
         have hth := HTH.out (wr.plus nx).drew grI
         have hth2 := HTH2.out (wr.plus nx).drew grI
         go_region
         go_wp2_with fail
         go_roundw
         case rel => exact ⟨i, cj2, by rw [HX2.out], by omega, by omega, HDR.out, by omega, HSW.out _ grI, Kept.swap (HK.out.trans (o2 := fun _ => False) (Grow.kept _ (show Grow wr (wr.plus nx).drew from grI)) (fun _ _ h => h.elim)) _ hso _ _ _ _⟩
         case measure => have := hme.out; simp [intOf]; omega
       | false =>
         have hneg := z7h hlp
         rw [if_neg (by rw [hlp]; simp)] at hdr
         have hneg' : (zpi act (rowAt cj j) (rowAt cj i) < 0) = False := by simp; exact hneg
         have HDR := Lib.hid hdr
         have HCL2 := Lib.hid hcl
         have HDat := Lib.hid HI2.out
         clear HI2 HJ hdr hlp hneg hcl hjc haj hi1 hi0 hlen
         generalize hcv : zpi act (rowAt cj j) (rowAt cj i) = cv at *
         generalize rowAt cj j = ra at *
         generalize rowAt cj i = rb at *
         clear hcv
         go_wp2_with fail
         refine zaf (by kernel_rfl) (by kernel_rfl) ?_; (repeat (go_big_quiet_step ( (go_at_call 138; first | refine Calls.grow2 (HCmp.out _ grI) | refine Calls.grow (HCmp.out _ grI)) ))); refine wpQuiet_nil ?_; rintro _ ⟨nx, rfl⟩
         go_wp2_with fail
         go_roundw
         case rel => exact ⟨k + 1, c + 1, cj, by go_num, by have := hck.out; rw [Hid]; omega, by omega, by rw [HN.out]; exact HDR.out, HDat.out.1.grow grI, HDat.out.2.trans (o2 := fun _ => False) (Grow.kept _ (show Grow wr (wr.plus nx) from grI)) (fun _ _ h => h.elim)⟩
         case measure => simp [intOf]; omega
     · have hje : j = a := by omega
       have hdr := HJ.out
       have hself : zk6 (ltP act) a j cj = cj := by
        rw [hje]
        cases a with
        | zero => rfl
        | succ a => rw [zk6, if_neg (by omega)]
       rw [hself] at hdr
       have HDR := Lib.hid hdr
       have HDat := Lib.hid HI2.out
       have hja' : ((a : Int) < (j : Int)) = False := by simp; omega
       clear HI2 HJ hdr hself hje hcl hjc haj hlen
       go_wp2_with fail
       refine zaf (by kernel_rfl) (by kernel_rfl) ?_; (repeat (go_big_quiet_step ( fail ))); refine wpQuiet_nil ?_; rintro _ ⟨nx, rfl⟩
       go_wp2_with fail
       go_roundw
       case rel => exact ⟨k + 1, c + 1, cj, by go_num, by have := hck.out; rw [Hid]; omega, by omega, by rw [HN.out]; exact HDR.out, HDat.out.1.grow grI, HDat.out.2.trans (o2 := fun _ => False) (Grow.kept _ (show Grow wr (wr.plus nx) from grI)) (fun _ _ h => h.elim)⟩
       case measure => simp [intOf]; omega
  · have hfin : cur = T := by
     rw [← HT.out, HC.out]
     have := hck.out
     congr 1
     omega
    have HDat := Lib.hid HI.out
    clear HI HC
    subst hfin
    go_wp2_with fail
    go_end0
    exact ⟨rfl, HDat.out⟩
end Go.Proofs.YtgobdndjemicjaaGreatDoor
namespace Go.Proofs.YtgobdndjemicjaaGreatDoor
open Go Go.RowKit Go.Shelf
set_option maxRecDepth 100000 in
set_option maxHeartbeats 8000000 in
theorem zvg (w : World) (s : Sl) (q : Nat) (act : Int) (l : LR) (D : Dat w s q act l) (hl : l.length ≤ 19) :
 Calls Tryz.prog 187 #[s.val, .int .i64 (l.length : Int), z1o q] w fun e w' => e = .returned (.tuple #[]) ∧ Dat w' s q act (stbS (ltP act) l) ∧ Kept s.owns w w' := by
 have hT : stbS (ltP act) l = zhb (ltP act) 0 (l.length - 0 - 1) l := by
  unfold stbS
  rw [yc2, if_neg (by omega), zxm, if_neg (by omega)]
 have HC := Lib.hid (fun W (g : Grow w W) => by
  have := z8h W s q act l (D.grow g) (by omega) 0 l.length (by omega) (by omega)
  rw [← hT] at this
  exact this)
 generalize stbS (ltP act) l = T at *
 clear D hT
 generalize l.length = n at *
 have hn20 : (n : Int) < 20 := by omega
 have hn0 : ((20 : Int) ≤ (n : Int)) = False := by simp; omega
 have hn1 : (20 ≤ n) = False := by simp; omega
 have hn2 : (20 < n) = False := by simp; omega
 have hn3 : ((20 : Int) < (n : Int)) = False := by simp; omega
 unfold z1o at *
 go_enter Tryz.func187, Tryz.ntmps187
 go_wp2_with fail
 go_loopw [7, 8] (fun av bv wr => av = .int .i64 0 ∧ bv = .int .i64 20 ∧ Grow w wr) (fun _ _ _ => 0)
 case atStart => exact ⟨rfl, rfl, grI⟩
 case round =>
  obtain ⟨rfl, rfl, hG⟩ := hrel
  have HG := Lib.hid hG
  clear hG
  go_wp2_with fail
  refine (HC.out _ (HG.out.trans grI)).mono ?_
  rintro e' w2 ⟨rfl, hD2, hK2⟩
  have HD2 := Lib.hid hD2
  have HK2 := Lib.hid (Kept.trans (o2 := s.owns) (Grow.kept s.owns (HG.out.trans grI)) hK2 (fun _ _ h => h))
  clear hD2 hK2 HC
  go_wp2_with fail
  go_loopw [6] (fun v wo => v = .int .i64 20 ∧ Hid (Dat wo s q act T ∧ Kept s.owns w wo)) (fun _ _ => 0)
  case atStart => exact ⟨rfl, HD2.out, HK2.out⟩
  case round =>
   obtain ⟨rfl, HI⟩ := hrel
   go_wp2_with fail
   go_end0
   exact ⟨rfl, HI.out⟩
set_option maxRecDepth 100000 in
theorem zq3 (w : World) (s : Sl) (q : Nat) (act : Int) (l : LR) (D : Dat w s q act l) (hl : l.length ≤ 19) :
 Calls Tryz.prog 137 #[s.val, z1o q] w fun e w' => e = .returned (.tuple #[]) ∧ Dat w' s q act (stbS (ltP act) l) ∧ Kept s.owns w w' := by
 have hsn := D.rows.len
 have HS := Lib.hid (fun W (g : Grow w W) => zvg W s q act l (D.grow g) hl)
 generalize stbS (ltP act) l = T at *
 clear D
 unfold z1o at *
 go_enter Tryz.func137, Tryz.ntmps137
 go_wp2_with fail
 refine (HS.out _ grI).mono ?_
 rintro e' w2 ⟨rfl, hD, hK⟩
 have HD := Lib.hid hD
 have HK := Lib.hid (Kept.trans (o2 := s.owns) (Grow.kept s.owns (show Grow w _ from grI)) hK (fun _ _ h => h))
 clear hD hK HS
 go_wp2_with fail
 go_end0
 exact ⟨rfl, HD.out, HK.out⟩
end Go.Proofs.YtgobdndjemicjaaGreatDoor
