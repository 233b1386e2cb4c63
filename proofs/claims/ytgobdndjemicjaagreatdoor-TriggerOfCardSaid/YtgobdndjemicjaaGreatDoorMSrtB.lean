/-
  Sorting rows so that equal ones keep their order: the library's way, as plain functions.
  The walks of the library's stable sort at abilities that wait: it leaves the rows as the plain functions say.
  The walk of the insertion sort.
  The walk of the exchange of two neighbouring parts.
  The walk of the merging of two sorted parts, where one of them is a single row.
  The walk of the merging of two sorted parts, where the second is a single row.
  The walk of the merging of two sorted parts.
  The walk of the stable sort.
-/
import Derived.Test.YtgobdndjemicjaaGreatDoorMMade
import Derived.Test.YtgobdndjemicjaaGreatDoorMDel
import Derived.Test.YtgobdndjemicjaaGreatDoorMIs19
namespace Go.Proofs.YtgobdndjemicjaaGreatDoor
open Go Go.RowKit

abbrev LR := List (List Int)
def swp (l : LR) (i j : Nat) : LR := (l.set i (rowAt l j)).set j (rowAt l i)
def insIn (lt : List Int → List Int → Bool) (a : Nat) : Nat → LR → LR
  | 0, l => l
  | j + 1, l => if a < j + 1 ∧ lt (rowAt l (j + 1)) (rowAt l j) = true then insIn lt a j (swp l (j + 1) j) else l
def sinsTo (lt : List Int → List Int → Bool) (a : Nat) : Nat → LR → LR
  | 0, l => l
  | k + 1, l => insIn lt a (a + 1 + k) (sinsTo lt a k l)
def swTo (a b : Nat) : Nat → LR → LR
  | 0, l => l
  | k + 1, l => swp (swTo a b k l) (a + k) (b + k)
def rotG (m : Nat) : Nat → Nat → Nat → LR → LR
  | 0, i, _, l => swTo (m - i) m i l
  | g + 1, i, j, l => if i = j then swTo (m - i) m i l else if j < i then rotG m g (i - j) j (swTo (m - i) m j l) else rotG m g i (j - i) (swTo (m - i) (m + j - i) i l)
def bsG (P : Nat → Bool) : Nat → Nat → Nat → Nat
  | 0, i, _ => i
  | g + 1, i, j => if i < j then (if P ((i + j) / 2) = true then bsG P g ((i + j) / 2 + 1) j else bsG P g i ((i + j) / 2)) else i
def upTo (a : Nat) : Nat → LR → LR
  | 0, l => l
  | k + 1, l => swp (upTo a k l) (a + k) (a + k + 1)
def dnTo (m : Nat) : Nat → LR → LR
  | 0, l => l
  | k + 1, l => swp (dnTo m k l) (m - k) (m - k - 1)
def symG (lt : List Int → List Int → Bool) : Nat → Nat → Nat → Nat → LR → LR
  | 0, _, _, _, l => l
  | g + 1, a, m, b, l =>
    if m - a = 1 then upTo a (bsG (fun h => lt (rowAt l h) (rowAt l a)) (b - m + 1) m b - 1 - a) l
    else if b - m = 1 then dnTo m (m - bsG (fun h => !lt (rowAt l m) (rowAt l h)) (m - a + 1) a m) l
    else
      let mid := (a + b) / 2
      let n := mid + m
      let s0 := if mid < m then n - b else a
      let r0 := if mid < m then mid else m
      let st := bsG (fun c => !lt (rowAt l (n - 1 - c)) (rowAt l c)) (r0 - s0 + 1) s0 r0
      let en := n - st
      let l1 := if st < m ∧ m < en then rotG m (en - st) (m - st) (en - m) l else l
      let l2 := if a < st ∧ st < mid then symG lt g a st mid l1 else l1
      if mid < en ∧ en < b then symG lt g mid en b l2 else l2
def insBl (lt : List Int → List Int → Bool) (n : Nat) : Nat → Nat → LR → LR
  | 0, _, l => l
  | g + 1, a, l => if a + 20 ≤ n then insBl lt n g (a + 20) (sinsTo lt a 19 l) else sinsTo lt a (n - a - 1) l
def mrgBl (lt : List Int → List Int → Bool) (n bs : Nat) : Nat → Nat → LR → LR
  | 0, _, l => l
  | g + 1, a, l => if a + 2 * bs ≤ n then mrgBl lt n bs g (a + 2 * bs) (symG lt (2 * bs) a (a + bs) (a + 2 * bs) l) else if a + bs < n then symG lt (n - a) a (a + bs) n l else l
def mrgS (lt : List Int → List Int → Bool) (n : Nat) : Nat → Nat → LR → LR
  | 0, _, l => l
  | g + 1, bs, l => if bs < n then mrgS lt n g (2 * bs) (mrgBl lt n bs (n + 1) 0 l) else l
def stbS (lt : List Int → List Int → Bool) (l : LR) : LR := mrgS lt l.length (l.length + 1) 20 (insBl lt l.length (l.length + 1) 0 l)
/-! ### How long -/
theorem swp_len (l : LR) (i j : Nat) : (swp l i j).length = l.length := by simp [swp]
theorem insIn_len (lt : List Int → List Int → Bool) (a : Nat) : ∀ j l, (insIn lt a j l).length = l.length
  | 0, l => rfl
  | j + 1, l => by
    unfold insIn
    split
    · rw [insIn_len lt a j, swp_len]
    · rfl
theorem insTo_len (lt : List Int → List Int → Bool) (a : Nat) : ∀ k l, (sinsTo lt a k l).length = l.length
  | 0, l => rfl
  | k + 1, l => by unfold sinsTo; rw [insIn_len, insTo_len lt a k]
theorem swTo_len (a b : Nat) : ∀ k l, (swTo a b k l).length = l.length
  | 0, l => rfl
  | k + 1, l => by unfold swTo; rw [swp_len, swTo_len a b k]
theorem rotG_len (m : Nat) : ∀ g i j l, (rotG m g i j l).length = l.length
  | 0, i, j, l => swTo_len _ _ _ _
  | g + 1, i, j, l => by
    unfold rotG
    split
    · exact swTo_len _ _ _ _
    split
    · rw [rotG_len m g, swTo_len]
    · rw [rotG_len m g, swTo_len]
theorem upTo_len (a : Nat) : ∀ k l, (upTo a k l).length = l.length
  | 0, l => rfl
  | k + 1, l => by unfold upTo; rw [swp_len, upTo_len a k]
theorem dnTo_len (a : Nat) : ∀ k l, (dnTo a k l).length = l.length
  | 0, l => rfl
  | k + 1, l => by unfold dnTo; rw [swp_len, dnTo_len a k]
theorem symG_len (lt : List Int → List Int → Bool) : ∀ g a m b l, (symG lt g a m b l).length = l.length
  | 0, a, m, b, l => rfl
  | g + 1, a, m, b, l => by
    unfold symG
    split
    · exact upTo_len _ _ _
    split
    · exact dnTo_len _ _ _
    · have ih := symG_len lt g
      simp only
      (repeat' split) <;> simp only [ih, rotG_len]
theorem insBl_len (lt : List Int → List Int → Bool) (n : Nat) : ∀ g a l, (insBl lt n g a l).length = l.length
  | 0, a, l => rfl
  | g + 1, a, l => by
    unfold insBl
    split
    · rw [insBl_len lt n g, insTo_len]
    · exact insTo_len _ _ _ _
theorem mrgBl_len (lt : List Int → List Int → Bool) (n bs : Nat) : ∀ g a l, (mrgBl lt n bs g a l).length = l.length
  | 0, a, l => rfl
  | g + 1, a, l => by
    unfold mrgBl
    split
    · rw [mrgBl_len lt n bs g, symG_len]
    split
    · exact symG_len _ _ _ _ _ _
    · rfl
theorem mrgS_len (lt : List Int → List Int → Bool) (n : Nat) : ∀ g bs l, (mrgS lt n g bs l).length = l.length
  | 0, bs, l => rfl
  | g + 1, bs, l => by
    unfold mrgS
    split
    · rw [mrgS_len lt n g, mrgBl_len]
    · rfl
theorem stbS_len (lt : List Int → List Int → Bool) (l : LR) : (stbS lt l).length = l.length := by unfold stbS; rw [mrgS_len, insBl_len]
theorem bsG_in (P : Nat → Bool) : ∀ g i j, i ≤ j → i ≤ bsG P g i j ∧ bsG P g i j ≤ j
  | 0, i, j, h => ⟨Nat.le_refl _, h⟩
  | g + 1, i, j, h => by
    unfold bsG
    split
    · rename_i hl
      split
      · have := bsG_in P g ((i + j) / 2 + 1) j (by omega); omega
      · have := bsG_in P g i ((i + j) / 2) (by omega); omega
    · exact ⟨Nat.le_refl _, h⟩
/-! ### How rows move: what each row is, is kept -/
end Go.Proofs.YtgobdndjemicjaaGreatDoor
namespace Go.Proofs.YtgobdndjemicjaaGreatDoor
open Go Go.RowKit Go.Shelf

def cmpP (act : Int) (x y : List Int) : Int := if decide (gt x 2 = act) = decide (gt y 2 = act) then 0 else if gt x 2 = act then -1 else 1
def ltP (act : Int) (x y : List Int) : Bool := decide (gt x 2 = act) && !decide (gt y 2 = act)
theorem cmpP_lt {act : Int} {x y : List Int} (h : ltP act x y = true) : cmpP act x y < 0 := by
  unfold ltP at h; unfold cmpP
  by_cases hx : gt x 2 = act <;> by_cases hy : gt y 2 = act <;> simp [hx, hy] at h ⊢
theorem cmpP_ge {act : Int} {x y : List Int} (h : ltP act x y = false) : 0 ≤ cmpP act x y := by
  unfold ltP at h; unfold cmpP
  by_cases hx : gt x 2 = act <;> by_cases hy : gt y 2 = act <;> simp [hx, hy] at h ⊢
/-- The comparing function, with the active player's cell. -/
def cmpV (q : Nat) : Value := .func (.func 138) #[] #[.pointer (some ⟨q, 0, none⟩)]
set_option maxRecDepth 100000 in
theorem pcmp_any (w : World) (q : Nat) (act : Int) (hq : w.cell? ⟨q, 0, none⟩ = some (I act)) (x y : List Int) (hx : x.length = 3) (hy : y.length = 3) :
    Calls Tryz.prog 138 #[.agg (cellsOf x), .agg (cellsOf y), .pointer (some ⟨q, 0, none⟩)] w fun e w' => e = .returned (.int .i64 (cmpP act x y)) ∧ Grow w w' := by
  change _ = some (Value.int .i64 act) at hq
  have hql := (cell_blk hq).1
  have hne : ¬ q = w.heap.size := by omega
  have hne1 : ¬ q = w.heap.size + 1 := by omega
  by_cases hx2 : gt x 2 = act
  · by_cases hy2 : gt y 2 = act
    · have e : cmpP act x y = 0 := by unfold cmpP; simp [hx2, hy2]
      rw [e]
      have bx : (gt x 2 == act) = true := by simpa using hx2
      have by' : (gt y 2 == act) = true := by simpa using hy2
      clear hx2 hy2 e
      go_enter Tryz.func138, Tryz.ntmps138
      go_wp2_with fail
      refine wp_region_grow (by kernel_rfl) (by kernel_rfl) ?_; (repeat (go_big_quiet_step ( fail ))); refine wpQuiet_nil ?_; rintro _ ⟨nx, rfl⟩
      go_wp2_with fail
      go_ret
      exact ⟨rfl, grI⟩
    · have e : cmpP act x y = -1 := by unfold cmpP; simp [hx2, hy2]
      rw [e]
      have bx : (gt x 2 == act) = true := by simpa using hx2
      have by' : (gt y 2 == act) = false := by simpa using hy2
      clear hx2 hy2 e
      go_enter Tryz.func138, Tryz.ntmps138
      go_wp2_with fail
      refine wp_region_grow (by kernel_rfl) (by kernel_rfl) ?_; (repeat (go_big_quiet_step ( fail ))); refine wpQuiet_nil ?_; rintro _ ⟨nx, rfl⟩
      go_wp2_with fail
      go_ret
      exact ⟨rfl, grI⟩
  · by_cases hy2 : gt y 2 = act
    · have e : cmpP act x y = 1 := by unfold cmpP; simp [hx2, hy2]
      rw [e]
      have bx : (gt x 2 == act) = false := by simpa using hx2
      have by' : (gt y 2 == act) = true := by simpa using hy2
      clear hx2 hy2 e
      go_enter Tryz.func138, Tryz.ntmps138
      go_wp2_with fail
      refine wp_region_grow (by kernel_rfl) (by kernel_rfl) ?_; (repeat (go_big_quiet_step ( fail ))); refine wpQuiet_nil ?_; rintro _ ⟨nx, rfl⟩
      go_wp2_with fail
      go_ret
      exact ⟨rfl, grI⟩
    · have e : cmpP act x y = 0 := by unfold cmpP; simp [hx2, hy2]
      rw [e]
      have bx : (gt x 2 == act) = false := by simpa using hx2
      have by' : (gt y 2 == act) = false := by simpa using hy2
      clear hx2 hy2 e
      go_enter Tryz.func138, Tryz.ntmps138
      go_wp2_with fail
      refine wp_region_grow (by kernel_rfl) (by kernel_rfl) ?_; (repeat (go_big_quiet_step ( fail ))); refine wpQuiet_nil ?_; rintro _ ⟨nx, rfl⟩
      go_wp2_with fail
      go_ret
      exact ⟨rfl, grI⟩
/-- The rows, and the active player's cell. -/
structure Dat (w : World) (s : Sl) (q : Nat) (act : Int) (l : LR) : Prop where
  rows : Rows' w s 3 l
  room : Room w s 3
  act : w.cell? ⟨q, 0, none⟩ = some (I act)
  ne : ¬ q = s.b
theorem Dat.grow {w w' : World} {s : Sl} {q : Nat} {act : Int} {l : LR} (h : Dat w s q act l) (g : Grow w w') : Dat w' s q act l := by
  refine ⟨h.rows.grow g, h.room.grow g, ?_, h.ne⟩
  obtain ⟨x, rfl⟩ := g
  rw [plus_cell_lt w x _ _ (cell_blk h.act).1]
  exact h.act
theorem Dat.put {w : World} {s : Sl} {q : Nat} {act : Int} {l : LR} (h : Dat w s q act l) {i : Nat} (hi : i < l.length) {r : List Int} (hr : r.length = 3) : Dat (w.setCells s.b (s.o + i * 3) (r.map I)) s q act (l.set i r) := by
  have hl := h.rows.len
  have hc := h.rows.cap
  refine ⟨h.rows.put hi hr, h.room.put _ _ (by omega) (by rw [List.length_map, hr]; omega), ?_, h.ne⟩
  have hk : Kept (fun k => k = s.b) w (w.setCells s.b (s.o + i * 3) (r.map I)) := Kept.setCells (own := fun k => k = s.b) s.b (fun _ => rfl) _ _ _ (Kept.refl _ _)
  rw [hk.cell q 0 (cell_blk h.act).1 h.ne]
  exact h.act
theorem Dat.there {w : World} {s : Sl} {q : Nat} {act : Int} {l : LR} (h : Dat w s q act l) {i : Nat} (hi : i < l.length) : w.there s.b (s.o + i * 3) 3 := fun j hj => by
  have hl := h.rows.len
  have hc := h.rows.cap
  have := h.room.there (i * 3 + j) (by omega)
  rw [← Nat.add_assoc] at this
  exact this
theorem Dat.at {w : World} {s : Sl} {q : Nat} {act : Int} {l : LR} (h : Dat w s q act l) {i : Nat} (hi : i < l.length) : s.b < w.heap.size ∧ (rowAt l i).length = 3 ∧ s.o + i * 3 + 3 ≤ (w.blk s.b).size ∧ sub (w.blk s.b) (s.o + i * 3) 3 = cellsOf (rowAt l i) := by
  obtain ⟨h1, h2, h3, h4, _⟩ := h.rows.at (by decide) i hi
  exact ⟨h1, h2, h3, h4⟩
theorem Dat.swap {w : World} {s : Sl} {q : Nat} {act : Int} {l : LR} (h : Dat w s q act l) {i j : Nat} (hi : i < l.length) (hj : j < l.length) :
    Dat ((w.setCells s.b (s.o + i * 3) ((rowAt l j).map I)).setCells s.b (s.o + j * 3) ((rowAt l i).map I)) s q act (swp l i j) :=
  (h.put hi (h.rows.wid j hj)).put (by rw [List.length_set]; exact hj) (h.rows.wid i hi)
theorem Kept.swap {own : Nat → Prop} {w0 w : World} (h : Kept own w0 w) (b : Nat) (hb : own b) (o1 o2 : Nat) (v1 v2 : List Value) : Kept own w0 ((w.setCells b o1 v1).setCells b o2 v2) :=
  Kept.setCells b (fun _ => hb) _ _ _ (Kept.setCells b (fun _ => hb) _ _ _ h)
theorem Dat.there2 {w : World} {s : Sl} {q : Nat} {act : Int} {l : LR} (h : Dat w s q act l) {i j : Nat} (hi : i < l.length) (hj : j < l.length) : (w.setCells s.b (s.o + i * 3) ((rowAt l j).map I)).there s.b (s.o + j * 3) 3 :=
  (h.put hi (h.rows.wid j hj)).there (by rw [List.length_set]; exact hj)
@[go_sem] theorem run_storeM_Pend (w : World) (b o : Nat) (c : List Int) (hc : c.length = 3) (ht : w.there b o 3) : (stRow 99 (.pointer (some ⟨b, o, none⟩)) (.agg (cellsOf c))).run Tryz.prog w = .ok .skip (w.setCells b o (c.map I)) := by
  unfold stRow
  rw [Sem.run_bind, run_storeAt_mid (P := Tryz.prog) w b o 99 (cellsOf c) (by rw [cellsOf_size, hc]; exact ht) (by rw [cellsOf_size, hc]; kernel_rfl) (oneCell_cells c)]
  rfl
@[go_sem] theorem run_load_PendD (w : World) (b o : Nat) (h : o + 3 ≤ (w.blk b).size) : (ldRow 99 (.pointer (some ⟨b, o, none⟩))).run Tryz.prog w.drew = .ok (.value (.agg (sub (w.blk b) o 3))) w.drew := run_load_Pending w.drew b o h
set_option maxRecDepth 100000 in
set_option maxHeartbeats 4000000 in
theorem swr_any (w : World) (s : Sl) (q : Nat) (act : Int) (l : LR) (D : Dat w s q act l) (hl : l.length ≤ 1048576) (a b n : Nat) (ha : a + n ≤ l.length) (hb : b + n ≤ l.length) (f : Value) :
    Calls Tryz.prog 278 #[s.val, .int .i64 (a : Int), .int .i64 (b : Int), .int .i64 (n : Int), f] w fun e w' => e = .returned (.tuple #[]) ∧ Dat w' s q act (swTo a b n l) ∧ Kept s.owns w w' := by
  have hsn := D.rows.len
  have HD := Lib.hid D
  clear D
  go_enter Tryz.func278, Tryz.ntmps278
  go_wp2_with fail
  go_loopw [10] (fun i wr => ∃ (k : Nat), i = .int .i64 (k : Int) ∧ k ≤ n ∧ Hid (Dat wr s q act (swTo a b k l) ∧ Kept s.owns w wr)) (fun i _ => n - (intOf i).toNat)
  case atStart => exact ⟨0, rfl, by omega, HD.out, Kept.refl _ _⟩
  case round =>
    obtain ⟨k, rfl, hk, HI⟩ := hrel
    by_cases hlt : k < n
    · have hlen := swTo_len a b k l
      have HS : Hid (swTo a b (k + 1) l = swp (swTo a b k l) (a + k) (b + k)) := rfl
      generalize swTo a b k l = cur at *
      have hia : a + k < cur.length := by omega
      have hib : b + k < cur.length := by omega
      obtain ⟨a1, a2, a3, a4⟩ := HI.out.1.at hia
      obtain ⟨_, b2, b3, b4⟩ := HI.out.1.at hib
      have x0 : (0 : Int) ≤ (a : Int) + (k : Int) := by omega
      have x1 : (a : Int) + (k : Int) < l.length := by omega
      have x2 : ((a : Int) + (k : Int)).toNat = a + k := by omega
      have y0 : (0 : Int) ≤ (b : Int) + (k : Int) := by omega
      have y1 : (b : Int) + (k : Int) < l.length := by omega
      have y2 : ((b : Int) + (k : Int)).toNat = b + k := by omega
      have hso : s.owns s.b := Sl.owns_b (by omega)
      have HTH := Lib.hid (fun W (g : Grow wr W) => (HI.out.1.grow g).there hia)
      have HTH2 := Lib.hid (fun W (g : Grow wr W) => (HI.out.1.grow g).there2 hia hib)
      have HSW := Lib.hid (fun W (g : Grow wr W) => (HI.out.1.grow g).swap hia hib)
      have HK := Lib.hid HI.out.2
      clear HI
      generalize rowAt cur (a + k) = ra at *
      generalize rowAt cur (b + k) = rb at *
      generalize hA : a + k = ia at *
      generalize hB : b + k = ib at *
      clear hA hB
      go_wp2_with fail
      have hth := HTH.out wr.drew grI
      have hth2 := HTH2.out wr.drew grI
      go_region
      go_wp2_with fail
      go_roundw
      case rel => exact ⟨k + 1, by go_num, by omega, by rw [HS.out]; exact HSW.out _ grI, Kept.swap (HK.out.trans (o2 := fun _ => False) (Grow.kept _ (show Grow wr wr.drew from grI)) (fun _ _ h => h.elim)) _ hso _ _ _ _⟩
      case measure => simp [intOf]; omega
    · have hkn : k = n := by omega
      subst hkn
      go_wp2_with fail
      go_end0
      exact ⟨rfl, HI.out⟩
end Go.Proofs.YtgobdndjemicjaaGreatDoor
namespace Go.Proofs.YtgobdndjemicjaaGreatDoor
open Go Go.RowKit Go.Shelf

set_option maxRecDepth 100000 in
set_option maxHeartbeats 8000000 in
theorem ins_any (w : World) (s : Sl) (q : Nat) (act : Int) (l : LR) (D : Dat w s q act l) (hl : l.length ≤ 1048576) (a b : Nat) (hab : a ≤ b) (hb : b ≤ l.length) :
    Calls Tryz.prog 236 #[s.val, .int .i64 (a : Int), .int .i64 (b : Int), cmpV q] w fun e w' => e = .returned (.tuple #[]) ∧ Dat w' s q act (sinsTo (ltP act) a (b - a - 1) l) ∧ Kept s.owns w w' := by
  have hsn := D.rows.len
  have HD := Lib.hid D
  generalize hT : sinsTo (ltP act) a (b - a - 1) l = T
  have HT := Lib.hid hT
  clear D hT
  unfold cmpV
  go_enter Tryz.func236, Tryz.ntmps236
  go_wp2_with fail
  go_loopw [8] (fun i wr => ∃ (k c : Nat) (cur : LR), i = .int .i64 (c : Int) ∧ Hid (c = a + 1 + k ∧ k ≤ b - a - 1) ∧ c ≤ 1048577 ∧ Hid (cur = sinsTo (ltP act) a k l) ∧ Hid (Dat wr s q act cur ∧ Kept s.owns w wr)) (fun i _ => b - (intOf i).toNat)
  case atStart => exact ⟨0, a + 1, l, by go_num, ⟨by omega, by omega⟩, by omega, rfl, HD.out, Kept.refl _ _⟩
  case round =>
    obtain ⟨k, c, cur, rfl, hck, hcb, HC, HI⟩ := hrel
    have hlen : cur.length = l.length := by rw [HC.out, insTo_len]
    by_cases hlt : c < b
    · have HN : Hid (sinsTo (ltP act) a (k + 1) l = insIn (ltP act) a c cur) := by rw [Hid, HC.out, hck.out.1]; rfl
      have HCL : Hid (c < cur.length) := by rw [Hid]; omega
      have hac : a < c := by have := hck.out.1; omega
      go_wp2_with fail
      go_loopw [9] (fun jv wi => ∃ (j : Nat) (cj : LR), jv = .int .i64 (j : Int) ∧ a ≤ j ∧ j ≤ c ∧ Hid (insIn (ltP act) a j cj = insIn (ltP act) a c cur) ∧ cj.length = l.length ∧ Hid (Dat wi s q act cj ∧ Kept s.owns w wi)) (fun jv _ => (intOf jv).toNat)
      case atStart => exact ⟨c, cur, rfl, by omega, Nat.le_refl _, rfl, hlen, HI.out⟩
      case round =>
        obtain ⟨j, cj, rfl, haj, hjc, HJ, hcl, HI2⟩ := hrel
        by_cases hja : a < j
        · obtain ⟨i, hij⟩ : ∃ i, j = i + 1 := ⟨j - 1, by omega⟩
          have hjn : j ≤ 1048577 := by omega
          have hi1 : j < cj.length := by have := HCL.out; omega
          have hi0 : i < cj.length := by omega
          obtain ⟨a1, a2, a3, a4⟩ := HI2.out.1.at hi1
          obtain ⟨_, b2, b3, b4⟩ := HI2.out.1.at hi0
          have hdr := HJ.out
          rw [hij, insIn, ← hij] at hdr
          have hja' : (a : Int) < (j : Int) := by omega
          have x0 : (0 : Int) ≤ (j : Int) - 1 := by omega
          have x1 : (j : Int) - 1 < l.length := by omega
          have x2 : ((j : Int) - 1).toNat = i := by omega
          have x3 : (j : Int) < l.length := by omega
          have x6 : j < l.length := by omega
          have y0 : (1 : Int) ≤ (j : Int) := by omega
          have y1 : 1 ≤ j := by omega
          have y2 : 0 < j := by omega
          have y3 : (0 : Int) < (j : Int) := by omega
          have y4 : (j : Int) ≤ l.length := by omega
          have y5 : j ≤ l.length := by omega
          have hai : a ≤ i := by omega
          have hic : i ≤ c := by omega
          have hme : Hid (i < j) := by rw [Hid]; omega
          have hso : s.owns s.b := Sl.owns_b (by omega)
          have HCmp := Lib.hid (fun W (g : Grow wr W) => pcmp_any W q act ((HI2.out.1.grow g).act) (rowAt cj j) (rowAt cj i) a2 b2)
          have HTH := Lib.hid (fun W (g : Grow wr W) => (HI2.out.1.grow g).there hi1)
          have HTH2 := Lib.hid (fun W (g : Grow wr W) => (HI2.out.1.grow g).there2 hi1 hi0)
          have HSW := Lib.hid (fun W (g : Grow wr W) => (HI2.out.1.grow g).swap hi1 hi0)
          have HK := Lib.hid HI2.out.2
          have hsl : (swp cj j i).length = l.length := (swp_len _ _ _).trans hcl
          have HX2 : Hid ((j : Int) - 1 = (i : Int)) := by rw [Hid]; omega
          generalize hsw : swp cj j i = cj2 at *
          clear hsw hij
          cases hlp : ltP act (rowAt cj j) (rowAt cj i) with
          | true =>
            have hneg := cmpP_lt hlp
            rw [if_pos ⟨hja, hlp⟩] at hdr
            have HDR := Lib.hid hdr
            clear HI2 HJ hdr hlp
            generalize hcv : cmpP act (rowAt cj j) (rowAt cj i) = cv at *
            generalize rowAt cj j = ra at *
            generalize rowAt cj i = rb at *
            clear hcv hcl hi1 hi0 hjc haj hlen hlt
            go_wp2_with fail
            refine wp_region_grow (by kernel_rfl) (by kernel_rfl) ?_; (repeat (go_big_quiet_step ( (go_at_call 138; first | refine Calls.grow2 (HCmp.out _ grI) | refine Calls.grow (HCmp.out _ grI)) ))); refine wpQuiet_nil ?_; rintro _ ⟨nx, rfl⟩
            go_wp2_with fail
            have hth := HTH.out (wr.plus nx).drew grI
            have hth2 := HTH2.out (wr.plus nx).drew grI
            go_region
            go_wp2_with fail
            go_roundw
            case rel => exact ⟨i, cj2, by rw [HX2.out], by omega, by omega, HDR.out, by omega, HSW.out _ grI, Kept.swap (HK.out.trans (o2 := fun _ => False) (Grow.kept _ (show Grow wr (wr.plus nx).drew from grI)) (fun _ _ h => h.elim)) _ hso _ _ _ _⟩
            case measure => have := hme.out; simp [intOf]; omega
          | false =>
            have hneg := cmpP_ge hlp
            rw [if_neg (by rw [hlp]; simp)] at hdr
            have hneg' : (cmpP act (rowAt cj j) (rowAt cj i) < 0) = False := by simp; exact hneg
            have HDR := Lib.hid hdr
            have HCL2 := Lib.hid hcl
            have HDat := Lib.hid HI2.out
            clear HI2 HJ hdr hlp hneg hcl hjc haj hi1 hi0 hlen
            generalize hcv : cmpP act (rowAt cj j) (rowAt cj i) = cv at *
            generalize rowAt cj j = ra at *
            generalize rowAt cj i = rb at *
            clear hcv
            go_wp2_with fail
            refine wp_region_grow (by kernel_rfl) (by kernel_rfl) ?_; (repeat (go_big_quiet_step ( (go_at_call 138; first | refine Calls.grow2 (HCmp.out _ grI) | refine Calls.grow (HCmp.out _ grI)) ))); refine wpQuiet_nil ?_; rintro _ ⟨nx, rfl⟩
            go_wp2_with fail
            go_roundw
            case rel => exact ⟨k + 1, c + 1, cj, by go_num, by have := hck.out; rw [Hid]; omega, by omega, by rw [HN.out]; exact HDR.out, HDat.out.1.grow grI, HDat.out.2.trans (o2 := fun _ => False) (Grow.kept _ (show Grow wr (wr.plus nx) from grI)) (fun _ _ h => h.elim)⟩
            case measure => simp [intOf]; omega
        · have hje : j = a := by omega
          have hdr := HJ.out
          have hself : insIn (ltP act) a j cj = cj := by
            rw [hje]
            cases a with
            | zero => rfl
            | succ a => rw [insIn, if_neg (by omega)]
          rw [hself] at hdr
          have HDR := Lib.hid hdr
          have HDat := Lib.hid HI2.out
          have hja' : ((a : Int) < (j : Int)) = False := by simp; omega
          clear HI2 HJ hdr hself hje hcl hjc haj hlen
          go_wp2_with fail
          refine wp_region_grow (by kernel_rfl) (by kernel_rfl) ?_; (repeat (go_big_quiet_step ( fail ))); refine wpQuiet_nil ?_; rintro _ ⟨nx, rfl⟩
          go_wp2_with fail
          go_roundw
          case rel => exact ⟨k + 1, c + 1, cj, by go_num, by have := hck.out; rw [Hid]; omega, by omega, by rw [HN.out]; exact HDR.out, HDat.out.1.grow grI, HDat.out.2.trans (o2 := fun _ => False) (Grow.kept _ (show Grow wr (wr.plus nx) from grI)) (fun _ _ h => h.elim)⟩
          case measure => simp [intOf]; omega
    · have hfin : cur = T := by
        rw [← HT.out, HC.out]
        have := hck.out
        congr 1
        omega
      have HDat := Lib.hid HI.out
      clear HI HC
      subst hfin
      go_wp2_with fail
      go_end0
      exact ⟨rfl, HDat.out⟩
end Go.Proofs.YtgobdndjemicjaaGreatDoor
namespace Go.Proofs.YtgobdndjemicjaaGreatDoor
open Go Go.RowKit Go.Shelf

set_option maxRecDepth 100000 in
set_option maxHeartbeats 4000000 in
theorem rot_any (w : World) (s : Sl) (q : Nat) (act : Int) (l : LR) (D : Dat w s q act l) (hl : l.length ≤ 1048576) (a m b : Nat) (ha : a < m) (hm : m < b) (hb : b ≤ l.length) (f : Value) :
    Calls Tryz.prog 259 #[s.val, .int .i64 (a : Int), .int .i64 (m : Int), .int .i64 (b : Int), f] w fun e w' => e = .returned (.tuple #[]) ∧ Dat w' s q act (rotG m (b - a) (m - a) (b - m) l) ∧ Kept s.owns w w' := by
  have HD := Lib.hid D
  generalize hT : rotG m (b - a) (m - a) (b - m) l = T
  have HT := Lib.hid hT
  clear D hT
  go_enter Tryz.func259, Tryz.ntmps259
  go_wp2_with fail
  go_loopw [10, 11] (fun iv jv wr => ∃ (g i j : Nat) (cur : LR), iv = .int .i64 (i : Int) ∧ jv = .int .i64 (j : Int) ∧ 1 ≤ i ∧ 1 ≤ j ∧ i ≤ m ∧ m + j ≤ l.length ∧ Hid (i + j ≤ g) ∧ cur.length = l.length ∧ Hid (rotG m g i j cur = T) ∧ Hid (Dat wr s q act cur ∧ Kept s.owns w wr)) (fun iv jv _ => (intOf iv + intOf jv).toNat)
  case atStart => exact ⟨b - a, m - a, b - m, l, by rw [show ((m - a : Nat) : Int) = (m : Int) - (a : Int) by omega], by rw [show ((b - m : Nat) : Int) = (b : Int) - (m : Int) by omega], by omega, by omega, by omega, by omega, by rw [Hid]; omega, rfl, HT.out, HD.out, Kept.refl _ _⟩
  case round =>
    obtain ⟨g, i, j, cur, rfl, rfl, hi1, hj1, him, hjl, hg, hcl, HG, HI⟩ := hrel
    by_cases hij : i = j
    · have hfin : swTo (m - i) m i cur = T := by
        rw [← HG.out, ← hij]
        cases g with
        | zero => rfl
        | succ g => rw [rotG, if_pos rfl]
      subst hij
      have HS := Lib.hid (fun W (g : Grow wr W) => by
        have := swr_any W s q act cur (HI.out.1.grow g) (by omega) (m - i) m i (by omega) (by omega) f
        rw [hfin, show ((m - i : Nat) : Int) = (m : Int) - (i : Int) by omega] at this
        exact this)
      have HK := Lib.hid HI.out.2
      clear HI HG hfin
      go_wp2_with fail
      refine (HS.out _ grI).mono ?_
      rintro e' w2 ⟨rfl, hD2, hK2⟩
      have HD2 := Lib.hid hD2
      have HK2 := Lib.hid (HK.out.trans (o2 := s.owns) (Kept.trans (o2 := s.owns) (Grow.kept _ (show Grow wr _ from grI)) hK2 (fun _ _ h => h)) (fun _ _ h => h))
      clear hD2 hK2 HS HK
      go_wp2_with fail
      go_end0
      exact ⟨rfl, HD2.out, HK2.out⟩
    · obtain ⟨g', rfl⟩ : ∃ g', g = g' + 1 := ⟨g - 1, by have := hg.out; omega⟩
      have hdr := HG.out
      rw [rotG, if_neg hij] at hdr
      have hne : ((i : Int) == (j : Int)) = false := by simp; omega
      have hne2 : ¬ (i : Int) = (j : Int) := by omega
      by_cases hlt : j < i
      · rw [if_pos hlt] at hdr
        have hlt' : (j : Int) < (i : Int) := by omega
        have HDR := Lib.hid hdr
        have hlen := swTo_len (m - i) m j cur
        have HS := Lib.hid (fun W (g : Grow wr W) => by
          have := swr_any W s q act cur (HI.out.1.grow g) (by omega) (m - i) m j (by omega) (by omega) f
          rw [show ((m - i : Nat) : Int) = (m : Int) - (i : Int) by omega] at this
          exact this)
        generalize swTo (m - i) m j cur = cur2 at *
        have HK := Lib.hid HI.out.2
        clear HI HG hdr
        go_wp2_with (go_at_call 278; refine (HS.out _ grI).mono ?_; rintro e' w2 ⟨rfl, hD2, hK2⟩; have HD2 := Lib.hid hD2; have HK2 := Lib.hid hK2; clear hD2 hK2)
        go_roundw
        case rel => exact ⟨g', i - j, j, cur2, by rw [show ((i - j : Nat) : Int) = (i : Int) - (j : Int) by omega], rfl, by omega, hj1, by omega, hjl, by have := hg.out; rw [Hid]; omega, by omega, HDR.out, HD2.out, HK.out.trans (o2 := s.owns) HK2.out (fun _ _ h => h)⟩
        case measure => simp [intOf]; omega
      · rw [if_neg hlt] at hdr
        have hlt' : ((j : Int) < (i : Int)) = False := by simp; omega
        have HDR := Lib.hid hdr
        have hlen := swTo_len (m - i) (m + j - i) i cur
        have HS := Lib.hid (fun W (g : Grow wr W) => by
          have := swr_any W s q act cur (HI.out.1.grow g) (by omega) (m - i) (m + j - i) i (by omega) (by omega) f
          rw [show ((m - i : Nat) : Int) = (m : Int) - (i : Int) by omega, show ((m + j - i : Nat) : Int) = (m : Int) + (j : Int) - (i : Int) by omega] at this
          exact this)
        generalize swTo (m - i) (m + j - i) i cur = cur2 at *
        have HK := Lib.hid HI.out.2
        clear HI HG hdr
        go_wp2_with (go_at_call 278; refine (HS.out _ grI).mono ?_; rintro e' w2 ⟨rfl, hD2, hK2⟩; have HD2 := Lib.hid hD2; have HK2 := Lib.hid hK2; clear hD2 hK2)
        go_roundw
        case rel => exact ⟨g', i, j - i, cur2, rfl, by rw [show ((j - i : Nat) : Int) = (j : Int) - (i : Int) by omega], hi1, by omega, him, by omega, by have := hg.out; rw [Hid]; omega, by omega, HDR.out, HD2.out, HK.out.trans (o2 := s.owns) HK2.out (fun _ _ h => h)⟩
        case measure => simp [intOf]; omega
end Go.Proofs.YtgobdndjemicjaaGreatDoor
namespace Go.Proofs.YtgobdndjemicjaaGreatDoor
open Go Go.RowKit Go.Shelf

set_option maxRecDepth 100000 in
set_option maxHeartbeats 4000000 in
theorem sym_one (w : World) (s : Sl) (q : Nat) (act : Int) (l : LR) (D : Dat w s q act l) (hl : l.length ≤ 1048576) (a m b : Nat) (ha : m - a = 1) (ham : a < m) (hm : m < b) (hb : b ≤ l.length) :
    Calls Tryz.prog 237 #[s.val, .int .i64 (a : Int), .int .i64 (m : Int), .int .i64 (b : Int), cmpV q] w fun e w' => e = .returned (.tuple #[]) ∧ Dat w' s q act (upTo a (bsG (fun h => ltP act (rowAt l h) (rowAt l a)) (b - m + 1) m b - 1 - a) l) ∧ Kept s.owns w w' := by
  have HD := Lib.hid D
  have hin := bsG_in (fun h => ltP act (rowAt l h) (rowAt l a)) (b - m + 1) m b (by omega)
  generalize hB : bsG (fun h => ltP act (rowAt l h) (rowAt l a)) (b - m + 1) m b = B at *
  have HB := Lib.hid hB
  have hsn := D.rows.len
  have e1 : (m : Int) - (a : Int) = 1 := by omega
  have hma : m = a + 1 := by omega
  clear D hB ha
  unfold cmpV
  go_enter Tryz.func237, Tryz.ntmps237
  go_wp2_with fail
  go_loopw [10, 11] (fun iv jv wr => ∃ (g lo hi : Nat), iv = .int .i64 (lo : Int) ∧ jv = .int .i64 (hi : Int) ∧ m ≤ lo ∧ lo ≤ hi ∧ hi ≤ b ∧ Hid (hi - lo < g) ∧ Hid (bsG (fun h => ltP act (rowAt l h) (rowAt l a)) g lo hi = B) ∧ Hid (Dat wr s q act l ∧ Kept s.owns w wr)) (fun iv jv _ => (intOf jv - intOf iv).toNat)
  case atStart => exact ⟨b - m + 1, m, b, rfl, rfl, Nat.le_refl _, by omega, Nat.le_refl _, by rw [Hid]; omega, HB.out, HD.out, Kept.refl _ _⟩
  case round =>
    obtain ⟨g, lo, hi, rfl, rfl, hml, hlh, hhb, hg, HG, HI⟩ := hrel
    by_cases hlt : lo < hi
    · obtain ⟨g', rfl⟩ : ∃ g', g = g' + 1 := ⟨g - 1, by have := hg.out; omega⟩
      have hdr := HG.out
      rw [bsG, if_pos hlt] at hdr
      obtain ⟨h, hh⟩ : ∃ h, h = (lo + hi) / 2 := ⟨_, rfl⟩
      rw [← hh] at hdr
      have he : ((lo : Int) + (hi : Int)) / 2 = (h : Int) := by omega
      have hlo : lo ≤ h := by omega
      have hhi : h < hi := by omega
      have hhl : h < l.length := by omega
      have hal : a < l.length := by omega
      obtain ⟨a1, a2, a3, a4⟩ := HI.out.1.at hhl
      obtain ⟨_, b2, b3, b4⟩ := HI.out.1.at hal
      have x1 : (h : Int) < l.length := by omega
      have x2 : (a : Int) < l.length := by omega
      have x3 : (lo : Int) < (hi : Int) := by omega
      have HCmp := Lib.hid (fun W (g : Grow wr W) => pcmp_any W q act ((HI.out.1.grow g).act) (rowAt l h) (rowAt l a) a2 b2)
      have HDat := Lib.hid HI.out
      clear HI HG
      cases hlp : ltP act (rowAt l h) (rowAt l a) with
      | true =>
        have hneg := cmpP_lt hlp
        rw [if_pos hlp] at hdr
        have HDR := Lib.hid hdr
        clear hdr hlp hh
        generalize hcv : cmpP act (rowAt l h) (rowAt l a) = cv at *
        generalize hra : rowAt l h = ra at *
        generalize hrb : rowAt l a = rb at *
        clear hcv hra
        go_wp2_with fail
        refine wp_region_grow (by kernel_rfl) (by kernel_rfl) ?_; (repeat (go_big_quiet_step ( (go_at_call 138; first | refine Calls.grow2 (HCmp.out _ grI) | refine Calls.grow (HCmp.out _ grI)) ))); refine wpQuiet_nil ?_; rintro _ ⟨nx, rfl⟩
        go_wp2_with fail
        go_roundw
        case rel => exact ⟨g', h + 1, hi, by go_num, rfl, by omega, by omega, hhb, by have := hg.out; rw [Hid]; omega, HDR.out, HDat.out.1.grow grI, HDat.out.2.trans (o2 := fun _ => False) (Grow.kept _ (show Grow wr (wr.plus nx) from grI)) (fun _ _ h => h.elim)⟩
        case measure => simp [intOf]; omega
      | false =>
        have hneg := cmpP_ge hlp
        rw [if_neg (by rw [hlp]; simp)] at hdr
        have hneg' : (cmpP act (rowAt l h) (rowAt l a) < 0) = False := by simp; exact hneg
        have HDR := Lib.hid hdr
        clear hdr hlp hh hneg
        generalize hcv : cmpP act (rowAt l h) (rowAt l a) = cv at *
        generalize hra : rowAt l h = ra at *
        generalize hrb : rowAt l a = rb at *
        clear hcv hra
        go_wp2_with fail
        refine wp_region_grow (by kernel_rfl) (by kernel_rfl) ?_; (repeat (go_big_quiet_step ( (go_at_call 138; first | refine Calls.grow2 (HCmp.out _ grI) | refine Calls.grow (HCmp.out _ grI)) ))); refine wpQuiet_nil ?_; rintro _ ⟨nx, rfl⟩
        go_wp2_with fail
        go_roundw
        case rel => exact ⟨g', lo, h, rfl, by first | rfl | go_num, hml, hlo, by omega, by have := hg.out; rw [Hid]; omega, HDR.out, HDat.out.1.grow grI, HDat.out.2.trans (o2 := fun _ => False) (Grow.kept _ (show Grow wr (wr.plus nx) from grI)) (fun _ _ h => h.elim)⟩
        case measure => simp [intOf]; omega
    · have hfin : lo = B := by
        rw [← HG.out]
        cases g with
        | zero => rfl
        | succ g => rw [bsG, if_neg hlt]
      have hlt' : ((lo : Int) < (hi : Int)) = False := by simp; omega
      have HDat := Lib.hid HI.out
      clear HI HG HB
      subst hfin
      have hlo1 : lo ≤ l.length := by omega
      go_wp2_with fail
      go_loopw [13] (fun kv wi => ∃ (k c : Nat), kv = .int .i64 (c : Int) ∧ Hid (c = a + k) ∧ c ≤ lo - 1 ∧ Hid (Dat wi s q act (upTo a k l) ∧ Kept s.owns w wi)) (fun kv _ => lo - (intOf kv).toNat)
      case atStart => exact ⟨0, a, rfl, rfl, by omega, HDat.out⟩
      case round =>
        obtain ⟨k, c, rfl, hck, hc, HI2⟩ := hrel
        have hlen := upTo_len a k l
        by_cases hcl : c < lo - 1
        · have HS : Hid (upTo a (k + 1) l = swp (upTo a k l) c (c + 1)) := by rw [Hid, hck.out]; rfl
          generalize upTo a k l = cur at *
          have hia : c + 1 < cur.length := by omega
          have hib : c < cur.length := by omega
          obtain ⟨a1, a2, a3, a4⟩ := HI2.out.1.at hia
          obtain ⟨_, b2, b3, b4⟩ := HI2.out.1.at hib
          have x0 : (0 : Int) ≤ (c : Int) + 1 := by omega
          have x1 : (c : Int) + 1 < l.length := by omega
          have x2 : ((c : Int) + 1).toNat = c + 1 := by omega
          have x3 : (c : Int) < l.length := by omega
          have x4 : (c : Int) < (lo : Int) - 1 := by omega
          have hso : s.owns s.b := Sl.owns_b (by omega)
          have HTH := Lib.hid (fun W (g : Grow wr W) => (HI2.out.1.grow g).there hib)
          have HTH2 := Lib.hid (fun W (g : Grow wr W) => (HI2.out.1.grow g).there2 hib hia)
          have HSW := Lib.hid (fun W (g : Grow wr W) => (HI2.out.1.grow g).swap hib hia)
          have HK := Lib.hid HI2.out.2
          clear HI2
          generalize rowAt cur (c + 1) = rb at *
          generalize rowAt cur c = ra at *
          generalize hic : c + 1 = ic at *
          go_wp2_with fail
          have hth := HTH.out wr.drew grI
          have hth2 := HTH2.out wr.drew grI
          go_region
          go_wp2_with fail
          go_roundw
          case rel => exact ⟨k + 1, ic, by rw [← hic]; go_num, by have := hck.out; rw [Hid]; omega, by omega, by rw [HS.out]; exact HSW.out _ grI, Kept.swap (HK.out.trans (o2 := fun _ => False) (Grow.kept _ (show Grow wr wr.drew from grI)) (fun _ _ h => h.elim)) _ hso _ _ _ _⟩
          case measure => simp [intOf]; omega
        · have hk : lo - 1 - a = k := by have := hck.out; omega
          have HK9 := Lib.hid hk
          clear hk
          have x4 : ((c : Int) < (lo : Int) - 1) = False := by simp; omega
          go_wp2_with fail
          refine bodyPost_ret (results_none rfl _ _ _) rfl ?_
          exact ⟨rfl, by rw [HK9.out]; exact HI2.out.1, HI2.out.2⟩
end Go.Proofs.YtgobdndjemicjaaGreatDoor
namespace Go.Proofs.YtgobdndjemicjaaGreatDoor
open Go Go.RowKit Go.Shelf

set_option maxRecDepth 100000 in
set_option maxHeartbeats 4000000 in
theorem sym_two (w : World) (s : Sl) (q : Nat) (act : Int) (l : LR) (D : Dat w s q act l) (hl : l.length ≤ 1048576) (a m b : Nat) (ha : m - a ≠ 1) (ham : a < m) (hbm : b - m = 1) (hb : b ≤ l.length) :
    Calls Tryz.prog 237 #[s.val, .int .i64 (a : Int), .int .i64 (m : Int), .int .i64 (b : Int), cmpV q] w fun e w' => e = .returned (.tuple #[]) ∧ Dat w' s q act (dnTo m (m - bsG (fun h => !ltP act (rowAt l m) (rowAt l h)) (m - a + 1) a m) l) ∧ Kept s.owns w w' := by
  have HD := Lib.hid D
  have hin := bsG_in (fun h => !ltP act (rowAt l m) (rowAt l h)) (m - a + 1) a m (by omega)
  generalize hB : bsG (fun h => !ltP act (rowAt l m) (rowAt l h)) (m - a + 1) a m = B at *
  have HB := Lib.hid hB
  have hsn := D.rows.len
  have e1 : ((m : Int) - (a : Int) == 1) = false := by simp; omega
  have e1' : ¬ (m : Int) - (a : Int) = 1 := by omega
  have hbm1 : b = m + 1 := by omega
  clear D hB ha hbm
  unfold cmpV
  go_enter Tryz.func237, Tryz.ntmps237
  go_wp2_with fail
  go_loopw [14, 15] (fun iv jv wr => ∃ (g lo hi : Nat), iv = .int .i64 (lo : Int) ∧ jv = .int .i64 (hi : Int) ∧ a ≤ lo ∧ lo ≤ hi ∧ hi ≤ m ∧ Hid (hi - lo < g) ∧ Hid (bsG (fun h => !ltP act (rowAt l m) (rowAt l h)) g lo hi = B) ∧ Hid (Dat wr s q act l ∧ Kept s.owns w wr)) (fun iv jv _ => (intOf jv - intOf iv).toNat)
  case atStart => exact ⟨m - a + 1, a, m, rfl, rfl, Nat.le_refl _, by omega, Nat.le_refl _, by rw [Hid]; omega, HB.out, HD.out, Kept.refl _ _⟩
  case round =>
    obtain ⟨g, lo, hi, rfl, rfl, hml, hlh, hhb, hg, HG, HI⟩ := hrel
    by_cases hlt : lo < hi
    · obtain ⟨g', rfl⟩ : ∃ g', g = g' + 1 := ⟨g - 1, by have := hg.out; omega⟩
      have hdr := HG.out
      rw [bsG, if_pos hlt] at hdr
      obtain ⟨h, hh⟩ : ∃ h, h = (lo + hi) / 2 := ⟨_, rfl⟩
      rw [← hh] at hdr
      have he : ((lo : Int) + (hi : Int)) / 2 = (h : Int) := by omega
      have hlo : lo ≤ h := by omega
      have hhi : h < hi := by omega
      have hhl : h < l.length := by omega
      have hal : m < l.length := by omega
      obtain ⟨a1, a2, a3, a4⟩ := HI.out.1.at hhl
      obtain ⟨_, b2, b3, b4⟩ := HI.out.1.at hal
      have x1 : (h : Int) < l.length := by omega
      have x2 : (m : Int) < l.length := by omega
      have x3 : (lo : Int) < (hi : Int) := by omega
      have HCmp := Lib.hid (fun W (g : Grow wr W) => pcmp_any W q act ((HI.out.1.grow g).act) (rowAt l m) (rowAt l h) b2 a2)
      have HDat := Lib.hid HI.out
      clear HI HG
      cases hlp : ltP act (rowAt l m) (rowAt l h) with
      | true =>
        have hneg := cmpP_lt hlp
        rw [if_neg (by rw [hlp]; simp)] at hdr
        have HDR := Lib.hid hdr
        clear hdr hlp hh
        generalize hcv : cmpP act (rowAt l m) (rowAt l h) = cv at *
        generalize hra : rowAt l h = ra at *
        generalize hrb : rowAt l m = rb at *
        clear hcv hra
        go_wp2_with fail
        refine wp_region_grow (by kernel_rfl) (by kernel_rfl) ?_; (repeat (go_big_quiet_step ( (go_at_call 138; first | refine Calls.grow2 (HCmp.out _ grI) | refine Calls.grow (HCmp.out _ grI)) ))); refine wpQuiet_nil ?_; rintro _ ⟨nx, rfl⟩
        go_wp2_with fail
        go_roundw
        case rel => exact ⟨g', lo, h, rfl, by first | rfl | go_num, hml, hlo, by omega, by have := hg.out; rw [Hid]; omega, HDR.out, HDat.out.1.grow grI, HDat.out.2.trans (o2 := fun _ => False) (Grow.kept _ (show Grow wr (wr.plus nx) from grI)) (fun _ _ h => h.elim)⟩
        case measure => simp [intOf]; omega
      | false =>
        have hneg := cmpP_ge hlp
        rw [if_pos (by rw [hlp]; rfl)] at hdr
        have hneg' : (cmpP act (rowAt l m) (rowAt l h) < 0) = False := by simp; exact hneg
        have HDR := Lib.hid hdr
        clear hdr hlp hh hneg
        generalize hcv : cmpP act (rowAt l m) (rowAt l h) = cv at *
        generalize hra : rowAt l h = ra at *
        generalize hrb : rowAt l m = rb at *
        clear hcv hra
        go_wp2_with fail
        refine wp_region_grow (by kernel_rfl) (by kernel_rfl) ?_; (repeat (go_big_quiet_step ( (go_at_call 138; first | refine Calls.grow2 (HCmp.out _ grI) | refine Calls.grow (HCmp.out _ grI)) ))); refine wpQuiet_nil ?_; rintro _ ⟨nx, rfl⟩
        go_wp2_with fail
        go_roundw
        case rel => exact ⟨g', h + 1, hi, by go_num, rfl, by omega, by omega, hhb, by have := hg.out; rw [Hid]; omega, HDR.out, HDat.out.1.grow grI, HDat.out.2.trans (o2 := fun _ => False) (Grow.kept _ (show Grow wr (wr.plus nx) from grI)) (fun _ _ h => h.elim)⟩
        case measure => simp [intOf]; omega
    · have hfin : lo = B := by
        rw [← HG.out]
        cases g with
        | zero => rfl
        | succ g => rw [bsG, if_neg hlt]
      have hlt' : ((lo : Int) < (hi : Int)) = False := by simp; omega
      have HDat := Lib.hid HI.out
      clear HI HG HB
      subst hfin
      have hlo1 : lo ≤ m := by omega
      go_wp2_with fail
      go_loopw [17] (fun kv wi => ∃ (k c : Nat), kv = .int .i64 (c : Int) ∧ Hid (c = m - k ∧ k ≤ m - lo) ∧ c ≤ m ∧ lo ≤ c ∧ Hid (Dat wi s q act (dnTo m k l) ∧ Kept s.owns w wi)) (fun kv _ => (intOf kv).toNat)
      case atStart => exact ⟨0, m, rfl, ⟨by omega, by omega⟩, Nat.le_refl _, by omega, HDat.out⟩
      case round =>
        obtain ⟨k, c, rfl, hck, hcm, hloc, HI2⟩ := hrel
        have hlen := dnTo_len m k l
        by_cases hcl : lo < c
        · have HS : Hid (dnTo m (k + 1) l = swp (dnTo m k l) c (c - 1)) := by rw [Hid, hck.out.1]; rfl
          generalize dnTo m k l = cur at *
          have hia : c < cur.length := by omega
          have hib : c - 1 < cur.length := by omega
          obtain ⟨a1, a2, a3, a4⟩ := HI2.out.1.at hia
          obtain ⟨_, b2, b3, b4⟩ := HI2.out.1.at hib
          have x0 : (0 : Int) ≤ (c : Int) - 1 := by omega
          have x1 : (c : Int) - 1 < l.length := by omega
          have x2 : ((c : Int) - 1).toNat = c - 1 := by omega
          have x3 : (c : Int) < l.length := by omega
          have x4 : (lo : Int) < (c : Int) := by omega
          have y0 : (1 : Int) ≤ (c : Int) := by omega
          have y1 : 1 ≤ c := by omega
          have y2 : 0 < c := by omega
          have y4 : (c : Int) ≤ l.length := by omega
          have y5 : c ≤ l.length := by omega
          have hso : s.owns s.b := Sl.owns_b (by omega)
          have HTH := Lib.hid (fun W (g : Grow wr W) => (HI2.out.1.grow g).there hia)
          have HTH2 := Lib.hid (fun W (g : Grow wr W) => (HI2.out.1.grow g).there2 hia hib)
          have HSW := Lib.hid (fun W (g : Grow wr W) => (HI2.out.1.grow g).swap hia hib)
          have HK := Lib.hid HI2.out.2
          clear HI2
          generalize rowAt cur (c - 1) = rb at *
          generalize rowAt cur c = ra at *
          generalize hic : c - 1 = ic at *
          have HIC : Hid ((c : Int) - 1 = (ic : Int) ∧ ic + 1 = c) := by rw [Hid]; omega
          clear hic
          go_wp2_with fail
          have hth := HTH.out wr.drew grI
          have hth2 := HTH2.out wr.drew grI
          go_region
          go_wp2_with fail
          go_roundw
          case rel => exact ⟨k + 1, ic, by rw [HIC.out.1], by have := hck.out; have := HIC.out.2; rw [Hid]; omega, by have := HIC.out.2; omega, by have := HIC.out.2; omega, by rw [HS.out]; exact HSW.out _ grI, Kept.swap (HK.out.trans (o2 := fun _ => False) (Grow.kept _ (show Grow wr wr.drew from grI)) (fun _ _ h => h.elim)) _ hso _ _ _ _⟩
          case measure => have := HIC.out.2; simp [intOf]; omega
        · have hk : m - lo = k := by have := hck.out; omega
          have HK9 := Lib.hid hk
          clear hk
          have x4 : ((lo : Int) < (c : Int)) = False := by simp; omega
          go_wp2_with fail
          refine bodyPost_ret (results_none rfl _ _ _) rfl ?_
          exact ⟨rfl, by rw [HK9.out]; exact HI2.out.1, HI2.out.2⟩
end Go.Proofs.YtgobdndjemicjaaGreatDoor
namespace Go.Proofs.YtgobdndjemicjaaGreatDoor
open Go Go.RowKit Go.Shelf

theorem swap_in {a m b mid c s0 r0 : Nat} (ham : a < m) (hmb : m < b) (hmid : mid = (a + b) / 2) (hs : s0 = if mid < m then mid + m - b else a) (hr : r0 = if mid < m then mid else m) (h0 : s0 ≤ c) (h1 : c < r0) : mid + m - 1 - c < b ∧ c < b ∧ a ≤ c ∧ c + 1 ≤ mid + m := by
  split at hs <;> split at hr <;> omega
theorem swap_st {a m b mid st s0 r0 : Nat} (ham : a < m) (hmb : m < b) (hmid : mid = (a + b) / 2) (hs : s0 = if mid < m then mid + m - b else a) (hr : r0 = if mid < m then mid else m) (h0 : s0 ≤ st) (h1 : st ≤ r0) : mid + m - st ≤ b ∧ a ≤ st ∧ st ≤ mid + m ∧ s0 ≤ r0 := by
  split at hs <;> split at hr <;> omega
set_option maxRecDepth 100000 in
set_option maxHeartbeats 8000000 in
theorem sym_many (g : Nat) (w : World) (s : Sl) (q : Nat) (act : Int) (l : LR) (D : Dat w s q act l) (hl : l.length ≤ 1048576) (a m b : Nat) (ha : m - a ≠ 1) (hbm : b - m ≠ 1) (ham : a < m) (hmb : m < b) (hb : b ≤ l.length) (hg : b - a ≤ g + 1)
    (IH : ∀ (W : World) (l : LR) (a m b : Nat), Dat W s q act l → l.length ≤ 1048576 → a < m → m < b → b ≤ l.length → b - a ≤ g → Calls Tryz.prog 237 #[s.val, .int .i64 (a : Int), .int .i64 (m : Int), .int .i64 (b : Int), cmpV q] W fun e w' => e = .returned (.tuple #[]) ∧ Dat w' s q act (symG (ltP act) g a m b l) ∧ Kept s.owns W w') :
    Calls Tryz.prog 237 #[s.val, .int .i64 (a : Int), .int .i64 (m : Int), .int .i64 (b : Int), cmpV q] w fun e w' => e = .returned (.tuple #[]) ∧ Dat w' s q act (symG (ltP act) (g + 1) a m b l) ∧ Kept s.owns w w' := by
  have HD := Lib.hid D
  have hsn := D.rows.len
  generalize hT : symG (ltP act) (g + 1) a m b l = T
  rw [symG, if_neg ha, if_neg hbm] at hT
  simp only at hT
  obtain ⟨mid, hmid⟩ : ∃ mid, mid = (a + b) / 2 := ⟨_, rfl⟩
  rw [← hmid] at hT
  obtain ⟨s0, hs0⟩ : ∃ s0, s0 = if mid < m then mid + m - b else a := ⟨_, rfl⟩
  obtain ⟨r0, hr0⟩ : ∃ r0, r0 = if mid < m then mid else m := ⟨_, rfl⟩
  rw [← hs0, ← hr0] at hT
  have hsr : s0 ≤ r0 := by split at hs0 <;> split at hr0 <;> omega
  have hin := bsG_in (fun c => !ltP act (rowAt l (mid + m - 1 - c)) (rowAt l c)) (r0 - s0 + 1) s0 r0 hsr
  obtain ⟨st, hst⟩ : ∃ st, st = bsG (fun c => !ltP act (rowAt l (mid + m - 1 - c)) (rowAt l c)) (r0 - s0 + 1) s0 r0 := ⟨_, rfl⟩
  rw [← hst] at hT hin
  have HST := Lib.hid hst
  have HT := Lib.hid hT
  have HIN := Lib.hid (swap_st ham hmb hmid hs0 hr0 hin.1 hin.2)
  have HSI := Lib.hid (fun c h0 h1 => swap_in (c := c) ham hmb hmid hs0 hr0 h0 h1)
  have e1 : ((m : Int) - (a : Int) == 1) = false := by simp; omega
  have e1' : ¬ (m : Int) - (a : Int) = 1 := by omega
  have e2 : ((b : Int) - (m : Int) == 1) = false := by simp; omega
  have e2' : ¬ (b : Int) - (m : Int) = 1 := by omega
  have e3 : ((a : Int) + (b : Int)) / 2 = (mid : Int) := by omega
  have hmidb : mid < b := by omega
  have hmid1 : mid ≤ 1048576 := by omega
  have HIH := Lib.hid IH
  have HGG := Lib.hid (And.intro hg hmid)
  clear D hT hst IH ha hbm hmid hg
  -- the rest, behind the search
  have hrot := fun (W : World) (D : Dat W s q act l) (h1 : st < m) (h2 : m < mid + m - st) => rot_any W s q act l D hl st m (mid + m - st) h1 h2 (by have := HIN.out; omega) (cmpV q)
  have HRot := Lib.hid hrot
  clear hrot
  unfold cmpV at *
  by_cases hmm : mid < m
  · rw [if_pos hmm] at hs0 hr0
    have hmm' : (mid : Int) < (m : Int) := by omega
    have HN1 : Hid ((mid : Int) + (m : Int) - (b : Int) = (s0 : Int)) := by rw [Hid]; omega
    subst r0
    go_enter Tryz.func237, Tryz.ntmps237
    go_wp2_with fail
    go_loopw [20, 21] (fun iv jv wr => ∃ (g' lo hi : Nat), iv = .int .i64 (lo : Int) ∧ jv = .int .i64 (hi : Int) ∧ s0 ≤ lo ∧ lo ≤ hi ∧ hi ≤ mid ∧ Hid (hi - lo < g') ∧ Hid (bsG (fun c => !ltP act (rowAt l (mid + m - 1 - c)) (rowAt l c)) g' lo hi = st) ∧ Hid (Dat wr s q act l ∧ Kept s.owns w wr)) (fun iv jv _ => (intOf jv - intOf iv).toNat)
    case atStart => exact ⟨mid - s0 + 1, s0, mid, by rw [HN1.out], rfl, Nat.le_refl _, hsr, Nat.le_refl _, by rw [Hid]; omega, HST.out.symm, HD.out, Kept.refl _ _⟩
    case round =>
      obtain ⟨g', lo, hi, rfl, rfl, hml, hlh, hhb, hg, HG, HI⟩ := hrel
      by_cases hlt : lo < hi
      · obtain ⟨g'', rfl⟩ : ∃ g'', g' = g'' + 1 := ⟨g' - 1, by have := hg.out; omega⟩
        have hdr := HG.out
        rw [bsG, if_pos hlt] at hdr
        obtain ⟨h, hh⟩ : ∃ h, h = (lo + hi) / 2 := ⟨_, rfl⟩
        rw [← hh] at hdr
        have he : ((lo : Int) + (hi : Int)) / 2 = (h : Int) := by omega
        have hlo : lo ≤ h := by omega
        have hhi : h < hi := by omega
        obtain ⟨i1, i2, i3, i4⟩ := HSI.out h (by omega) (by omega)
        obtain ⟨pc, hpc⟩ : ∃ pc, pc = mid + m - 1 - h := ⟨_, rfl⟩
        rw [← hpc] at i1
        have hhl : h < l.length := by omega
        have hpl : pc < l.length := by omega
        obtain ⟨a1, a2, a3, a4⟩ := HI.out.1.at hhl
        obtain ⟨_, b2, b3, b4⟩ := HI.out.1.at hpl
        have x1 : (h : Int) < l.length := by omega
        have x2 : (pc : Int) < l.length := by omega
        have x3 : (lo : Int) < (hi : Int) := by omega
        have he2 : (mid : Int) + (m : Int) - 1 - (h : Int) = (pc : Int) := by omega
        have HCmp := Lib.hid (fun W (g : Grow wr W) => pcmp_any W q act ((HI.out.1.grow g).act) (rowAt l pc) (rowAt l h) b2 a2)
        have HDat := Lib.hid HI.out
        simp only [← hpc] at hdr
        clear HI HG HT HIH HRot HGG HSI HIN i1 i2 i3 i4
        cases hlp : ltP act (rowAt l pc) (rowAt l h) with
        | true =>
          have hneg := cmpP_lt hlp
          rw [if_neg (by rw [hlp]; simp)] at hdr
          have HDR := Lib.hid hdr
          clear hdr hlp hh hpc
          generalize hcv : cmpP act (rowAt l pc) (rowAt l h) = cv at *
          generalize hra : rowAt l h = ra at *
          generalize hrb : rowAt l pc = rb at *
          clear hcv hra hrb HST
          go_wp2_with fail
          refine wp_region_grow (by kernel_rfl) (by kernel_rfl) ?_; (repeat (go_big_quiet_step ( (go_at_call 138; first | refine Calls.grow2 (HCmp.out _ grI) | refine Calls.grow (HCmp.out _ grI)) ))); refine wpQuiet_nil ?_; rintro _ ⟨nx, rfl⟩
          go_wp2_with fail
          go_roundw
          case rel => exact ⟨g'', lo, h, rfl, by first | rfl | go_num, hml, hlo, by omega, by have := hg.out; rw [Hid]; omega, HDR.out, HDat.out.1.grow grI, HDat.out.2.trans (o2 := fun _ => False) (Grow.kept _ (show Grow wr (wr.plus nx) from grI)) (fun _ _ h => h.elim)⟩
          case measure => simp [intOf]; omega
        | false =>
          have hneg := cmpP_ge hlp
          rw [if_pos (by rw [hlp]; rfl)] at hdr
          have hneg' : (cmpP act (rowAt l pc) (rowAt l h) < 0) = False := by simp; exact hneg
          have HDR := Lib.hid hdr
          clear hdr hlp hh hneg hpc
          generalize hcv : cmpP act (rowAt l pc) (rowAt l h) = cv at *
          generalize hra : rowAt l h = ra at *
          generalize hrb : rowAt l pc = rb at *
          clear hcv hra hrb HST
          go_wp2_with fail
          refine wp_region_grow (by kernel_rfl) (by kernel_rfl) ?_; (repeat (go_big_quiet_step ( (go_at_call 138; first | refine Calls.grow2 (HCmp.out _ grI) | refine Calls.grow (HCmp.out _ grI)) ))); refine wpQuiet_nil ?_; rintro _ ⟨nx, rfl⟩
          go_wp2_with fail
          go_roundw
          case rel => exact ⟨g'', h + 1, hi, by go_num, rfl, by omega, by omega, hhb, by have := hg.out; rw [Hid]; omega, HDR.out, HDat.out.1.grow grI, HDat.out.2.trans (o2 := fun _ => False) (Grow.kept _ (show Grow wr (wr.plus nx) from grI)) (fun _ _ h => h.elim)⟩
          case measure => simp [intOf]; omega
      · have hfin : lo = st := by
          rw [← HG.out]
          cases g' with
          | zero => rfl
          | succ g' => rw [bsG, if_neg hlt]
        have hlt' : ((lo : Int) < (hi : Int)) = False := by simp; omega
        obtain ⟨hb1, hb2, hb3, hb4⟩ := HIN.out
        clear HST HIN HSI HN1
        subst lo
        obtain ⟨en, hen⟩ : ∃ en, en = mid + m - st := ⟨_, rfl⟩
        have he3' : (mid : Int) + (m : Int) - (st : Int) = (en : Int) := by omega
        by_cases d1 : st < mid
        · by_cases d2 : a < st
          · by_cases d3 : en < b
            · have f1 : (st : Int) < (m : Int) := by omega
              have g1 : st < m := by omega
              have f2 : (m : Int) < (en : Int) := by omega
              have g2 : m < en := by omega
              have f3 : (st : Int) < (mid : Int) := by omega
              have g3 : st < mid := by omega
              have f4 : (a : Int) < (st : Int) := by omega
              have g4 : a < st := by omega
              have f5 : (mid : Int) < (en : Int) := by omega
              have g5 : mid < en := by omega
              have f6 : (en : Int) < (b : Int) := by omega
              have g6 : en < b := by omega
              have hdr := HT.out
              simp only [if_pos (show st < m ∧ m < mid + m - st from by omega), if_pos (show a < st ∧ st < mid from by omega), if_pos (show mid < mid + m - st ∧ mid + m - st < b from by omega)] at hdr
              have HTT := Lib.hid hdr
              have HDat := Lib.hid HI.out
              have HR1 := Lib.hid (fun W D => HRot.out W D (by omega) (by omega))
              clear HI hdr HT HG HRot
              have hl1 := rotG_len m (mid + m - st - st) (m - st) (mid + m - st - m) l
              have hl2 := (symG_len (ltP act) g a st mid (rotG m (mid + m - st - st) (m - st) (mid + m - st - m) l)).trans hl1
              have HR2 := Lib.hid (fun W D => HIH.out W (rotG m (mid + m - st - st) (m - st) (mid + m - st - m) l) a st mid D (by omega) (by omega) (by omega) (by omega) (by have := HGG.out; omega))
              have HR3 := Lib.hid (fun W D => HIH.out W (symG (ltP act) g a st mid (rotG m (mid + m - st - st) (m - st) (mid + m - st - m) l)) mid (mid + m - st) b D (by omega) (by omega) (by omega) (by omega) (by have := HGG.out; omega))
              rw [← hen] at HR1
              rw [← hen] at HR2
              rw [← hen] at HR3
              rw [← hen] at HTT
              clear HIH HGG hl1 hl2 hen
              go_wp2_with fail
              refine (HR1.out _ (HDat.out.1.grow grI)).mono ?_
              rintro e' w11 ⟨rfl, hD, hK⟩
              have HDat1 := Lib.hid (And.intro hD (HDat.out.2.trans (o2 := s.owns) (Kept.trans (o2 := s.owns) (Grow.kept _ grI) hK (fun _ _ h => h)) (fun _ _ h => h)))
              clear hD hK HDat
              go_wp2_with fail
              refine (HR2.out _ (HDat1.out.1.grow grI)).mono ?_
              rintro e' w22 ⟨rfl, hD, hK⟩
              have HDat2 := Lib.hid (And.intro hD (HDat1.out.2.trans (o2 := s.owns) (Kept.trans (o2 := s.owns) (Grow.kept _ grI) hK (fun _ _ h => h)) (fun _ _ h => h)))
              clear hD hK HDat1
              go_wp2_with fail
              refine (HR3.out _ (HDat2.out.1.grow grI)).mono ?_
              rintro e' w33 ⟨rfl, hD, hK⟩
              have HDat3 := Lib.hid (And.intro hD (HDat2.out.2.trans (o2 := s.owns) (Kept.trans (o2 := s.owns) (Grow.kept _ grI) hK (fun _ _ h => h)) (fun _ _ h => h)))
              clear hD hK HDat2
              go_wp2_with fail
              go_end0
              exact ⟨rfl, by rw [← HTT.out]; exact HDat3.out.1, HDat3.out.2⟩
            · have f1 : (st : Int) < (m : Int) := by omega
              have g1 : st < m := by omega
              have f2 : (m : Int) < (en : Int) := by omega
              have g2 : m < en := by omega
              have f3 : (st : Int) < (mid : Int) := by omega
              have g3 : st < mid := by omega
              have f4 : (a : Int) < (st : Int) := by omega
              have g4 : a < st := by omega
              have f7 : (mid : Int) < (en : Int) := by omega
              have g7 : mid < en := by omega
              have f8 : ((en : Int) < (b : Int)) = False := by simp; omega
              have g8 : (en < b) = False := by simp; omega
              have hdr := HT.out
              simp only [if_pos (show st < m ∧ m < mid + m - st from by omega), if_pos (show a < st ∧ st < mid from by omega), if_neg (show ¬ (mid < mid + m - st ∧ mid + m - st < b) from by omega)] at hdr
              have HTT := Lib.hid hdr
              have HDat := Lib.hid HI.out
              have HR1 := Lib.hid (fun W D => HRot.out W D (by omega) (by omega))
              clear HI hdr HT HG HRot
              have hl1 := rotG_len m (mid + m - st - st) (m - st) (mid + m - st - m) l
              have hl2 := (symG_len (ltP act) g a st mid (rotG m (mid + m - st - st) (m - st) (mid + m - st - m) l)).trans hl1
              have HR2 := Lib.hid (fun W D => HIH.out W (rotG m (mid + m - st - st) (m - st) (mid + m - st - m) l) a st mid D (by omega) (by omega) (by omega) (by omega) (by have := HGG.out; omega))
              rw [← hen] at HR1
              rw [← hen] at HR2
              rw [← hen] at HTT
              clear HIH HGG hl1 hl2 hen
              go_wp2_with fail
              refine (HR1.out _ (HDat.out.1.grow grI)).mono ?_
              rintro e' w11 ⟨rfl, hD, hK⟩
              have HDat1 := Lib.hid (And.intro hD (HDat.out.2.trans (o2 := s.owns) (Kept.trans (o2 := s.owns) (Grow.kept _ grI) hK (fun _ _ h => h)) (fun _ _ h => h)))
              clear hD hK HDat
              go_wp2_with fail
              refine (HR2.out _ (HDat1.out.1.grow grI)).mono ?_
              rintro e' w22 ⟨rfl, hD, hK⟩
              have HDat2 := Lib.hid (And.intro hD (HDat1.out.2.trans (o2 := s.owns) (Kept.trans (o2 := s.owns) (Grow.kept _ grI) hK (fun _ _ h => h)) (fun _ _ h => h)))
              clear hD hK HDat1
              go_wp2_with fail
              go_end0
              exact ⟨rfl, by rw [← HTT.out]; exact HDat2.out.1, HDat2.out.2⟩
          · by_cases d3 : en < b
            · have f1 : (st : Int) < (m : Int) := by omega
              have g1 : st < m := by omega
              have f2 : (m : Int) < (en : Int) := by omega
              have g2 : m < en := by omega
              have f3 : (st : Int) < (mid : Int) := by omega
              have g3 : st < mid := by omega
              have f9 : ((a : Int) < (st : Int)) = False := by simp; omega
              have g9 : (a < st) = False := by simp; omega
              have f10 : (mid : Int) < (en : Int) := by omega
              have g10 : mid < en := by omega
              have f11 : (en : Int) < (b : Int) := by omega
              have g11 : en < b := by omega
              have hdr := HT.out
              simp only [if_pos (show st < m ∧ m < mid + m - st from by omega), if_neg (show ¬ (a < st ∧ st < mid) from by omega), if_pos (show mid < mid + m - st ∧ mid + m - st < b from by omega)] at hdr
              have HTT := Lib.hid hdr
              have HDat := Lib.hid HI.out
              have HR1 := Lib.hid (fun W D => HRot.out W D (by omega) (by omega))
              clear HI hdr HT HG HRot
              have hl1 := rotG_len m (mid + m - st - st) (m - st) (mid + m - st - m) l
              have hl2 := hl1
              have HR3 := Lib.hid (fun W D => HIH.out W (rotG m (mid + m - st - st) (m - st) (mid + m - st - m) l) mid (mid + m - st) b D (by omega) (by omega) (by omega) (by omega) (by have := HGG.out; omega))
              rw [← hen] at HR1
              rw [← hen] at HR3
              rw [← hen] at HTT
              clear HIH HGG hl1 hl2 hen
              go_wp2_with fail
              refine (HR1.out _ (HDat.out.1.grow grI)).mono ?_
              rintro e' w11 ⟨rfl, hD, hK⟩
              have HDat1 := Lib.hid (And.intro hD (HDat.out.2.trans (o2 := s.owns) (Kept.trans (o2 := s.owns) (Grow.kept _ grI) hK (fun _ _ h => h)) (fun _ _ h => h)))
              clear hD hK HDat
              go_wp2_with fail
              refine (HR3.out _ (HDat1.out.1.grow grI)).mono ?_
              rintro e' w22 ⟨rfl, hD, hK⟩
              have HDat2 := Lib.hid (And.intro hD (HDat1.out.2.trans (o2 := s.owns) (Kept.trans (o2 := s.owns) (Grow.kept _ grI) hK (fun _ _ h => h)) (fun _ _ h => h)))
              clear hD hK HDat1
              go_wp2_with fail
              go_end0
              exact ⟨rfl, by rw [← HTT.out]; exact HDat2.out.1, HDat2.out.2⟩
            · have f1 : (st : Int) < (m : Int) := by omega
              have g1 : st < m := by omega
              have f2 : (m : Int) < (en : Int) := by omega
              have g2 : m < en := by omega
              have f3 : (st : Int) < (mid : Int) := by omega
              have g3 : st < mid := by omega
              have f9 : ((a : Int) < (st : Int)) = False := by simp; omega
              have g9 : (a < st) = False := by simp; omega
              have f12 : (mid : Int) < (en : Int) := by omega
              have g12 : mid < en := by omega
              have f13 : ((en : Int) < (b : Int)) = False := by simp; omega
              have g13 : (en < b) = False := by simp; omega
              have hdr := HT.out
              simp only [if_pos (show st < m ∧ m < mid + m - st from by omega), if_neg (show ¬ (a < st ∧ st < mid) from by omega), if_neg (show ¬ (mid < mid + m - st ∧ mid + m - st < b) from by omega)] at hdr
              have HTT := Lib.hid hdr
              have HDat := Lib.hid HI.out
              have HR1 := Lib.hid (fun W D => HRot.out W D (by omega) (by omega))
              clear HI hdr HT HG HRot
              have hl1 := rotG_len m (mid + m - st - st) (m - st) (mid + m - st - m) l
              have hl2 := hl1
              rw [← hen] at HR1
              rw [← hen] at HTT
              clear HIH HGG hl1 hl2 hen
              go_wp2_with fail
              refine (HR1.out _ (HDat.out.1.grow grI)).mono ?_
              rintro e' w11 ⟨rfl, hD, hK⟩
              have HDat1 := Lib.hid (And.intro hD (HDat.out.2.trans (o2 := s.owns) (Kept.trans (o2 := s.owns) (Grow.kept _ grI) hK (fun _ _ h => h)) (fun _ _ h => h)))
              clear hD hK HDat
              go_wp2_with fail
              go_end0
              exact ⟨rfl, by rw [← HTT.out]; exact HDat1.out.1, HDat1.out.2⟩
        · by_cases d3 : en < b
          · have f14 : (st : Int) < (m : Int) := by omega
            have g14 : st < m := by omega
            have f15 : ((m : Int) < (en : Int)) = False := by simp; omega
            have g15 : (m < en) = False := by simp; omega
            have f16 : ((st : Int) < (mid : Int)) = False := by simp; omega
            have g16 : (st < mid) = False := by simp; omega
            have f17 : (a : Int) < (st : Int) := by omega
            have g17 : a < st := by omega
            have f18 : (mid : Int) < (en : Int) := by omega
            have g18 : mid < en := by omega
            have f19 : (en : Int) < (b : Int) := by omega
            have g19 : en < b := by omega
            have hdr := HT.out
            simp only [if_neg (show ¬ (st < m ∧ m < mid + m - st) from by omega), if_neg (show ¬ (a < st ∧ st < mid) from by omega), if_pos (show mid < mid + m - st ∧ mid + m - st < b from by omega)] at hdr
            have HTT := Lib.hid hdr
            have HDat := Lib.hid HI.out
            clear HI hdr HT HG HRot
            have hl1 : l.length = l.length := rfl
            have hl2 := hl1
            have HR3 := Lib.hid (fun W D => HIH.out W l mid (mid + m - st) b D (by omega) (by omega) (by omega) (by omega) (by have := HGG.out; omega))
            rw [← hen] at HR3
            rw [← hen] at HTT
            clear HIH HGG hl1 hl2 hen
            go_wp2_with fail
            refine (HR3.out _ (HDat.out.1.grow grI)).mono ?_
            rintro e' w11 ⟨rfl, hD, hK⟩
            have HDat1 := Lib.hid (And.intro hD (HDat.out.2.trans (o2 := s.owns) (Kept.trans (o2 := s.owns) (Grow.kept _ grI) hK (fun _ _ h => h)) (fun _ _ h => h)))
            clear hD hK HDat
            go_wp2_with fail
            go_end0
            exact ⟨rfl, by rw [← HTT.out]; exact HDat1.out.1, HDat1.out.2⟩
          · have f14 : (st : Int) < (m : Int) := by omega
            have g14 : st < m := by omega
            have f15 : ((m : Int) < (en : Int)) = False := by simp; omega
            have g15 : (m < en) = False := by simp; omega
            have f16 : ((st : Int) < (mid : Int)) = False := by simp; omega
            have g16 : (st < mid) = False := by simp; omega
            have f17 : (a : Int) < (st : Int) := by omega
            have g17 : a < st := by omega
            have f20 : (mid : Int) < (en : Int) := by omega
            have g20 : mid < en := by omega
            have f21 : ((en : Int) < (b : Int)) = False := by simp; omega
            have g21 : (en < b) = False := by simp; omega
            have hdr := HT.out
            simp only [if_neg (show ¬ (st < m ∧ m < mid + m - st) from by omega), if_neg (show ¬ (a < st ∧ st < mid) from by omega), if_neg (show ¬ (mid < mid + m - st ∧ mid + m - st < b) from by omega)] at hdr
            have HTT := Lib.hid hdr
            have HDat := Lib.hid HI.out
            clear HI hdr HT HG HRot
            have hl1 : l.length = l.length := rfl
            have hl2 := hl1
            clear HIH HGG hl1 hl2 hen
            go_wp2_with fail
            go_end0
            exact ⟨rfl, by rw [← HTT.out]; exact HDat.out.1, HDat.out.2⟩
  · rw [if_neg hmm] at hs0 hr0
    have hmm' : ((mid : Int) < (m : Int)) = False := by simp; omega
    subst r0
    subst s0
    go_enter Tryz.func237, Tryz.ntmps237
    go_wp2_with fail
    go_loopw [20, 21] (fun iv jv wr => ∃ (g' lo hi : Nat), iv = .int .i64 (lo : Int) ∧ jv = .int .i64 (hi : Int) ∧ a ≤ lo ∧ lo ≤ hi ∧ hi ≤ m ∧ Hid (hi - lo < g') ∧ Hid (bsG (fun c => !ltP act (rowAt l (mid + m - 1 - c)) (rowAt l c)) g' lo hi = st) ∧ Hid (Dat wr s q act l ∧ Kept s.owns w wr)) (fun iv jv _ => (intOf jv - intOf iv).toNat)
    case atStart => exact ⟨m - a + 1, a, m, rfl, rfl, Nat.le_refl _, hsr, Nat.le_refl _, by rw [Hid]; omega, HST.out.symm, HD.out, Kept.refl _ _⟩
    case round =>
      obtain ⟨g', lo, hi, rfl, rfl, hml, hlh, hhb, hg, HG, HI⟩ := hrel
      by_cases hlt : lo < hi
      · obtain ⟨g'', rfl⟩ : ∃ g'', g' = g'' + 1 := ⟨g' - 1, by have := hg.out; omega⟩
        have hdr := HG.out
        rw [bsG, if_pos hlt] at hdr
        obtain ⟨h, hh⟩ : ∃ h, h = (lo + hi) / 2 := ⟨_, rfl⟩
        rw [← hh] at hdr
        have he : ((lo : Int) + (hi : Int)) / 2 = (h : Int) := by omega
        have hlo : lo ≤ h := by omega
        have hhi : h < hi := by omega
        obtain ⟨i1, i2, i3, i4⟩ := HSI.out h (by omega) (by omega)
        obtain ⟨pc, hpc⟩ : ∃ pc, pc = mid + m - 1 - h := ⟨_, rfl⟩
        rw [← hpc] at i1
        have hhl : h < l.length := by omega
        have hpl : pc < l.length := by omega
        obtain ⟨a1, a2, a3, a4⟩ := HI.out.1.at hhl
        obtain ⟨_, b2, b3, b4⟩ := HI.out.1.at hpl
        have x1 : (h : Int) < l.length := by omega
        have x2 : (pc : Int) < l.length := by omega
        have x3 : (lo : Int) < (hi : Int) := by omega
        have he2 : (mid : Int) + (m : Int) - 1 - (h : Int) = (pc : Int) := by omega
        have HCmp := Lib.hid (fun W (g : Grow wr W) => pcmp_any W q act ((HI.out.1.grow g).act) (rowAt l pc) (rowAt l h) b2 a2)
        have HDat := Lib.hid HI.out
        simp only [← hpc] at hdr
        clear HI HG HT HIH HRot HGG HSI HIN i1 i2 i3 i4
        cases hlp : ltP act (rowAt l pc) (rowAt l h) with
        | true =>
          have hneg := cmpP_lt hlp
          rw [if_neg (by rw [hlp]; simp)] at hdr
          have HDR := Lib.hid hdr
          clear hdr hlp hh hpc
          generalize hcv : cmpP act (rowAt l pc) (rowAt l h) = cv at *
          generalize hra : rowAt l h = ra at *
          generalize hrb : rowAt l pc = rb at *
          clear hcv hra hrb HST
          go_wp2_with fail
          refine wp_region_grow (by kernel_rfl) (by kernel_rfl) ?_; (repeat (go_big_quiet_step ( (go_at_call 138; first | refine Calls.grow2 (HCmp.out _ grI) | refine Calls.grow (HCmp.out _ grI)) ))); refine wpQuiet_nil ?_; rintro _ ⟨nx, rfl⟩
          go_wp2_with fail
          go_roundw
          case rel => exact ⟨g'', lo, h, rfl, by first | rfl | go_num, hml, hlo, by omega, by have := hg.out; rw [Hid]; omega, HDR.out, HDat.out.1.grow grI, HDat.out.2.trans (o2 := fun _ => False) (Grow.kept _ (show Grow wr (wr.plus nx) from grI)) (fun _ _ h => h.elim)⟩
          case measure => simp [intOf]; omega
        | false =>
          have hneg := cmpP_ge hlp
          rw [if_pos (by rw [hlp]; rfl)] at hdr
          have hneg' : (cmpP act (rowAt l pc) (rowAt l h) < 0) = False := by simp; exact hneg
          have HDR := Lib.hid hdr
          clear hdr hlp hh hneg hpc
          generalize hcv : cmpP act (rowAt l pc) (rowAt l h) = cv at *
          generalize hra : rowAt l h = ra at *
          generalize hrb : rowAt l pc = rb at *
          clear hcv hra hrb HST
          go_wp2_with fail
          refine wp_region_grow (by kernel_rfl) (by kernel_rfl) ?_; (repeat (go_big_quiet_step ( (go_at_call 138; first | refine Calls.grow2 (HCmp.out _ grI) | refine Calls.grow (HCmp.out _ grI)) ))); refine wpQuiet_nil ?_; rintro _ ⟨nx, rfl⟩
          go_wp2_with fail
          go_roundw
          case rel => exact ⟨g'', h + 1, hi, by go_num, rfl, by omega, by omega, hhb, by have := hg.out; rw [Hid]; omega, HDR.out, HDat.out.1.grow grI, HDat.out.2.trans (o2 := fun _ => False) (Grow.kept _ (show Grow wr (wr.plus nx) from grI)) (fun _ _ h => h.elim)⟩
          case measure => simp [intOf]; omega
      · have hfin : lo = st := by
          rw [← HG.out]
          cases g' with
          | zero => rfl
          | succ g' => rw [bsG, if_neg hlt]
        have hlt' : ((lo : Int) < (hi : Int)) = False := by simp; omega
        obtain ⟨hb1, hb2, hb3, hb4⟩ := HIN.out
        clear HST HIN HSI
        subst lo
        obtain ⟨en, hen⟩ : ∃ en, en = mid + m - st := ⟨_, rfl⟩
        have he3' : (mid : Int) + (m : Int) - (st : Int) = (en : Int) := by omega
        by_cases d1 : st < m
        · by_cases d2 : a < st
          · by_cases d3 : en < b
            · have f22 : (st : Int) < (m : Int) := by omega
              have g22 : st < m := by omega
              have f23 : (m : Int) < (en : Int) := by omega
              have g23 : m < en := by omega
              have f24 : (st : Int) < (mid : Int) := by omega
              have g24 : st < mid := by omega
              have f25 : (a : Int) < (st : Int) := by omega
              have g25 : a < st := by omega
              have f26 : (mid : Int) < (en : Int) := by omega
              have g26 : mid < en := by omega
              have f27 : (en : Int) < (b : Int) := by omega
              have g27 : en < b := by omega
              have hdr := HT.out
              simp only [if_pos (show st < m ∧ m < mid + m - st from by omega), if_pos (show a < st ∧ st < mid from by omega), if_pos (show mid < mid + m - st ∧ mid + m - st < b from by omega)] at hdr
              have HTT := Lib.hid hdr
              have HDat := Lib.hid HI.out
              have HR1 := Lib.hid (fun W D => HRot.out W D (by omega) (by omega))
              clear HI hdr HT HG HRot
              have hl1 := rotG_len m (mid + m - st - st) (m - st) (mid + m - st - m) l
              have hl2 := (symG_len (ltP act) g a st mid (rotG m (mid + m - st - st) (m - st) (mid + m - st - m) l)).trans hl1
              have HR2 := Lib.hid (fun W D => HIH.out W (rotG m (mid + m - st - st) (m - st) (mid + m - st - m) l) a st mid D (by omega) (by omega) (by omega) (by omega) (by have := HGG.out; omega))
              have HR3 := Lib.hid (fun W D => HIH.out W (symG (ltP act) g a st mid (rotG m (mid + m - st - st) (m - st) (mid + m - st - m) l)) mid (mid + m - st) b D (by omega) (by omega) (by omega) (by omega) (by have := HGG.out; omega))
              rw [← hen] at HR1
              rw [← hen] at HR2
              rw [← hen] at HR3
              rw [← hen] at HTT
              clear HIH HGG hl1 hl2 hen
              go_wp2_with fail
              refine (HR1.out _ (HDat.out.1.grow grI)).mono ?_
              rintro e' w11 ⟨rfl, hD, hK⟩
              have HDat1 := Lib.hid (And.intro hD (HDat.out.2.trans (o2 := s.owns) (Kept.trans (o2 := s.owns) (Grow.kept _ grI) hK (fun _ _ h => h)) (fun _ _ h => h)))
              clear hD hK HDat
              go_wp2_with fail
              refine (HR2.out _ (HDat1.out.1.grow grI)).mono ?_
              rintro e' w22 ⟨rfl, hD, hK⟩
              have HDat2 := Lib.hid (And.intro hD (HDat1.out.2.trans (o2 := s.owns) (Kept.trans (o2 := s.owns) (Grow.kept _ grI) hK (fun _ _ h => h)) (fun _ _ h => h)))
              clear hD hK HDat1
              go_wp2_with fail
              refine (HR3.out _ (HDat2.out.1.grow grI)).mono ?_
              rintro e' w33 ⟨rfl, hD, hK⟩
              have HDat3 := Lib.hid (And.intro hD (HDat2.out.2.trans (o2 := s.owns) (Kept.trans (o2 := s.owns) (Grow.kept _ grI) hK (fun _ _ h => h)) (fun _ _ h => h)))
              clear hD hK HDat2
              go_wp2_with fail
              go_end0
              exact ⟨rfl, by rw [← HTT.out]; exact HDat3.out.1, HDat3.out.2⟩
            · have f22 : (st : Int) < (m : Int) := by omega
              have g22 : st < m := by omega
              have f23 : (m : Int) < (en : Int) := by omega
              have g23 : m < en := by omega
              have f24 : (st : Int) < (mid : Int) := by omega
              have g24 : st < mid := by omega
              have f25 : (a : Int) < (st : Int) := by omega
              have g25 : a < st := by omega
              have f28 : (mid : Int) < (en : Int) := by omega
              have g28 : mid < en := by omega
              have f29 : ((en : Int) < (b : Int)) = False := by simp; omega
              have g29 : (en < b) = False := by simp; omega
              have hdr := HT.out
              simp only [if_pos (show st < m ∧ m < mid + m - st from by omega), if_pos (show a < st ∧ st < mid from by omega), if_neg (show ¬ (mid < mid + m - st ∧ mid + m - st < b) from by omega)] at hdr
              have HTT := Lib.hid hdr
              have HDat := Lib.hid HI.out
              have HR1 := Lib.hid (fun W D => HRot.out W D (by omega) (by omega))
              clear HI hdr HT HG HRot
              have hl1 := rotG_len m (mid + m - st - st) (m - st) (mid + m - st - m) l
              have hl2 := (symG_len (ltP act) g a st mid (rotG m (mid + m - st - st) (m - st) (mid + m - st - m) l)).trans hl1
              have HR2 := Lib.hid (fun W D => HIH.out W (rotG m (mid + m - st - st) (m - st) (mid + m - st - m) l) a st mid D (by omega) (by omega) (by omega) (by omega) (by have := HGG.out; omega))
              rw [← hen] at HR1
              rw [← hen] at HR2
              rw [← hen] at HTT
              clear HIH HGG hl1 hl2 hen
              go_wp2_with fail
              refine (HR1.out _ (HDat.out.1.grow grI)).mono ?_
              rintro e' w11 ⟨rfl, hD, hK⟩
              have HDat1 := Lib.hid (And.intro hD (HDat.out.2.trans (o2 := s.owns) (Kept.trans (o2 := s.owns) (Grow.kept _ grI) hK (fun _ _ h => h)) (fun _ _ h => h)))
              clear hD hK HDat
              go_wp2_with fail
              refine (HR2.out _ (HDat1.out.1.grow grI)).mono ?_
              rintro e' w22 ⟨rfl, hD, hK⟩
              have HDat2 := Lib.hid (And.intro hD (HDat1.out.2.trans (o2 := s.owns) (Kept.trans (o2 := s.owns) (Grow.kept _ grI) hK (fun _ _ h => h)) (fun _ _ h => h)))
              clear hD hK HDat1
              go_wp2_with fail
              go_end0
              exact ⟨rfl, by rw [← HTT.out]; exact HDat2.out.1, HDat2.out.2⟩
          · by_cases d3 : en < b
            · have f22 : (st : Int) < (m : Int) := by omega
              have g22 : st < m := by omega
              have f23 : (m : Int) < (en : Int) := by omega
              have g23 : m < en := by omega
              have f24 : (st : Int) < (mid : Int) := by omega
              have g24 : st < mid := by omega
              have f30 : ((a : Int) < (st : Int)) = False := by simp; omega
              have g30 : (a < st) = False := by simp; omega
              have f31 : (mid : Int) < (en : Int) := by omega
              have g31 : mid < en := by omega
              have f32 : (en : Int) < (b : Int) := by omega
              have g32 : en < b := by omega
              have hdr := HT.out
              simp only [if_pos (show st < m ∧ m < mid + m - st from by omega), if_neg (show ¬ (a < st ∧ st < mid) from by omega), if_pos (show mid < mid + m - st ∧ mid + m - st < b from by omega)] at hdr
              have HTT := Lib.hid hdr
              have HDat := Lib.hid HI.out
              have HR1 := Lib.hid (fun W D => HRot.out W D (by omega) (by omega))
              clear HI hdr HT HG HRot
              have hl1 := rotG_len m (mid + m - st - st) (m - st) (mid + m - st - m) l
              have hl2 := hl1
              have HR3 := Lib.hid (fun W D => HIH.out W (rotG m (mid + m - st - st) (m - st) (mid + m - st - m) l) mid (mid + m - st) b D (by omega) (by omega) (by omega) (by omega) (by have := HGG.out; omega))
              rw [← hen] at HR1
              rw [← hen] at HR3
              rw [← hen] at HTT
              clear HIH HGG hl1 hl2 hen
              go_wp2_with fail
              refine (HR1.out _ (HDat.out.1.grow grI)).mono ?_
              rintro e' w11 ⟨rfl, hD, hK⟩
              have HDat1 := Lib.hid (And.intro hD (HDat.out.2.trans (o2 := s.owns) (Kept.trans (o2 := s.owns) (Grow.kept _ grI) hK (fun _ _ h => h)) (fun _ _ h => h)))
              clear hD hK HDat
              go_wp2_with fail
              refine (HR3.out _ (HDat1.out.1.grow grI)).mono ?_
              rintro e' w22 ⟨rfl, hD, hK⟩
              have HDat2 := Lib.hid (And.intro hD (HDat1.out.2.trans (o2 := s.owns) (Kept.trans (o2 := s.owns) (Grow.kept _ grI) hK (fun _ _ h => h)) (fun _ _ h => h)))
              clear hD hK HDat1
              go_wp2_with fail
              go_end0
              exact ⟨rfl, by rw [← HTT.out]; exact HDat2.out.1, HDat2.out.2⟩
            · have f22 : (st : Int) < (m : Int) := by omega
              have g22 : st < m := by omega
              have f23 : (m : Int) < (en : Int) := by omega
              have g23 : m < en := by omega
              have f24 : (st : Int) < (mid : Int) := by omega
              have g24 : st < mid := by omega
              have f30 : ((a : Int) < (st : Int)) = False := by simp; omega
              have g30 : (a < st) = False := by simp; omega
              have f33 : (mid : Int) < (en : Int) := by omega
              have g33 : mid < en := by omega
              have f34 : ((en : Int) < (b : Int)) = False := by simp; omega
              have g34 : (en < b) = False := by simp; omega
              have hdr := HT.out
              simp only [if_pos (show st < m ∧ m < mid + m - st from by omega), if_neg (show ¬ (a < st ∧ st < mid) from by omega), if_neg (show ¬ (mid < mid + m - st ∧ mid + m - st < b) from by omega)] at hdr
              have HTT := Lib.hid hdr
              have HDat := Lib.hid HI.out
              have HR1 := Lib.hid (fun W D => HRot.out W D (by omega) (by omega))
              clear HI hdr HT HG HRot
              have hl1 := rotG_len m (mid + m - st - st) (m - st) (mid + m - st - m) l
              have hl2 := hl1
              rw [← hen] at HR1
              rw [← hen] at HTT
              clear HIH HGG hl1 hl2 hen
              go_wp2_with fail
              refine (HR1.out _ (HDat.out.1.grow grI)).mono ?_
              rintro e' w11 ⟨rfl, hD, hK⟩
              have HDat1 := Lib.hid (And.intro hD (HDat.out.2.trans (o2 := s.owns) (Kept.trans (o2 := s.owns) (Grow.kept _ grI) hK (fun _ _ h => h)) (fun _ _ h => h)))
              clear hD hK HDat
              go_wp2_with fail
              go_end0
              exact ⟨rfl, by rw [← HTT.out]; exact HDat1.out.1, HDat1.out.2⟩
        · by_cases d2 : st < mid
          · have f35 : ((st : Int) < (m : Int)) = False := by simp; omega
            have g35 : (st < m) = False := by simp; omega
            have f36 : (a : Int) < (st : Int) := by omega
            have g36 : a < st := by omega
            have f37 : ((mid : Int) < (en : Int)) = False := by simp; omega
            have g37 : (mid < en) = False := by simp; omega
            have f38 : (st : Int) < (mid : Int) := by omega
            have g38 : st < mid := by omega
            have hdr := HT.out
            simp only [if_neg (show ¬ (st < m ∧ m < mid + m - st) from by omega), if_pos (show a < st ∧ st < mid from by omega), if_neg (show ¬ (mid < mid + m - st ∧ mid + m - st < b) from by omega)] at hdr
            have HTT := Lib.hid hdr
            have HDat := Lib.hid HI.out
            clear HI hdr HT HG HRot
            have hl1 : l.length = l.length := rfl
            have hl2 := (symG_len (ltP act) g a st mid l).trans hl1
            have HR2 := Lib.hid (fun W D => HIH.out W l a st mid D (by omega) (by omega) (by omega) (by omega) (by have := HGG.out; omega))
            clear HIH HGG hl1 hl2 hen
            go_wp2_with fail
            refine (HR2.out _ (HDat.out.1.grow grI)).mono ?_
            rintro e' w11 ⟨rfl, hD, hK⟩
            have HDat1 := Lib.hid (And.intro hD (HDat.out.2.trans (o2 := s.owns) (Kept.trans (o2 := s.owns) (Grow.kept _ grI) hK (fun _ _ h => h)) (fun _ _ h => h)))
            clear hD hK HDat
            go_wp2_with fail
            go_end0
            exact ⟨rfl, by rw [← HTT.out]; exact HDat1.out.1, HDat1.out.2⟩
          · have f35 : ((st : Int) < (m : Int)) = False := by simp; omega
            have g35 : (st < m) = False := by simp; omega
            have f36 : (a : Int) < (st : Int) := by omega
            have g36 : a < st := by omega
            have f37 : ((mid : Int) < (en : Int)) = False := by simp; omega
            have g37 : (mid < en) = False := by simp; omega
            have f39 : ((st : Int) < (mid : Int)) = False := by simp; omega
            have g39 : (st < mid) = False := by simp; omega
            have hdr := HT.out
            simp only [if_neg (show ¬ (st < m ∧ m < mid + m - st) from by omega), if_neg (show ¬ (a < st ∧ st < mid) from by omega), if_neg (show ¬ (mid < mid + m - st ∧ mid + m - st < b) from by omega)] at hdr
            have HTT := Lib.hid hdr
            have HDat := Lib.hid HI.out
            clear HI hdr HT HG HRot
            have hl1 : l.length = l.length := rfl
            have hl2 := hl1
            clear HIH HGG hl1 hl2 hen
            go_wp2_with fail
            go_end0
            exact ⟨rfl, by rw [← HTT.out]; exact HDat.out.1, HDat.out.2⟩
end Go.Proofs.YtgobdndjemicjaaGreatDoor
namespace Go.Proofs.YtgobdndjemicjaaGreatDoor
open Go Go.RowKit Go.Shelf

theorem sym_any (s : Sl) (q : Nat) (act : Int) : ∀ (g : Nat) (W : World) (l : LR) (a m b : Nat), Dat W s q act l → l.length ≤ 1048576 → a < m → m < b → b ≤ l.length → b - a ≤ g → Calls Tryz.prog 237 #[s.val, .int .i64 (a : Int), .int .i64 (m : Int), .int .i64 (b : Int), cmpV q] W fun e w' => e = .returned (.tuple #[]) ∧ Dat w' s q act (symG (ltP act) g a m b l) ∧ Kept s.owns W w'
  | 0, _, _, _, _, _, _, _, h1, h2, _, h3 => by omega
  | g + 1, W, l, a, m, b, D, hl, h1, h2, hb, hg => by
    by_cases e1 : m - a = 1
    · have := sym_one W s q act l D hl a m b e1 h1 h2 hb
      have e : symG (ltP act) (g + 1) a m b l = upTo a (bsG (fun h => ltP act (rowAt l h) (rowAt l a)) (b - m + 1) m b - 1 - a) l := by rw [symG, if_pos e1]
      rw [e]; exact this
    · by_cases e2 : b - m = 1
      · have := sym_two W s q act l D hl a m b e1 h1 e2 hb
        have e : symG (ltP act) (g + 1) a m b l = dnTo m (m - bsG (fun h => !ltP act (rowAt l m) (rowAt l h)) (m - a + 1) a m) l := by rw [symG, if_neg e1, if_pos e2]
        rw [e]; exact this
      · exact sym_many g W s q act l D hl a m b e1 e2 h1 h2 hb hg (sym_any s q act g)
set_option maxRecDepth 100000 in
set_option maxHeartbeats 8000000 in
theorem stable_any (w : World) (s : Sl) (q : Nat) (act : Int) (l : LR) (D : Dat w s q act l) (hl : l.length ≤ 1048576) :
    Calls Tryz.prog 187 #[s.val, .int .i64 (l.length : Int), cmpV q] w fun e w' => e = .returned (.tuple #[]) ∧ Dat w' s q act (stbS (ltP act) l) ∧ Kept s.owns w w' := by
  have HD := Lib.hid D
  generalize hT : stbS (ltP act) l = T
  unfold stbS at hT
  have hlI := insBl_len (ltP act) l.length (l.length + 1) 0 l
  generalize hR : insBl (ltP act) l.length (l.length + 1) 0 l = R at *
  have HT := Lib.hid hT
  have HR := Lib.hid hR
  have HLI := Lib.hid hlI
  have HIns := Lib.hid (fun W cur a b (D : Dat W s q act cur) h1 h2 h3 => ins_any W s q act cur D h1 a b h2 h3)
  have HSym := Lib.hid (fun g W cur a m b (D : Dat W s q act cur) h1 h2 h3 h4 h5 => sym_any s q act g W cur a m b D h1 h2 h3 h4 h5)
  clear D hT hR hlI
  generalize hn : l.length = n at *
  unfold cmpV at *
  go_enter Tryz.func187, Tryz.ntmps187
  go_wp2_with fail
  go_loopw [7, 8] (fun av bv wr => ∃ (g ai bb : Nat) (cur : LR), av = .int .i64 (ai : Int) ∧ bv = .int .i64 (bb : Int) ∧ Hid (bb = ai + 20) ∧ ai ≤ n ∧ bb ≤ 1048596 ∧ cur.length = n ∧ Hid (n - ai < g) ∧ Hid (insBl (ltP act) n g ai cur = R) ∧ Hid (Dat wr s q act cur ∧ Kept s.owns w wr)) (fun _ bv _ => n + 20 - (intOf bv).toNat)
  case atStart => exact ⟨n + 1, 0, 20, l, rfl, rfl, rfl, by omega, by omega, hn, by rw [Hid]; omega, HR.out, HD.out, Kept.refl _ _⟩
  case round =>
    obtain ⟨g, ai, bb, cur, rfl, rfl, hbb, hai, hbl, hcl, hg, HG, HI⟩ := hrel
    obtain ⟨g', rfl⟩ : ∃ g', g = g' + 1 := ⟨g - 1, by have := hg.out; omega⟩
    have hdr := HG.out
    rw [insBl] at hdr
    by_cases hle : bb ≤ n
    · rw [if_pos (by rw [← hbb.out]; exact hle)] at hdr
      have hle' : (bb : Int) ≤ (n : Int) := by omega
      have hlen := insTo_len (ltP act) ai 19 cur
      have HC := Lib.hid (fun W (g : Grow wr W) => by
        have := HIns.out W cur ai bb (HI.out.1.grow g) (by omega) (by have := hbb.out; omega) (by omega)
        rw [show bb - ai - 1 = 19 by have := hbb.out; omega] at this
        exact this)
      have HK := Lib.hid HI.out.2
      have HDR := Lib.hid hdr
      generalize sinsTo (ltP act) ai 19 cur = cur2 at *
      clear HI HG hdr
      go_wp2_with (go_at_call 236; refine (HC.out _ grI).mono ?_; rintro e' w2 ⟨rfl, hD2, hK2⟩; have HD2 := Lib.hid hD2; have HK2 := Lib.hid hK2; clear hD2 hK2)
      go_roundw
      case rel => exact ⟨g', bb, bb + 20, cur2, rfl, by go_num, rfl, hle, by omega, by omega, by have := hg.out; have := hbb.out; rw [Hid]; omega, by rw [hbb.out]; exact HDR.out, HD2.out, HK.out.trans (o2 := s.owns) HK2.out (fun _ _ h => h)⟩
      case measure => simp [intOf]; omega
    · rw [if_neg (by rw [← hbb.out]; exact hle)] at hdr
      have hle' : ((bb : Int) ≤ (n : Int)) = False := by simp; omega
      have HC := Lib.hid (fun W (g : Grow wr W) => by
        have := HIns.out W cur ai n (HI.out.1.grow g) (by omega) hai (by omega)
        rw [hdr] at this
        exact this)
      have HK := Lib.hid HI.out.2
      clear HI HG hdr
      go_wp2_with (go_at_call 236; refine (HC.out _ grI).mono ?_; rintro e' w2 ⟨rfl, hD2, hK2⟩; have HD2 := Lib.hid hD2; have HK2 := Lib.hid (HK.out.trans (o2 := s.owns) hK2 (fun _ _ h => h)); clear hD2 hK2)
      go_loopw [6] (fun v wo => ∃ (g bs : Nat) (cur : LR), v = .int .i64 (bs : Int) ∧ 20 ≤ bs ∧ bs ≤ 2097152 ∧ cur.length = n ∧ Hid (n - bs < g) ∧ Hid (mrgS (ltP act) n g bs cur = T) ∧ Hid (Dat wo s q act cur ∧ Kept s.owns w wo)) (fun v _ => n - (intOf v).toNat)
      case atStart => exact ⟨n + 1, 20, R, rfl, by omega, by omega, HLI.out, by rw [Hid]; omega, HT.out, HD2.out, HK2.out⟩
      case round =>
        obtain ⟨g, bs, cur, rfl, h20, hbs, hcl, hg, HG, HI⟩ := hrel
        by_cases hlt : bs < n
        · obtain ⟨g', rfl⟩ : ∃ g', g = g' + 1 := ⟨g - 1, by have := hg.out; omega⟩
          have hdr := HG.out
          rw [mrgS, if_pos hlt] at hdr
          have hlt' : (bs : Int) < (n : Int) := by omega
          have HDR := Lib.hid hdr
          have hlen2 := mrgBl_len (ltP act) n bs (n + 1) 0 cur
          generalize hR2 : mrgBl (ltP act) n bs (n + 1) 0 cur = R2 at *
          have HR2 := Lib.hid hR2
          have HL2 := Lib.hid hlen2
          have HI0 := Lib.hid HI.out
          clear HI HG hdr hR2 hlen2
          go_wp2_with fail
          go_loopw [7, 8] (fun av bv wi => ∃ (g2 ai bb : Nat) (ci : LR), av = .int .i64 (ai : Int) ∧ bv = .int .i64 (bb : Int) ∧ Hid (bb = ai + 2 * bs) ∧ ai ≤ n ∧ bb ≤ 8388608 ∧ ci.length = n ∧ Hid (n - ai < g2) ∧ Hid (mrgBl (ltP act) n bs g2 ai ci = R2) ∧ Hid (Dat wi s q act ci ∧ Kept s.owns w wi)) (fun _ bv _ => n + 2 * bs - (intOf bv).toNat)
          case atStart => exact ⟨n + 1, 0, 2 * bs, cur, rfl, by go_num, by rw [Hid]; omega, by omega, by omega, hcl, by rw [Hid]; omega, HR2.out, HI0.out⟩
          case round =>
            obtain ⟨g2, ai, bb, ci, rfl, rfl, hbb, hai, hbb8, hcl2, hg2, HG2, HI2⟩ := hrel
            obtain ⟨g2', rfl⟩ : ∃ g2', g2 = g2' + 1 := ⟨g2 - 1, by have := hg2.out; omega⟩
            have hdr := HG2.out
            rw [mrgBl] at hdr
            by_cases hle : bb ≤ n
            · rw [if_pos (by rw [← hbb.out]; exact hle)] at hdr
              have hle' : (bb : Int) ≤ (n : Int) := by omega
              have hlen := symG_len (ltP act) (2 * bs) ai (ai + bs) (ai + 2 * bs) ci
              have HC := Lib.hid (fun W (g : Grow wr W) => by
                have := HSym.out (2 * bs) W ci ai (ai + bs) (ai + 2 * bs) (HI2.out.1.grow g) (by omega) (by omega) (by omega) (by have := hbb.out; omega) (by omega)
                rw [show ((ai + bs : Nat) : Int) = (ai : Int) + (bs : Int) by omega, show ((ai + 2 * bs : Nat) : Int) = (bb : Int) by have := hbb.out; omega] at this
                exact this)
              have HK := Lib.hid HI2.out.2
              have HDR2 := Lib.hid hdr
              generalize symG (ltP act) (2 * bs) ai (ai + bs) (ai + 2 * bs) ci = ci2 at *
              clear HI2 HG2 hdr
              go_wp2_with (go_at_call 237; refine (HC.out _ grI).mono ?_; rintro e' w3 ⟨rfl, hD2, hK2⟩; have HD3 := Lib.hid hD2; have HK3 := Lib.hid hK2; clear hD2 hK2)
              go_roundw
              case rel => exact ⟨g2', bb, bb + 2 * bs, ci2, rfl, by go_num, rfl, hle, by omega, by omega, by have := hg2.out; have := hbb.out; rw [Hid]; omega, by rw [hbb.out]; exact HDR2.out, HD3.out, HK.out.trans (o2 := s.owns) HK3.out (fun _ _ h => h)⟩
              case measure => simp [intOf]; omega
            · rw [if_neg (by rw [← hbb.out]; exact hle)] at hdr
              have hle' : ((bb : Int) ≤ (n : Int)) = False := by simp; omega
              by_cases hmn : ai + bs < n
              · rw [if_pos hmn] at hdr
                have hmn' : (ai : Int) + (bs : Int) < (n : Int) := by omega
                have HC := Lib.hid (fun W (g : Grow wr W) => by
                  have := HSym.out (n - ai) W ci ai (ai + bs) n (HI2.out.1.grow g) (by omega) (by omega) hmn (by omega) (by omega)
                  rw [show ((ai + bs : Nat) : Int) = (ai : Int) + (bs : Int) by omega, hdr] at this
                  exact this)
                have HK := Lib.hid HI2.out.2
                clear HI2 HG2 hdr
                go_wp2_with (go_at_call 237; refine (HC.out _ grI).mono ?_; rintro e' w3 ⟨rfl, hD2, hK2⟩; have HD3 := Lib.hid hD2; have HK3 := Lib.hid hK2; clear hD2 hK2)
                go_roundw
                case rel => exact ⟨g', 2 * bs, R2, by rw [show ((2 * bs : Nat) : Int) = (bs : Int) * 2 by omega], by omega, by omega, by rw [HL2.out]; exact hcl, by have := hg.out; rw [Hid]; omega, HDR.out, HD3.out, HK.out.trans (o2 := s.owns) HK3.out (fun _ _ h => h)⟩
                case measure => simp [intOf]; omega
              · rw [if_neg hmn] at hdr
                have hmn' : ((ai : Int) + (bs : Int) < (n : Int)) = False := by simp; omega
                have HE := Lib.hid hdr
                have HI3 := Lib.hid HI2.out
                clear HI2 HG2 hdr
                go_wp2_with fail
                go_roundw
                case rel => exact ⟨g', 2 * bs, R2, by rw [show ((2 * bs : Nat) : Int) = (bs : Int) * 2 by omega], by omega, by omega, by rw [HL2.out]; exact hcl, by have := hg.out; rw [Hid]; omega, HDR.out, by rw [← HE.out]; exact HI3.out.1, HI3.out.2⟩
                case measure => simp [intOf]; omega
        · have hfin : cur = T := by
            rw [← HG.out]
            cases g with
            | zero => rfl
            | succ g => rw [mrgS, if_neg hlt]
          have hlt' : ((bs : Int) < (n : Int)) = False := by simp; omega
          have HI3 := Lib.hid HI.out
          clear HI HG
          subst hfin
          go_wp2_with fail
          go_end0
          exact ⟨rfl, HI3.out⟩
set_option maxRecDepth 100000 in
theorem sstable_any (w : World) (s : Sl) (q : Nat) (act : Int) (l : LR) (D : Dat w s q act l) (hl : l.length ≤ 1048576) :
    Calls Tryz.prog 137 #[s.val, cmpV q] w fun e w' => e = .returned (.tuple #[]) ∧ Dat w' s q act (stbS (ltP act) l) ∧ Kept s.owns w w' := by
  have hsn := D.rows.len
  have HS := Lib.hid (fun W (g : Grow w W) => stable_any W s q act l (D.grow g) hl)
  generalize stbS (ltP act) l = T at *
  clear D
  unfold cmpV at *
  go_enter Tryz.func137, Tryz.ntmps137
  go_wp2_with fail
  refine (HS.out _ grI).mono ?_
  rintro e' w2 ⟨rfl, hD, hK⟩
  have HD := Lib.hid hD
  have HK := Lib.hid (Kept.trans (o2 := s.owns) (Grow.kept s.owns (show Grow w _ from grI)) hK (fun _ _ h => h))
  clear hD hK HS
  go_wp2_with fail
  go_end0
  exact ⟨rfl, HD.out, HK.out⟩
end Go.Proofs.YtgobdndjemicjaaGreatDoor
