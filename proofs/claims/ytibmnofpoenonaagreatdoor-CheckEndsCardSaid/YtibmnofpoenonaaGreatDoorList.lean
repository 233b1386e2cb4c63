/-
  The walks of list.
  The walks of list: Insert, Remove.
-/
import Derived.Test.YtibmnofpoenonaaGreatDoorOwn
import Derived.Test.YtibmnofpoenonaaGreatDoorEv
import Derived.Deep.RegionHeld3
import Derived.Deep.DrawnRows
import Derived.Deep.RegionWith
import Derived.IntWalk
namespace Go.Proofs.YtibmnofpoenonaaGreatDoor
open Go Go.RowKit Go.Shelf Go.Lib Go.Sort
attribute [local go_sem ↓] Go.wp_at_zero Go.wp_at_succ

theorem kept_putRow {α : Type} [Inhabited α] (enc : α → Value) (w : World) (q b o : Nat) (d : Array α) : Kept (fun k => k = b) w (putRow enc (Go.Sort.ahead w q) b o d) := by
  refine ⟨rfl, rfl, rfl, by simp [Go.Sort.ahead], fun k _ hk => ?_⟩
  simp only [putRow, mapBlock, Go.Sort.ahead, Array.getElem?_modify]
  rw [if_neg (Ne.symm hk)]
theorem erase_split (l : List Int) (i : Nat) : l.take i ++ l.drop (i + 1) = l.eraseIdx i := (List.eraseIdx_eq_take_drop_succ l i).symm
theorem del_ints (w : World) (s : Sl) (l : List Int) (i : Nat) (hi : i < l.length) (hb : l.length ≤ 1048576) (base : Nat) (R : Own w s 3 1 base (l.map I)) :
    Calls Tryz.prog 142 #[s.val, .int .i64 i, .int .i64 (i + 1)] w fun e w' => ∃ s' : Sl, e = .returned s'.val ∧ Ints w' s' (l.eraseIdx i) ∧ Room w' s' 1 ∧ s'.b = s.b ∧ (∀ b, s'.owns b ↔ s.owns b) ∧ Kept s.owns w w' := by
  have hI := R.cells.ints
  cases s with
  | nil => have := hI.len; simp [Sl.n] at this; omega
  | mk b o n c =>
    have hn : n = l.length := hI.len
    subst hn
    have hH : Holds (.int .i64) w b o l.toArray := fun j hj => by
      have hj : j < l.length := by simpa using hj
      have h1 := hI.cell j hj
      have h2 := (R.room.there j (by have : l.length ≤ c := hI.cap; simp only [Sl.c]; omega)).2
      refine ⟨?_, h2⟩
      rw [show w.cell? ⟨b, o + j, none⟩ = some (I (gt l j)) from h1, gt_eq _ _ hj, getElem!_pos _ j (by simpa using hj)]; rfl
    have hd := AnyE.slices_Delete Tryz.delInts (.int .i64) (fun _ => rfl) 0 (fun w => by kernel_rfl) Tryz.t3 (by kernel_rfl) (by kernel_rfl) b o c i (i + 1) l.toArray w hH (by have : l.length ≤ c := hI.cap; simpa using this) (by have := R.max; unfold maxLen at this; exact this) (by omega) (by show i + 1 ≤ l.length; omega)
    rw [show l.toArray.size = l.length from rfl] at hd
    refine hd.mono ?_
    rintro e w' ⟨rfl, q, rfl⟩
    have hl2 : (l.toArray.toList.take i ++ l.toArray.toList.drop (i + 1) ++ List.replicate (i + 1 - i) (0 : Int)) = l.eraseIdx i ++ [0] := by
      rw [show l.toArray.toList = l from rfl, erase_split, show i + 1 - i = 1 by omega]; rfl
    rw [hl2]
    have hel : (l.eraseIdx i).length = l.length - 1 := List.length_eraseIdx_of_lt hi
    have hsz : (l.eraseIdx i ++ [0]).toArray.size = l.toArray.size := by simp [hel]; omega
    have hK := kept_putRow (.int .i64) w q b o (l.eraseIdx i ++ [0]).toArray
    have hH' : Holds (.int .i64) (Go.Sort.ahead w q) b o l.toArray := hH
    refine ⟨.mk b o (l.length - 1) c, by rw [show i + 1 - i = 1 by omega]; rfl, ⟨?_, ?_, fun j hj => ?_⟩, ⟨R.max, fun j hj => ?_⟩, rfl, fun _ => Iff.rfl, hK⟩
    · simp [Sl.n, hel]
    · have : l.length ≤ c := hI.cap
      simp only [Sl.n, Sl.c]; omega
    · have := cell?_putRow (.int .i64) (Go.Sort.ahead w q) b o l.toArray _ hH' hsz j (by simp; omega)
      simp only [Sl.b, Sl.o]
      rw [this, getElem!_pos _ j (by simp; omega)]
      simp [gt, hj]
    · obtain ⟨t1, t2⟩ := R.room.there j hj
      simp only [Sl.b, Sl.o] at t1 t2 ⊢
      rw [frozen?_putRow]
      refine ⟨?_, t2⟩
      by_cases hjl : j < l.length
      · have := cell?_putRow (.int .i64) (Go.Sort.ahead w q) b o l.toArray _ hH' hsz j (by rw [hsz]; simpa using hjl)
        rw [this]; rfl
      · rw [cell?_putRow_other _ _ _ _ _ _ (Or.inr (Or.inr (by show o + (l.eraseIdx i ++ [0]).toArray.size ≤ o + j; rw [hsz]; simp; omega)))]
        exact t1

/-- The first place of a number, -1 where it is not. -/
abbrev idxL (l : List Int) (x : Int) : Int := Lib.idxOf l x
theorem idx_ints (w : World) (s : Sl) (l : List Int) (x : Int) (R : Ints w s l) (hb : l.length ≤ 1048576) :
    Calls Tryz.prog 110 #[s.val, .int .i64 x] w fun e w' => e = .returned (.int .i64 (idxL l x)) ∧ w' = w := by
  cases hl : l with
  | nil =>
    subst hl
    have hn := R.len
    have he := fun a c => AnyG.slices_Index_int_empty Tryz.idxInts a c x w
    cases s with
    | nil => exact (he none 0).mono fun e w' h => h
    | mk b o n c =>
      have : n = 0 := hn
      subst this
      exact (he (some ⟨b, o, none⟩) c).mono fun e w' h => h
  | cons y l' =>
    rw [← hl]
    cases s with
    | nil => have := R.len; rw [hl] at this; simp [Sl.n] at this
    | mk b o n c =>
      have hn : n = l.length := R.len
      subst hn
      refine (AnyG.slices_Index_int Tryz.idxInts b o l.length c l x w (Nat.le_refl _) (by omega) (fun j hj => R.cell j hj)).mono ?_
      rintro e w' ⟨rfl, rfl⟩
      exact ⟨by rw [List.take_of_length_le (Nat.le_refl _)], rfl⟩
theorem index_any (w : World) (s : Sl) (l : List Int) (x : Int) (R : Ints w s l) (hb : l.length ≤ 1048576) :
    Calls Tryz.prog 85 #[s.val, .int .i64 x] w fun e w' => e = .returned (.int .i64 (idxL l x)) ∧ w' = w := by
  go_enter Tryz.func85, Tryz.ntmps85
  go_wp2_with (go_at_call 110; refine (idx_ints _ s l x R hb).mono ?_; rintro e' w' ⟨rfl, hww⟩; subst w')
  go_ret
  exact ⟨rfl, rfl⟩
theorem place_any (w : World) (s : Sl) (i : Int) :
    Calls Tryz.prog 141 #[s.val, .int .i64 i] w fun e w' => e = .returned (.bool (inR i s.n)) ∧ w' = w := by
  go_enter Tryz.func141, Tryz.ntmps141
  go_wp2_with fail
  all_goals (go_ret; exact ⟨ret_bool (by (go_light; first | rfl | (simp [inR]; done) | (simp_all [inR]; done) | (simp [inR]; omega) | (simp_all [inR]; omega) | (grind [inR]))), rfl⟩)

theorem cell_splice (w : World) (b o : Nat) (vs : List Value) (h : ∀ j, j < vs.length → (w.cell? ⟨b, o + j, none⟩).isSome = true) (p : Nat) : (w.setCells b o vs).cell? ⟨b, p, none⟩ = if o ≤ p ∧ p < o + vs.length then vs[p - o]? else w.cell? ⟨b, p, none⟩ := by
  by_cases hp : o ≤ p ∧ p < o + vs.length
  · rw [if_pos hp]
    have := World.cell?_setCells_in b vs o w h (p - o) (by omega)
    rw [show o + (p - o) = p by omega] at this
    rw [this, List.getElem?_eq_getElem (by omega)]
  · rw [if_neg hp, World.cell?_setCells_out b vs o w _ (fun _ _ => by show p < o ∨ o + vs.length ≤ p; omega)]
theorem insert_get (l : List Int) (i : Nat) (x : Int) (hi : i ≤ l.length) (j : Nat) : ((l.insertIdx i x).map I)[j]? = if j < i then (l.map I)[j]? else if j = i then some (I x) else (l.map I)[j - 1]? := by
  rw [List.getElem?_map, List.getElem?_insertIdx]
  by_cases h1 : j < i
  · simp [h1]
  · by_cases h2 : j = i
    · subst h2; simp [hi]
    · simp [h1, h2]
theorem cell_ahead (w : World) (a : Addr) : w.drew.cell? a = w.cell? a := rfl
theorem ins_ints (w : World) (s : Sl) (l : List Int) (i : Nat) (x : Int) (vb base : Nat) (hi : i ≤ l.length) (hb : l.length ≤ 1048576) (R : Own w s 3 1 base (l.map I)) (hv : w.heap[vb]? = some (.cells #[.int .i64 x] 3 (0, 0))) (hvn : ¬ s.owns vb) :
    Calls Tryz.prog 143 #[s.val, .int .i64 i, .slice (some ⟨vb, 0, none⟩) 1 1] w fun e w' => ∃ s' : Sl, e = .returned s'.val ∧ Ints w' s' (l.insertIdx i x) ∧ (∀ b, s'.owns b → s.owns b ∨ (w.heap.size ≤ b ∧ b < w'.heap.size)) ∧ Kept s.owns w w' := by
  have hI := R.cells.ints
  have hvs : ∀ j v, [I x][j]? = some v → w.cell? ⟨vb, 0 + j, none⟩ = some v := fun j v hj => by
    cases j with
    | zero => simp only [World.cell?, hv, Nat.zero_add]; simpa using hj
    | succ j => simp at hj
  have h1v : ∀ v ∈ [I x], v.oneCell' = true := by intro v hv; rw [List.mem_singleton] at hv; subst hv; rfl
  have hil : (l.insertIdx i x).length = l.length + 1 := by rw [List.length_insertIdx_of_le_length hi]
  have hfin : ∀ (w' : World) (b c : Nat), l.length + 1 ≤ c → (∀ j, j ≤ l.length → w'.cell? ⟨b, j, none⟩ = if j < i then (l.map I)[j]? else if j = i then some (I x) else (l.map I)[j - 1]?) → Ints w' (.mk b 0 (l.length + 1) c) (l.insertIdx i x) := fun w' b c hc h => by
    refine Cells.ints ⟨by rw [List.length_map, hil, Nat.mul_one]; rfl, hc, fun j u hu => ?_⟩
    have hj := (List.getElem?_eq_some_iff.1 hu).1
    rw [List.length_map, hil] at hj
    simp only [Sl.b, Sl.o, Nat.zero_add]
    rw [h j (by omega), ← insert_get l i x hi]; exact hu
  by_cases hroom : l.length + 1 ≤ s.c
  · cases s with
    | nil => simp [Sl.c] at hroom
    | mk b o n c =>
      have hroom : l.length + 1 ≤ c := hroom
      have hn : n = l.length := hI.len
      have ho : o = 0 := R.off
      subst hn ho
      have hcm : c ≤ 9223372036854775807 := by have := R.max; unfold maxLen at this; exact this
      have hth : ∀ j, j < c → (w.cell? ⟨b, 0 + j, none⟩).isSome = true ∧ w.frozen? ⟨b, 0 + j, none⟩ = false := fun j hj => R.room.there j (by rw [Nat.mul_one]; exact hj)
      have hth0 : ∀ j, j < c → (w.cell? ⟨b, j, none⟩).isSome = true := fun j hj => by have := (hth j hj).1; rwa [Nat.zero_add] at this
      have hcell : ∀ j, j < l.length → w.cell? ⟨b, j, none⟩ = (l.map I)[j]? := fun j hj => by
        have h1 : (l.map I)[j]? = some (I l[j]) := by simp [hj]
        have := R.cells.cell j _ h1
        simp only [Sl.b, Sl.o, Nat.zero_add] at this
        rw [this, h1]
      by_cases hlt : i < l.length
      · obtain ⟨_, cur, e1, e2⟩ := R.blk b rfl
        have e2 : cur.size = c * 1 := e2
        refine (Any2.slices_Insert_int_shift Tryz.insInts b 0 l.length c i vb 0 1 1 (l.map I) [I x] w hlt (by omega) hroom hcm (fun h => hvn (by rw [h]; rfl)) (by simp) rfl (fun j v hj => R.cells.cell j v hj) (fun j hj => (hth j (by omega)).1) (fun j hj => (hth j (by omega)).2) hvs (flat_one l) h1v 3 3 1 cur.size
          (by simp [World.shape?, hv]) (by simp [World.shape?, e1]) (by omega) (by simp [World.frozen?, hv]) (by simp [World.frozen?, hv])).mono ?_
        rintro e w' ⟨rfl, rfl⟩
        refine ⟨.mk b 0 (l.length + 1) c, rfl, hfin _ b c hroom fun j hj => ?_, fun b' h => Or.inl h, ?_⟩
        · rw [Nat.zero_add, Nat.zero_add, cell_splice _ _ _ _ (fun q hq => by
            rw [cell_splice _ _ _ _ (fun q hq => by rw [cell_ahead]; exact hth0 _ (by simp at hq; omega))]
            split
            · rename_i h; rw [List.getElem?_eq_getElem (by omega)]; rfl
            · rw [cell_ahead]; exact hth0 _ (by simp at hq; omega)),
            cell_splice _ _ _ _ (fun q hq => by rw [cell_ahead]; exact hth0 _ (by simp at hq; omega)), cell_ahead]
          simp only [List.length_cons, List.length_nil, List.length_drop, List.length_map]
          by_cases h1 : j < i
          · rw [if_neg (by omega), if_neg (by omega), if_pos h1, hcell j (by omega)]
          · by_cases h2 : j = i
            · subst h2; rw [if_pos (by omega), if_neg (by omega), if_pos rfl, Nat.sub_self]; rfl
            · rw [if_neg (by omega), if_pos (by omega), if_neg h1, if_neg h2, List.getElem?_drop]; congr 1; omega
        · exact Kept.setCells (own := Sl.owns (.mk b 0 l.length c)) b (fun _ => rfl) _ _ _ (Kept.setCells (own := Sl.owns (.mk b 0 l.length c)) b (fun _ => rfl) _ _ _ (Kept.refl _ _).drew)
      · have hie : i = l.length := by omega
        subst hie
        refine (Any2.slices_Insert_int_end_room Tryz.insInts b 0 l.length c vb 0 1 1 [I x] w (by omega) hroom hcm rfl (fun j hj => ?_) (fun j hj => ?_) hvs h1v).mono ?_
        · have := (hth (l.length + j) (by omega)).1; rwa [← Nat.add_assoc] at this
        · have := (hth (l.length + j) (by omega)).2; rwa [← Nat.add_assoc] at this
        rintro e w' ⟨rfl, rfl⟩
        refine ⟨.mk b 0 (l.length + 1) c, rfl, hfin _ b c hroom fun j hj => ?_, fun b' h => Or.inl h, ?_⟩
        · rw [Nat.zero_add, cell_splice _ _ _ _ (fun q hq => hth0 _ (by simp at hq; omega))]
          simp only [List.length_cons, List.length_nil]
          by_cases h1 : j < l.length
          · rw [if_neg (by omega), if_pos h1, hcell j h1]
          · rw [if_pos (by omega), if_neg h1, if_pos (by omega), show j - l.length = 0 by omega]; rfl
        · exact Kept.setCells (own := Sl.owns (.mk b 0 l.length c)) b (fun _ => rfl) _ _ _ (Kept.refl _ _)
  · have hcn : l.length ≤ s.c := by have := hI.cap; rw [hI.len] at this; exact this
    have hml : l.length + 1 ≤ maxLen := by unfold maxLen; omega
    have hcap := grownCap_ge w (l.length + 1) s.c 3
    by_cases hlt : i < l.length
    · cases s with
      | nil => have := hI.len; simp [Sl.n] at this; omega
      | mk b o n c =>
        have hroom : ¬ l.length + 1 ≤ c := hroom
        have hn : n = l.length := hI.len
        subst hn
        have hcap2 := grownCap_ge w (l.length + 1) c (Tryz.insInts_ren.t 3)
        refine (Any2.slices_Insert_int_grow Tryz.insInts b o l.length c i vb 0 1 1 (l.map I) [I x] w hlt (by omega) hcn (by omega) (by omega) (by simp) rfl (fun j v hj => R.cells.cell j v hj) hvs (flat_one l) h1v).mono ?_
        rintro e w' ⟨rfl, rfl⟩
        generalize Tryz.insInts_ren.t 3 = T at hcap2 ⊢
        generalize grownCap w (l.length + 1) c T = C at hcap2 ⊢
        clear hcap
        have hsz : (((l.map I).take i).toArray ++ Builtin.zeroCells (Value.int .i64 0).cells (l.length + 1 - i) ++ Builtin.zeroCells (Value.int .i64 0).cells (C - (l.length + 1))).size = C := by
          rw [Array.size_append, Array.size_append, size_zeroCells, size_zeroCells]
          simp [Value.cells]; omega
        have hth : ∀ j, j < C → ((w.alloc (.cells (((l.map I).take i).toArray ++ Builtin.zeroCells (Value.int .i64 0).cells (l.length + 1 - i) ++ Builtin.zeroCells (Value.int .i64 0).cells (C - (l.length + 1))) T)).drew.cell? ⟨w.heap.size, j, none⟩).isSome = true := fun j hj => by
          rw [cell_ahead, alloc_cell, if_pos rfl, Array.getElem?_eq_getElem (by rw [hsz]; exact hj)]; rfl
        refine ⟨.mk w.heap.size 0 (l.length + 1) C, rfl, hfin _ _ C hcap2 fun j hj => ?_, fun b' h => Or.inr ?_, ?_⟩
        · rw [cell_splice _ _ _ _ (fun q hq => by
            rw [cell_ahead, cell_splice _ _ _ _ (fun q hq => hth _ (by simp at hq; omega))]
            split
            · rename_i h; rw [List.getElem?_eq_getElem (by omega)]; rfl
            · exact hth _ (by simp at hq; omega)),
            cell_ahead, cell_splice _ _ _ _ (fun q hq => hth _ (by simp at hq; omega)), cell_ahead, alloc_cell, if_pos rfl]
          simp only [List.length_cons, List.length_nil, List.length_drop, List.length_map]
          by_cases h1 : j < i
          · rw [if_neg (by omega), if_neg (by omega), if_pos h1, Array.getElem?_append_left (by rw [Array.size_append]; simp; omega), Array.getElem?_append_left (by simp; omega)]
            simp [h1]
          · by_cases h2 : j = i
            · subst h2; rw [if_neg (by omega), if_pos (by omega), if_neg (by omega), if_pos rfl, Nat.sub_self]; rfl
            · rw [if_pos (by omega), if_neg h1, if_neg h2, List.getElem?_drop]; congr 1; omega
        · have h : b' = w.heap.size := h
          subst h
          exact ⟨Nat.le_refl _, by
            have := (Kept.setCells (own := fun _ => True) (a := w.alloc (.cells #[] 0)) w.heap.size (fun _ => trivial) ((l.map I).drop i) (i + 1) _ ((Kept.setCells (own := fun _ => True) w.heap.size (fun _ => trivial) [I x] i _ (Kept.mk (own := fun _ => True) (w := w.alloc (.cells #[] 0)) (w' := (w.alloc (.cells (((l.map I).take i).toArray ++ Builtin.zeroCells (Value.int .i64 0).cells (l.length + 1 - i) ++ Builtin.zeroCells (Value.int .i64 0).cells (C - (l.length + 1))) T)).drew) rfl rfl rfl (by rw [alloc_size']; exact Nat.le_of_eq (alloc_size' _ _).symm) (fun _ _ h => (h trivial).elim))).drew)).size
            rw [alloc_size'] at this
            omega⟩
        · refine (Kept.setCells (own := Sl.owns (.mk b o l.length c)) w.heap.size (fun h => absurd h (Nat.lt_irrefl _)) _ _ _ (Kept.drew (Kept.setCells w.heap.size (fun h => absurd h (Nat.lt_irrefl _)) _ _ _ ((Kept.refl _ _).alloc _).drew)))
    · have hie : i = l.length := by omega
      subst hie
      obtain ⟨ao, hsv, hnil, hcs⟩ : ∃ ao, s.val = .slice ao l.length s.c ∧ (ao = none → l.length = 0) ∧ ∀ a, ao = some a → ∀ j v, (l.map I)[j]? = some v → w.cell? (a.add j) = some v := by
        cases s with
        | nil => have := hI.len; exact ⟨none, by rw [← this]; rfl, fun _ => this.symm, fun a h => by cases h⟩
        | mk b o n c =>
          have hn : n = l.length := hI.len
          subst hn
          refine ⟨some ⟨b, o, none⟩, rfl, fun h => (by cases h), fun a h j v hj => ?_⟩
          cases h
          rw [Addr.add_lit]; exact R.cells.cell j v hj
      rw [hsv]
      refine (Any2.slices_Insert_int_end_grow Tryz.insInts ao l.length s.c vb 0 1 1 (l.map I) [I x] w (by omega) hcn (by omega) (by omega) (by simp) rfl hnil hcs hvs h1v).mono ?_
      rintro e w' ⟨rfl, rfl⟩
      have hsz : w.heap.size = w.drew.heap.size := rfl
      refine ⟨.mk w.heap.size 0 (l.length + 1) (grownCap w (l.length + 1) s.c 3), rfl, hfin _ _ _ hcap fun j hj => ?_, fun b' h => Or.inr ?_, (Kept.refl _ _).drew.alloc _⟩
      · rw [alloc_cell, if_pos hsz, Array.getElem?_append_left (by simp; omega)]
        by_cases h1 : j < l.length
        · rw [if_pos h1, List.getElem?_toArray, List.getElem?_append_left (by simpa using h1)]
        · have : j = l.length := by omega
          subst this; simp
      · have h : b' = w.heap.size := h
        subst h
        rw [alloc_size']
        exact ⟨Nat.le_refl _, Nat.lt_succ_self _⟩
end Go.Proofs.YtibmnofpoenonaaGreatDoor
namespace Go.Proofs.YtibmnofpoenonaaGreatDoor
open Go Go.RowKit Go.Shelf Go.Lib Go.Sort
attribute [local go_sem ↓] Go.wp_at_zero Go.wp_at_succ

theorem Kept.grow_of {own : Nat → Prop} {w w1 w2 : World} (h : Kept own w1 w2) (g : Grow w w1) (hn : ∀ k, own k → w.heap.size ≤ k) : Grow w w2 :=
  ((g.kept own).trans (o2 := own) h (fun _ _ h => h)).grow (fun k hk ho => Nat.not_lt.2 (hn k ho) hk)
theorem inR_of (i n : Nat) (h : i < n) : inR (i : Int) n = true := by simp [inR, h]
theorem remove_no (w : World) (s : Sl) (i : Int) (hi : inR i s.n = false) :
    Calls Tryz.prog 130 #[s.val, .int .i64 i] w fun e w' => e = .returned (.tuple #[.slice none 0 0, .int .i64 0, errV 1]) ∧ w' = w := by
  go_enter Tryz.func130, Tryz.ntmps130
  go_wp2_with (go_at_call 141; refine (place_any _ s _).mono ?_; rintro e' w' ⟨rfl, hww⟩; subst w')
  go_ret3
  exact ⟨rfl, rfl⟩
set_option maxHeartbeats 1000000 in
theorem remove_yes (w : World) (s : Sl) (l : List Int) (i : Nat) (R : Ints w s l) (hi : i < l.length) (hb : l.length ≤ 1048576) :
    Calls Tryz.prog 130 #[s.val, .int .i64 i] w fun e w' => ∃ s' : Sl, e = .returned (.tuple #[s'.val, .int .i64 (gt l i), .nilIface]) ∧ Ints w' s' (l.eraseIdx i) ∧ (∀ b, s'.owns b → w.heap.size ≤ b ∧ b < w'.heap.size) ∧ Grow w w' := by
  have hin : inR (i : Int) s.n = true := by rw [R.len]; exact inR_of i _ hi
  obtain ⟨hsb, hc⟩ := R.at i hi
  have h0 : (0 : Int) ≤ (i : Int) := by omega
  have h1 : (i : Int) < s.n := by rw [R.len]; omega
  have RH := Lib.hid R
  clear R
  go_enter Tryz.func130, Tryz.ntmps130
  go_wp2_with (go_at_call 141; refine (place_any _ s _).mono ?_; rintro e' w' ⟨rfl, hww⟩; subst w')
  have hwr : IntKind.i64.wrap ((i : Int) + 1) = (i : Int) + 1 := IntWalk.i64_in _ (by omega)
  go_region_with (first | (go_at_call 29; refine (cloned_ints _ s l (RH.out.grow (by repeat (first | exact Grow.refl _ | refine Grow.andr ?_ | refine Grow.plus ?_ _ | refine Grow.alloc ?_ _ | refine Grow.drew ?_ | refine Grow.drewN ?_ _))) hb).mono ?_; rintro e w' ⟨s1, rfl, hO, _, nx, rfl⟩; (try simp only [drew_plus] at hO)) | (go_at_call 142; refine (del_ints _ s1 l i hi hb _ hO).mono ?_; rintro e w' ⟨s2, rfl, hI2, hR2, hb2, hown, hK⟩; have hcW : w'.cell? ⟨s.b, s.o + i, none⟩ = some (I (gt l i)) := (by rw [hK.cell _ _ (by go_simp) (fun h => absurd hsb (Nat.not_lt.2 (hO.lt _ h).1))]; go_simp)))
  all_goals
    go_wp2_with fail
    go_ret3
    refine ⟨s2, rfl, hI2, fun b hb => ?_, ?_⟩
    · have := hO.lt b ((hown b).1 hb); exact ⟨this.1, Nat.lt_of_lt_of_le this.2 hK.size⟩
    · have hg : Grow w w' := hK.grow_of (by repeat (first | exact Grow.refl _ | refine Grow.andr ?_ | refine Grow.plus ?_ _ | refine Grow.alloc ?_ _ | refine Grow.drew ?_ | refine Grow.drewN ?_ _)) (fun k hk => (hO.lt k hk).1)
      first | exact hg | exact hg.drew | exact hg.drewN _
theorem insert_no (w : World) (s : Sl) (i x : Int) (hi : inR i (s.n + 1) = false) :
    Calls Tryz.prog 131 #[s.val, .int .i64 i, .int .i64 x] w fun e w' => e = .returned (.tuple #[.slice none 0 0, errV 1]) ∧ w' = w := by
  have hin : inR i s.n = false := by simp [inR] at hi ⊢; omega
  have hne : ¬ i = s.n := by simp [inR] at hi; omega
  clear hi
  go_enter Tryz.func131, Tryz.ntmps131
  go_wp2_with (go_at_call 141; refine (place_any _ s _).mono ?_; rintro e' w' ⟨rfl, hww⟩; subst w')
  go_ret2
  exact ⟨rfl, rfl⟩
set_option maxHeartbeats 1000000 in
theorem insert_yes (w : World) (s : Sl) (l : List Int) (i : Nat) (x : Int) (R : Ints w s l) (hi : i ≤ l.length) (hb : l.length ≤ 1048576) :
    Calls Tryz.prog 131 #[s.val, .int .i64 i, .int .i64 x] w fun e w' => ∃ s' : Sl, e = .returned (.tuple #[s'.val, .nilIface]) ∧ Ints w' s' (l.insertIdx i x) ∧ (∀ b, s'.owns b → w.heap.size ≤ b ∧ b < w'.heap.size) ∧ Grow w w' := by
  have hl := R.len
  have RH := Lib.hid R
  by_cases he : i = s.n
  · subst he
    have HL := Lib.hid hl
    clear R hl
    go_enter Tryz.func131, Tryz.ntmps131
    go_wp2_with (first | (go_at_call 29; refine (cloned_ints _ s l (RH.out.grow (by repeat (first | exact Grow.refl _ | refine Grow.andr ?_ | refine Grow.plus ?_ _ | refine Grow.alloc ?_ _ | refine Grow.drew ?_ | refine Grow.drewN ?_ _))) hb).mono ?_; rintro e w' ⟨s1, rfl, hO, _, nx, rfl⟩; have HO := Lib.hid hO; clear hO) | (go_at_call 143; refine (ins_ints _ s1 l s.n x _ _ hi hb (HO.out.grow (by repeat (first | exact Grow.refl _ | refine Grow.andr ?_ | refine Grow.plus ?_ _ | refine Grow.alloc ?_ _ | refine Grow.drew ?_ | refine Grow.drewN ?_ _))) (by rw [← plus_size]; exact heap_alloc_new _ _) (fun h => by have := (HO.out.lt _ h).2; rw [plus_size] at this; omega)).mono ?_; rintro e w' ⟨s2, rfl, hI2, hown, hK⟩))
    go_ret2
    refine ⟨s2, rfl, hI2, fun b hb => ?_, ?_⟩
    · rcases hown b hb with h | ⟨h, h2⟩
      · exact ⟨(HO.out.lt b h).1, Nat.lt_of_lt_of_le (HO.out.lt b h).2 (Nat.le_trans (Grow.size (by repeat (first | exact Grow.refl _ | refine Grow.andr ?_ | refine Grow.plus ?_ _ | refine Grow.alloc ?_ _ | refine Grow.drew ?_ | refine Grow.drewN ?_ _))) hK.size)⟩
      · exact ⟨by rw [alloc_size', plus_size] at h; omega, h2⟩
    · exact hK.grow_of (by repeat (first | exact Grow.refl _ | refine Grow.andr ?_ | refine Grow.plus ?_ _ | refine Grow.alloc ?_ _ | refine Grow.drew ?_ | refine Grow.drewN ?_ _)) (fun k hk => (HO.out.lt k hk).1)
  · have hin : inR (i : Int) s.n = true := inR_of i _ (by omega)
    have HL := Lib.hid hl
    clear R hl
    go_enter Tryz.func131, Tryz.ntmps131
    go_wp2_with (first | (go_at_call 141; refine (place_any _ s _).mono ?_; rintro e' w' ⟨rfl, hww⟩; subst w') | (go_at_call 29; refine (cloned_ints _ s l (RH.out.grow (by repeat (first | exact Grow.refl _ | refine Grow.andr ?_ | refine Grow.plus ?_ _ | refine Grow.alloc ?_ _ | refine Grow.drew ?_ | refine Grow.drewN ?_ _))) hb).mono ?_; rintro e w' ⟨s1, rfl, hO, _, nx, rfl⟩; have HO := Lib.hid hO; clear hO) | (go_at_call 143; refine (ins_ints _ s1 l i x _ _ hi hb (HO.out.grow (by repeat (first | exact Grow.refl _ | refine Grow.andr ?_ | refine Grow.plus ?_ _ | refine Grow.alloc ?_ _ | refine Grow.drew ?_ | refine Grow.drewN ?_ _))) (by rw [← plus_size]; exact heap_alloc_new _ _) (fun h => by have := (HO.out.lt _ h).2; rw [plus_size] at this; omega)).mono ?_; rintro e w' ⟨s2, rfl, hI2, hown, hK⟩))
    go_ret2
    refine ⟨s2, rfl, hI2, fun b hb => ?_, ?_⟩
    · rcases hown b hb with h | ⟨h, h2⟩
      · exact ⟨(HO.out.lt b h).1, Nat.lt_of_lt_of_le (HO.out.lt b h).2 (Nat.le_trans (Grow.size (by repeat (first | exact Grow.refl _ | refine Grow.andr ?_ | refine Grow.plus ?_ _ | refine Grow.alloc ?_ _ | refine Grow.drew ?_ | refine Grow.drewN ?_ _))) hK.size)⟩
      · exact ⟨by rw [alloc_size', plus_size] at h; omega, h2⟩
    · exact hK.grow_of (by repeat (first | exact Grow.refl _ | refine Grow.andr ?_ | refine Grow.plus ?_ _ | refine Grow.alloc ?_ _ | refine Grow.drew ?_ | refine Grow.drewN ?_ _)) (fun k hk => (HO.out.lt k hk).1)
end Go.Proofs.YtibmnofpoenonaaGreatDoor
