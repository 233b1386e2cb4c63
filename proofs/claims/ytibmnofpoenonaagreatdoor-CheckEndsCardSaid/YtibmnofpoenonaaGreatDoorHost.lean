/-
  A block that begins with a state: its cells.
-/
import Derived.Test.YtibmnofpoenonaaGreatDoorKept
namespace Go.Proofs.YtibmnofpoenonaaGreatDoor
open Go Go.RowKit

def hoA (V : SV) (num : Nat → Int) (rest : Array Value) : Array Value := stA V num ++ rest
@[go_sem] theorem hoA_size (V : SV) (num : Nat → Int) (rest : Array Value) : (hoA V num rest).size = 37 + rest.size := by simp [hoA, stA_size]
theorem hoA_lt (V : SV) (num : Nat → Int) (rest : Array Value) (i : Nat) (h : i < 37) : (hoA V num rest)[i]? = (stA V num)[i]? := by
  unfold hoA; rw [Array.getElem?_append_left (by rw [stA_size]; exact h)]
@[go_sem] theorem hoA_all (V : SV) (num : Nat → Int) (rest : Array Value) : sub (hoA V num rest) 0 37 = stA V num := by
  unfold sub hoA
  apply Array.ext_getElem?
  intro i
  rw [Array.getElem?_extract]
  by_cases h : i < 37
  · rw [if_pos (by rw [Array.size_append, stA_size]; omega), Nat.zero_add, Array.getElem?_append_left (by rw [stA_size]; exact h)]
  · rw [if_neg (by omega), Array.getElem?_eq_none (by rw [stA_size]; omega)]
@[go_sem] theorem hoA_objs (V : SV) (num : Nat → Int) (rest : Array Value) : (hoA V num rest)[0]? = some V.objs.val := by rw [hoA_lt _ _ _ _ (by omega), stA_objs]
@[go_sem] theorem hoA_list (V : SV) (num : Nat → Int) (rest : Array Value) (z : Nat) (h : z < 11) : (hoA V num rest)[1 + z]? = some (V.list z).val := by rw [hoA_lt _ _ _ _ (by omega), stA_list _ _ _ h]
@[go_sem] theorem hoA_num (V : SV) (num : Nat → Int) (rest : Array Value) (i : Nat) (h : i < 25) : (hoA V num rest)[12 + i]? = some (I (num i)) := by rw [hoA_lt _ _ _ _ (by omega), stA_num _ _ _ h]
theorem hoA_rest (V : SV) (num : Nat → Int) (rest : Array Value) (i : Nat) : (hoA V num rest)[37 + i]? = rest[i]? := by
  unfold hoA; rw [Array.getElem?_append_right (by rw [stA_size]; omega), stA_size]; congr 1; omega
theorem hoA_set (V V' : SV) (num num' : Nat → Int) (rest : Array Value) (i : Nat) (v : Value) (h : i < 37) (e : (stA V num).setIfInBounds i v = stA V' num') : (hoA V num rest).setIfInBounds i v = hoA V' num' rest := by
  unfold hoA; rw [Array.setIfInBounds_append_left (by rw [stA_size]; exact h), e]
@[go_sem] theorem hoA_setObjs (V : SV) (num : Nat → Int) (rest : Array Value) (s : Sl) : (hoA V num rest).setIfInBounds 0 s.val = hoA { V with objs := s } num rest := hoA_set _ _ _ _ _ _ _ (by omega) (stA_setObjs V num s)
@[go_sem] theorem hoA_setList (V : SV) (num : Nat → Int) (rest : Array Value) (z : Nat) (s : Sl) (hz : z < 11) : (hoA V num rest).setIfInBounds (1 + z) s.val = hoA { V with list := upd V.list z s } num rest := hoA_set _ _ _ _ _ _ _ (by omega) (stA_setList V num z s hz)
@[go_sem] theorem stA_setNum (V : SV) (num : Nat → Int) (f : Nat) (x : Int) (hf : f < 25) : (stA V num).setIfInBounds (12 + f) (.int .i64 x) = stA V (upd num f x) := by
  apply Array.ext_getElem?
  intro i
  rw [Array.getElem?_setIfInBounds]
  by_cases h : 12 + f = i
  · subst h
    rw [if_pos rfl, if_pos (by simp [stA]; omega)]
    simp [stA, show 12 + f < 37 by omega, upd]
    intro h2; omega
  · rw [if_neg h]
    simp only [stA, List.getElem?_toArray, List.getElem?_map]
    by_cases h2 : i < 37
    · rw [List.getElem?_eq_getElem (by simpa using h2)]
      simp only [List.getElem_range, Option.map_some]
      congr 1
      by_cases h0 : i = 0
      · simp [h0]
      · by_cases h12 : i < 12
        · simp [h0, h12]
        · simp [h0, h12, upd, show ¬ i - 12 = f by omega]
    · simp [h2]
@[go_sem] theorem hoA_setNum (V : SV) (num : Nat → Int) (rest : Array Value) (f : Nat) (x : Int) (hf : f < 25) : (hoA V num rest).setIfInBounds (12 + f) (.int .i64 x) = hoA V (upd num f x) rest := hoA_set _ _ _ _ _ _ _ (by omega) (stA_setNum V num f x hf)
theorem hoA_setRest (V : SV) (num : Nat → Int) (rest : Array Value) (i : Nat) (v : Value) : (hoA V num rest).setIfInBounds (37 + i) v = hoA V num (rest.setIfInBounds i v) := by
  unfold hoA
  rw [Array.setIfInBounds_append_right (by rw [stA_size]; omega), stA_size, show 37 + i - 37 = i by omega]

@[go_sem] theorem stA_at1 (V : SV) (num : Nat → Int) : (stA V num)[1]? = some (V.list 0).val := stA_list V num 0 (by omega)
@[go_sem] theorem hoA_at1 (V : SV) (num : Nat → Int) (rest : Array Value) : (hoA V num rest)[1]? = some (V.list 0).val := hoA_list V num rest 0 (by omega)
@[go_sem] theorem stA_put1 (V : SV) (num : Nat → Int) (s : Sl) : (stA V num).setIfInBounds 1 s.val = stA { V with list := upd V.list 0 s } num := stA_setList V num 0 s (by omega)
@[go_sem] theorem hoA_put1 (V : SV) (num : Nat → Int) (rest : Array Value) (s : Sl) : (hoA V num rest).setIfInBounds 1 s.val = hoA { V with list := upd V.list 0 s } num rest := hoA_setList V num rest 0 s (by omega)
@[go_sem] theorem stA_at2 (V : SV) (num : Nat → Int) : (stA V num)[2]? = some (V.list 1).val := stA_list V num 1 (by omega)
@[go_sem] theorem hoA_at2 (V : SV) (num : Nat → Int) (rest : Array Value) : (hoA V num rest)[2]? = some (V.list 1).val := hoA_list V num rest 1 (by omega)
@[go_sem] theorem stA_put2 (V : SV) (num : Nat → Int) (s : Sl) : (stA V num).setIfInBounds 2 s.val = stA { V with list := upd V.list 1 s } num := stA_setList V num 1 s (by omega)
@[go_sem] theorem hoA_put2 (V : SV) (num : Nat → Int) (rest : Array Value) (s : Sl) : (hoA V num rest).setIfInBounds 2 s.val = hoA { V with list := upd V.list 1 s } num rest := hoA_setList V num rest 1 s (by omega)
@[go_sem] theorem stA_at3 (V : SV) (num : Nat → Int) : (stA V num)[3]? = some (V.list 2).val := stA_list V num 2 (by omega)
@[go_sem] theorem hoA_at3 (V : SV) (num : Nat → Int) (rest : Array Value) : (hoA V num rest)[3]? = some (V.list 2).val := hoA_list V num rest 2 (by omega)
@[go_sem] theorem stA_put3 (V : SV) (num : Nat → Int) (s : Sl) : (stA V num).setIfInBounds 3 s.val = stA { V with list := upd V.list 2 s } num := stA_setList V num 2 s (by omega)
@[go_sem] theorem hoA_put3 (V : SV) (num : Nat → Int) (rest : Array Value) (s : Sl) : (hoA V num rest).setIfInBounds 3 s.val = hoA { V with list := upd V.list 2 s } num rest := hoA_setList V num rest 2 s (by omega)
@[go_sem] theorem stA_at4 (V : SV) (num : Nat → Int) : (stA V num)[4]? = some (V.list 3).val := stA_list V num 3 (by omega)
@[go_sem] theorem hoA_at4 (V : SV) (num : Nat → Int) (rest : Array Value) : (hoA V num rest)[4]? = some (V.list 3).val := hoA_list V num rest 3 (by omega)
@[go_sem] theorem stA_put4 (V : SV) (num : Nat → Int) (s : Sl) : (stA V num).setIfInBounds 4 s.val = stA { V with list := upd V.list 3 s } num := stA_setList V num 3 s (by omega)
@[go_sem] theorem hoA_put4 (V : SV) (num : Nat → Int) (rest : Array Value) (s : Sl) : (hoA V num rest).setIfInBounds 4 s.val = hoA { V with list := upd V.list 3 s } num rest := hoA_setList V num rest 3 s (by omega)
@[go_sem] theorem stA_at5 (V : SV) (num : Nat → Int) : (stA V num)[5]? = some (V.list 4).val := stA_list V num 4 (by omega)
@[go_sem] theorem hoA_at5 (V : SV) (num : Nat → Int) (rest : Array Value) : (hoA V num rest)[5]? = some (V.list 4).val := hoA_list V num rest 4 (by omega)
@[go_sem] theorem stA_put5 (V : SV) (num : Nat → Int) (s : Sl) : (stA V num).setIfInBounds 5 s.val = stA { V with list := upd V.list 4 s } num := stA_setList V num 4 s (by omega)
@[go_sem] theorem hoA_put5 (V : SV) (num : Nat → Int) (rest : Array Value) (s : Sl) : (hoA V num rest).setIfInBounds 5 s.val = hoA { V with list := upd V.list 4 s } num rest := hoA_setList V num rest 4 s (by omega)
@[go_sem] theorem stA_at6 (V : SV) (num : Nat → Int) : (stA V num)[6]? = some (V.list 5).val := stA_list V num 5 (by omega)
@[go_sem] theorem hoA_at6 (V : SV) (num : Nat → Int) (rest : Array Value) : (hoA V num rest)[6]? = some (V.list 5).val := hoA_list V num rest 5 (by omega)
@[go_sem] theorem stA_put6 (V : SV) (num : Nat → Int) (s : Sl) : (stA V num).setIfInBounds 6 s.val = stA { V with list := upd V.list 5 s } num := stA_setList V num 5 s (by omega)
@[go_sem] theorem hoA_put6 (V : SV) (num : Nat → Int) (rest : Array Value) (s : Sl) : (hoA V num rest).setIfInBounds 6 s.val = hoA { V with list := upd V.list 5 s } num rest := hoA_setList V num rest 5 s (by omega)
@[go_sem] theorem stA_at7 (V : SV) (num : Nat → Int) : (stA V num)[7]? = some (V.list 6).val := stA_list V num 6 (by omega)
@[go_sem] theorem hoA_at7 (V : SV) (num : Nat → Int) (rest : Array Value) : (hoA V num rest)[7]? = some (V.list 6).val := hoA_list V num rest 6 (by omega)
@[go_sem] theorem stA_put7 (V : SV) (num : Nat → Int) (s : Sl) : (stA V num).setIfInBounds 7 s.val = stA { V with list := upd V.list 6 s } num := stA_setList V num 6 s (by omega)
@[go_sem] theorem hoA_put7 (V : SV) (num : Nat → Int) (rest : Array Value) (s : Sl) : (hoA V num rest).setIfInBounds 7 s.val = hoA { V with list := upd V.list 6 s } num rest := hoA_setList V num rest 6 s (by omega)
@[go_sem] theorem stA_at8 (V : SV) (num : Nat → Int) : (stA V num)[8]? = some (V.list 7).val := stA_list V num 7 (by omega)
@[go_sem] theorem hoA_at8 (V : SV) (num : Nat → Int) (rest : Array Value) : (hoA V num rest)[8]? = some (V.list 7).val := hoA_list V num rest 7 (by omega)
@[go_sem] theorem stA_put8 (V : SV) (num : Nat → Int) (s : Sl) : (stA V num).setIfInBounds 8 s.val = stA { V with list := upd V.list 7 s } num := stA_setList V num 7 s (by omega)
@[go_sem] theorem hoA_put8 (V : SV) (num : Nat → Int) (rest : Array Value) (s : Sl) : (hoA V num rest).setIfInBounds 8 s.val = hoA { V with list := upd V.list 7 s } num rest := hoA_setList V num rest 7 s (by omega)
@[go_sem] theorem stA_at9 (V : SV) (num : Nat → Int) : (stA V num)[9]? = some (V.list 8).val := stA_list V num 8 (by omega)
@[go_sem] theorem hoA_at9 (V : SV) (num : Nat → Int) (rest : Array Value) : (hoA V num rest)[9]? = some (V.list 8).val := hoA_list V num rest 8 (by omega)
@[go_sem] theorem stA_put9 (V : SV) (num : Nat → Int) (s : Sl) : (stA V num).setIfInBounds 9 s.val = stA { V with list := upd V.list 8 s } num := stA_setList V num 8 s (by omega)
@[go_sem] theorem hoA_put9 (V : SV) (num : Nat → Int) (rest : Array Value) (s : Sl) : (hoA V num rest).setIfInBounds 9 s.val = hoA { V with list := upd V.list 8 s } num rest := hoA_setList V num rest 8 s (by omega)
@[go_sem] theorem stA_at10 (V : SV) (num : Nat → Int) : (stA V num)[10]? = some (V.list 9).val := stA_list V num 9 (by omega)
@[go_sem] theorem hoA_at10 (V : SV) (num : Nat → Int) (rest : Array Value) : (hoA V num rest)[10]? = some (V.list 9).val := hoA_list V num rest 9 (by omega)
@[go_sem] theorem stA_put10 (V : SV) (num : Nat → Int) (s : Sl) : (stA V num).setIfInBounds 10 s.val = stA { V with list := upd V.list 9 s } num := stA_setList V num 9 s (by omega)
@[go_sem] theorem hoA_put10 (V : SV) (num : Nat → Int) (rest : Array Value) (s : Sl) : (hoA V num rest).setIfInBounds 10 s.val = hoA { V with list := upd V.list 9 s } num rest := hoA_setList V num rest 9 s (by omega)
@[go_sem] theorem stA_at11 (V : SV) (num : Nat → Int) : (stA V num)[11]? = some (V.list 10).val := stA_list V num 10 (by omega)
@[go_sem] theorem hoA_at11 (V : SV) (num : Nat → Int) (rest : Array Value) : (hoA V num rest)[11]? = some (V.list 10).val := hoA_list V num rest 10 (by omega)
@[go_sem] theorem stA_put11 (V : SV) (num : Nat → Int) (s : Sl) : (stA V num).setIfInBounds 11 s.val = stA { V with list := upd V.list 10 s } num := stA_setList V num 10 s (by omega)
@[go_sem] theorem hoA_put11 (V : SV) (num : Nat → Int) (rest : Array Value) (s : Sl) : (hoA V num rest).setIfInBounds 11 s.val = hoA { V with list := upd V.list 10 s } num rest := hoA_setList V num rest 10 s (by omega)
@[go_sem] theorem stA_at12 (V : SV) (num : Nat → Int) : (stA V num)[12]? = some (I (num 0)) := stA_num V num 0 (by omega)
@[go_sem] theorem hoA_at12 (V : SV) (num : Nat → Int) (rest : Array Value) : (hoA V num rest)[12]? = some (I (num 0)) := hoA_num V num rest 0 (by omega)
@[go_sem] theorem stA_at13 (V : SV) (num : Nat → Int) : (stA V num)[13]? = some (I (num 1)) := stA_num V num 1 (by omega)
@[go_sem] theorem hoA_at13 (V : SV) (num : Nat → Int) (rest : Array Value) : (hoA V num rest)[13]? = some (I (num 1)) := hoA_num V num rest 1 (by omega)
@[go_sem] theorem stA_at14 (V : SV) (num : Nat → Int) : (stA V num)[14]? = some (I (num 2)) := stA_num V num 2 (by omega)
@[go_sem] theorem hoA_at14 (V : SV) (num : Nat → Int) (rest : Array Value) : (hoA V num rest)[14]? = some (I (num 2)) := hoA_num V num rest 2 (by omega)
@[go_sem] theorem stA_at15 (V : SV) (num : Nat → Int) : (stA V num)[15]? = some (I (num 3)) := stA_num V num 3 (by omega)
@[go_sem] theorem hoA_at15 (V : SV) (num : Nat → Int) (rest : Array Value) : (hoA V num rest)[15]? = some (I (num 3)) := hoA_num V num rest 3 (by omega)
@[go_sem] theorem stA_at16 (V : SV) (num : Nat → Int) : (stA V num)[16]? = some (I (num 4)) := stA_num V num 4 (by omega)
@[go_sem] theorem hoA_at16 (V : SV) (num : Nat → Int) (rest : Array Value) : (hoA V num rest)[16]? = some (I (num 4)) := hoA_num V num rest 4 (by omega)
@[go_sem] theorem stA_at17 (V : SV) (num : Nat → Int) : (stA V num)[17]? = some (I (num 5)) := stA_num V num 5 (by omega)
@[go_sem] theorem hoA_at17 (V : SV) (num : Nat → Int) (rest : Array Value) : (hoA V num rest)[17]? = some (I (num 5)) := hoA_num V num rest 5 (by omega)
@[go_sem] theorem stA_at18 (V : SV) (num : Nat → Int) : (stA V num)[18]? = some (I (num 6)) := stA_num V num 6 (by omega)
@[go_sem] theorem hoA_at18 (V : SV) (num : Nat → Int) (rest : Array Value) : (hoA V num rest)[18]? = some (I (num 6)) := hoA_num V num rest 6 (by omega)
@[go_sem] theorem stA_at19 (V : SV) (num : Nat → Int) : (stA V num)[19]? = some (I (num 7)) := stA_num V num 7 (by omega)
@[go_sem] theorem hoA_at19 (V : SV) (num : Nat → Int) (rest : Array Value) : (hoA V num rest)[19]? = some (I (num 7)) := hoA_num V num rest 7 (by omega)
@[go_sem] theorem stA_at20 (V : SV) (num : Nat → Int) : (stA V num)[20]? = some (I (num 8)) := stA_num V num 8 (by omega)
@[go_sem] theorem hoA_at20 (V : SV) (num : Nat → Int) (rest : Array Value) : (hoA V num rest)[20]? = some (I (num 8)) := hoA_num V num rest 8 (by omega)
@[go_sem] theorem stA_at21 (V : SV) (num : Nat → Int) : (stA V num)[21]? = some (I (num 9)) := stA_num V num 9 (by omega)
@[go_sem] theorem hoA_at21 (V : SV) (num : Nat → Int) (rest : Array Value) : (hoA V num rest)[21]? = some (I (num 9)) := hoA_num V num rest 9 (by omega)
@[go_sem] theorem stA_at22 (V : SV) (num : Nat → Int) : (stA V num)[22]? = some (I (num 10)) := stA_num V num 10 (by omega)
@[go_sem] theorem hoA_at22 (V : SV) (num : Nat → Int) (rest : Array Value) : (hoA V num rest)[22]? = some (I (num 10)) := hoA_num V num rest 10 (by omega)
@[go_sem] theorem stA_at23 (V : SV) (num : Nat → Int) : (stA V num)[23]? = some (I (num 11)) := stA_num V num 11 (by omega)
@[go_sem] theorem hoA_at23 (V : SV) (num : Nat → Int) (rest : Array Value) : (hoA V num rest)[23]? = some (I (num 11)) := hoA_num V num rest 11 (by omega)
@[go_sem] theorem stA_at24 (V : SV) (num : Nat → Int) : (stA V num)[24]? = some (I (num 12)) := stA_num V num 12 (by omega)
@[go_sem] theorem hoA_at24 (V : SV) (num : Nat → Int) (rest : Array Value) : (hoA V num rest)[24]? = some (I (num 12)) := hoA_num V num rest 12 (by omega)
@[go_sem] theorem stA_at25 (V : SV) (num : Nat → Int) : (stA V num)[25]? = some (I (num 13)) := stA_num V num 13 (by omega)
@[go_sem] theorem hoA_at25 (V : SV) (num : Nat → Int) (rest : Array Value) : (hoA V num rest)[25]? = some (I (num 13)) := hoA_num V num rest 13 (by omega)
@[go_sem] theorem stA_at26 (V : SV) (num : Nat → Int) : (stA V num)[26]? = some (I (num 14)) := stA_num V num 14 (by omega)
@[go_sem] theorem hoA_at26 (V : SV) (num : Nat → Int) (rest : Array Value) : (hoA V num rest)[26]? = some (I (num 14)) := hoA_num V num rest 14 (by omega)
@[go_sem] theorem stA_at27 (V : SV) (num : Nat → Int) : (stA V num)[27]? = some (I (num 15)) := stA_num V num 15 (by omega)
@[go_sem] theorem hoA_at27 (V : SV) (num : Nat → Int) (rest : Array Value) : (hoA V num rest)[27]? = some (I (num 15)) := hoA_num V num rest 15 (by omega)
@[go_sem] theorem stA_at28 (V : SV) (num : Nat → Int) : (stA V num)[28]? = some (I (num 16)) := stA_num V num 16 (by omega)
@[go_sem] theorem hoA_at28 (V : SV) (num : Nat → Int) (rest : Array Value) : (hoA V num rest)[28]? = some (I (num 16)) := hoA_num V num rest 16 (by omega)
@[go_sem] theorem stA_at29 (V : SV) (num : Nat → Int) : (stA V num)[29]? = some (I (num 17)) := stA_num V num 17 (by omega)
@[go_sem] theorem hoA_at29 (V : SV) (num : Nat → Int) (rest : Array Value) : (hoA V num rest)[29]? = some (I (num 17)) := hoA_num V num rest 17 (by omega)
@[go_sem] theorem stA_at30 (V : SV) (num : Nat → Int) : (stA V num)[30]? = some (I (num 18)) := stA_num V num 18 (by omega)
@[go_sem] theorem hoA_at30 (V : SV) (num : Nat → Int) (rest : Array Value) : (hoA V num rest)[30]? = some (I (num 18)) := hoA_num V num rest 18 (by omega)
@[go_sem] theorem stA_at31 (V : SV) (num : Nat → Int) : (stA V num)[31]? = some (I (num 19)) := stA_num V num 19 (by omega)
@[go_sem] theorem hoA_at31 (V : SV) (num : Nat → Int) (rest : Array Value) : (hoA V num rest)[31]? = some (I (num 19)) := hoA_num V num rest 19 (by omega)
@[go_sem] theorem stA_at32 (V : SV) (num : Nat → Int) : (stA V num)[32]? = some (I (num 20)) := stA_num V num 20 (by omega)
@[go_sem] theorem hoA_at32 (V : SV) (num : Nat → Int) (rest : Array Value) : (hoA V num rest)[32]? = some (I (num 20)) := hoA_num V num rest 20 (by omega)
@[go_sem] theorem stA_at33 (V : SV) (num : Nat → Int) : (stA V num)[33]? = some (I (num 21)) := stA_num V num 21 (by omega)
@[go_sem] theorem hoA_at33 (V : SV) (num : Nat → Int) (rest : Array Value) : (hoA V num rest)[33]? = some (I (num 21)) := hoA_num V num rest 21 (by omega)
@[go_sem] theorem stA_at34 (V : SV) (num : Nat → Int) : (stA V num)[34]? = some (I (num 22)) := stA_num V num 22 (by omega)
@[go_sem] theorem hoA_at34 (V : SV) (num : Nat → Int) (rest : Array Value) : (hoA V num rest)[34]? = some (I (num 22)) := hoA_num V num rest 22 (by omega)
@[go_sem] theorem stA_at35 (V : SV) (num : Nat → Int) : (stA V num)[35]? = some (I (num 23)) := stA_num V num 23 (by omega)
@[go_sem] theorem hoA_at35 (V : SV) (num : Nat → Int) (rest : Array Value) : (hoA V num rest)[35]? = some (I (num 23)) := hoA_num V num rest 23 (by omega)
@[go_sem] theorem stA_at36 (V : SV) (num : Nat → Int) : (stA V num)[36]? = some (I (num 24)) := stA_num V num 24 (by omega)
@[go_sem] theorem hoA_at36 (V : SV) (num : Nat → Int) (rest : Array Value) : (hoA V num rest)[36]? = some (I (num 24)) := hoA_num V num rest 24 (by omega)
@[go_sem] theorem hoA_at37 (V : SV) (num : Nat → Int) (rest : Array Value) : (hoA V num rest)[37]? = rest[0]? := hoA_rest V num rest 0
@[go_sem] theorem hoA_put37 (V : SV) (num : Nat → Int) (rest : Array Value) (v : Value) : (hoA V num rest).setIfInBounds 37 v = hoA V num (rest.setIfInBounds 0 v) := hoA_setRest V num rest 0 v
@[go_sem] theorem hoA_at38 (V : SV) (num : Nat → Int) (rest : Array Value) : (hoA V num rest)[38]? = rest[1]? := hoA_rest V num rest 1
@[go_sem] theorem hoA_put38 (V : SV) (num : Nat → Int) (rest : Array Value) (v : Value) : (hoA V num rest).setIfInBounds 38 v = hoA V num (rest.setIfInBounds 1 v) := hoA_setRest V num rest 1 v
@[go_sem] theorem hoA_at39 (V : SV) (num : Nat → Int) (rest : Array Value) : (hoA V num rest)[39]? = rest[2]? := hoA_rest V num rest 2
@[go_sem] theorem hoA_put39 (V : SV) (num : Nat → Int) (rest : Array Value) (v : Value) : (hoA V num rest).setIfInBounds 39 v = hoA V num (rest.setIfInBounds 2 v) := hoA_setRest V num rest 2 v
@[go_sem] theorem hoA_at40 (V : SV) (num : Nat → Int) (rest : Array Value) : (hoA V num rest)[40]? = rest[3]? := hoA_rest V num rest 3
@[go_sem] theorem hoA_put40 (V : SV) (num : Nat → Int) (rest : Array Value) (v : Value) : (hoA V num rest).setIfInBounds 40 v = hoA V num (rest.setIfInBounds 3 v) := hoA_setRest V num rest 3 v
@[go_sem] theorem hoA_at41 (V : SV) (num : Nat → Int) (rest : Array Value) : (hoA V num rest)[41]? = rest[4]? := hoA_rest V num rest 4
@[go_sem] theorem hoA_put41 (V : SV) (num : Nat → Int) (rest : Array Value) (v : Value) : (hoA V num rest).setIfInBounds 41 v = hoA V num (rest.setIfInBounds 4 v) := hoA_setRest V num rest 4 v
@[go_sem] theorem hoA_at42 (V : SV) (num : Nat → Int) (rest : Array Value) : (hoA V num rest)[42]? = rest[5]? := hoA_rest V num rest 5
@[go_sem] theorem hoA_put42 (V : SV) (num : Nat → Int) (rest : Array Value) (v : Value) : (hoA V num rest).setIfInBounds 42 v = hoA V num (rest.setIfInBounds 5 v) := hoA_setRest V num rest 5 v
@[go_sem] theorem hoA_objs' (V : SV) (num : Nat → Int) (rest : Array Value) (h : 0 < (hoA V num rest).size) : (hoA V num rest)[0]'h = V.objs.val := by
  have := hoA_objs V num rest
  rw [Array.getElem?_eq_getElem h] at this
  exact Option.some.inj this
@[go_sem] theorem hoA_list' (V : SV) (num : Nat → Int) (rest : Array Value) (z : Nat) (h : 1 + z < (hoA V num rest).size) (hz : z < 11) : (hoA V num rest)[1 + z]'h = (V.list z).val := by
  have := hoA_list V num rest z hz
  rw [Array.getElem?_eq_getElem h] at this
  exact Option.some.inj this
@[go_sem] theorem hoA_num' (V : SV) (num : Nat → Int) (rest : Array Value) (f : Nat) (h : 12 + f < (hoA V num rest).size) (hf : f < 25) : (hoA V num rest)[12 + f]'h = I (num f) := by
  have := hoA_num V num rest f hf
  rw [Array.getElem?_eq_getElem h] at this
  exact Option.some.inj this
@[go_sem] theorem hoA_at1' (V : SV) (num : Nat → Int) (rest : Array Value) (h : 1 < (hoA V num rest).size) : (hoA V num rest)[1]'h = (V.list 0).val := by
  have := hoA_at1 V num rest
  rw [Array.getElem?_eq_getElem h] at this
  exact Option.some.inj this
@[go_sem] theorem stA_at1' (V : SV) (num : Nat → Int) (h : 1 < (stA V num).size) : (stA V num)[1]'h = (V.list 0).val := by
  have := stA_at1 V num
  rw [Array.getElem?_eq_getElem h] at this
  exact Option.some.inj this
@[go_sem] theorem hoA_at2' (V : SV) (num : Nat → Int) (rest : Array Value) (h : 2 < (hoA V num rest).size) : (hoA V num rest)[2]'h = (V.list 1).val := by
  have := hoA_at2 V num rest
  rw [Array.getElem?_eq_getElem h] at this
  exact Option.some.inj this
@[go_sem] theorem stA_at2' (V : SV) (num : Nat → Int) (h : 2 < (stA V num).size) : (stA V num)[2]'h = (V.list 1).val := by
  have := stA_at2 V num
  rw [Array.getElem?_eq_getElem h] at this
  exact Option.some.inj this
@[go_sem] theorem hoA_at3' (V : SV) (num : Nat → Int) (rest : Array Value) (h : 3 < (hoA V num rest).size) : (hoA V num rest)[3]'h = (V.list 2).val := by
  have := hoA_at3 V num rest
  rw [Array.getElem?_eq_getElem h] at this
  exact Option.some.inj this
@[go_sem] theorem stA_at3' (V : SV) (num : Nat → Int) (h : 3 < (stA V num).size) : (stA V num)[3]'h = (V.list 2).val := by
  have := stA_at3 V num
  rw [Array.getElem?_eq_getElem h] at this
  exact Option.some.inj this
@[go_sem] theorem hoA_at4' (V : SV) (num : Nat → Int) (rest : Array Value) (h : 4 < (hoA V num rest).size) : (hoA V num rest)[4]'h = (V.list 3).val := by
  have := hoA_at4 V num rest
  rw [Array.getElem?_eq_getElem h] at this
  exact Option.some.inj this
@[go_sem] theorem stA_at4' (V : SV) (num : Nat → Int) (h : 4 < (stA V num).size) : (stA V num)[4]'h = (V.list 3).val := by
  have := stA_at4 V num
  rw [Array.getElem?_eq_getElem h] at this
  exact Option.some.inj this
@[go_sem] theorem hoA_at5' (V : SV) (num : Nat → Int) (rest : Array Value) (h : 5 < (hoA V num rest).size) : (hoA V num rest)[5]'h = (V.list 4).val := by
  have := hoA_at5 V num rest
  rw [Array.getElem?_eq_getElem h] at this
  exact Option.some.inj this
@[go_sem] theorem stA_at5' (V : SV) (num : Nat → Int) (h : 5 < (stA V num).size) : (stA V num)[5]'h = (V.list 4).val := by
  have := stA_at5 V num
  rw [Array.getElem?_eq_getElem h] at this
  exact Option.some.inj this
@[go_sem] theorem hoA_at6' (V : SV) (num : Nat → Int) (rest : Array Value) (h : 6 < (hoA V num rest).size) : (hoA V num rest)[6]'h = (V.list 5).val := by
  have := hoA_at6 V num rest
  rw [Array.getElem?_eq_getElem h] at this
  exact Option.some.inj this
@[go_sem] theorem stA_at6' (V : SV) (num : Nat → Int) (h : 6 < (stA V num).size) : (stA V num)[6]'h = (V.list 5).val := by
  have := stA_at6 V num
  rw [Array.getElem?_eq_getElem h] at this
  exact Option.some.inj this
@[go_sem] theorem hoA_at7' (V : SV) (num : Nat → Int) (rest : Array Value) (h : 7 < (hoA V num rest).size) : (hoA V num rest)[7]'h = (V.list 6).val := by
  have := hoA_at7 V num rest
  rw [Array.getElem?_eq_getElem h] at this
  exact Option.some.inj this
@[go_sem] theorem stA_at7' (V : SV) (num : Nat → Int) (h : 7 < (stA V num).size) : (stA V num)[7]'h = (V.list 6).val := by
  have := stA_at7 V num
  rw [Array.getElem?_eq_getElem h] at this
  exact Option.some.inj this
@[go_sem] theorem hoA_at8' (V : SV) (num : Nat → Int) (rest : Array Value) (h : 8 < (hoA V num rest).size) : (hoA V num rest)[8]'h = (V.list 7).val := by
  have := hoA_at8 V num rest
  rw [Array.getElem?_eq_getElem h] at this
  exact Option.some.inj this
@[go_sem] theorem stA_at8' (V : SV) (num : Nat → Int) (h : 8 < (stA V num).size) : (stA V num)[8]'h = (V.list 7).val := by
  have := stA_at8 V num
  rw [Array.getElem?_eq_getElem h] at this
  exact Option.some.inj this
@[go_sem] theorem hoA_at9' (V : SV) (num : Nat → Int) (rest : Array Value) (h : 9 < (hoA V num rest).size) : (hoA V num rest)[9]'h = (V.list 8).val := by
  have := hoA_at9 V num rest
  rw [Array.getElem?_eq_getElem h] at this
  exact Option.some.inj this
@[go_sem] theorem stA_at9' (V : SV) (num : Nat → Int) (h : 9 < (stA V num).size) : (stA V num)[9]'h = (V.list 8).val := by
  have := stA_at9 V num
  rw [Array.getElem?_eq_getElem h] at this
  exact Option.some.inj this
@[go_sem] theorem hoA_at10' (V : SV) (num : Nat → Int) (rest : Array Value) (h : 10 < (hoA V num rest).size) : (hoA V num rest)[10]'h = (V.list 9).val := by
  have := hoA_at10 V num rest
  rw [Array.getElem?_eq_getElem h] at this
  exact Option.some.inj this
@[go_sem] theorem stA_at10' (V : SV) (num : Nat → Int) (h : 10 < (stA V num).size) : (stA V num)[10]'h = (V.list 9).val := by
  have := stA_at10 V num
  rw [Array.getElem?_eq_getElem h] at this
  exact Option.some.inj this
@[go_sem] theorem hoA_at11' (V : SV) (num : Nat → Int) (rest : Array Value) (h : 11 < (hoA V num rest).size) : (hoA V num rest)[11]'h = (V.list 10).val := by
  have := hoA_at11 V num rest
  rw [Array.getElem?_eq_getElem h] at this
  exact Option.some.inj this
@[go_sem] theorem stA_at11' (V : SV) (num : Nat → Int) (h : 11 < (stA V num).size) : (stA V num)[11]'h = (V.list 10).val := by
  have := stA_at11 V num
  rw [Array.getElem?_eq_getElem h] at this
  exact Option.some.inj this
@[go_sem] theorem hoA_at12' (V : SV) (num : Nat → Int) (rest : Array Value) (h : 12 < (hoA V num rest).size) : (hoA V num rest)[12]'h = I (num 0) := by
  have := hoA_at12 V num rest
  rw [Array.getElem?_eq_getElem h] at this
  exact Option.some.inj this
@[go_sem] theorem stA_at12' (V : SV) (num : Nat → Int) (h : 12 < (stA V num).size) : (stA V num)[12]'h = I (num 0) := by
  have := stA_at12 V num
  rw [Array.getElem?_eq_getElem h] at this
  exact Option.some.inj this
@[go_sem] theorem hoA_at13' (V : SV) (num : Nat → Int) (rest : Array Value) (h : 13 < (hoA V num rest).size) : (hoA V num rest)[13]'h = I (num 1) := by
  have := hoA_at13 V num rest
  rw [Array.getElem?_eq_getElem h] at this
  exact Option.some.inj this
@[go_sem] theorem stA_at13' (V : SV) (num : Nat → Int) (h : 13 < (stA V num).size) : (stA V num)[13]'h = I (num 1) := by
  have := stA_at13 V num
  rw [Array.getElem?_eq_getElem h] at this
  exact Option.some.inj this
@[go_sem] theorem hoA_at14' (V : SV) (num : Nat → Int) (rest : Array Value) (h : 14 < (hoA V num rest).size) : (hoA V num rest)[14]'h = I (num 2) := by
  have := hoA_at14 V num rest
  rw [Array.getElem?_eq_getElem h] at this
  exact Option.some.inj this
@[go_sem] theorem stA_at14' (V : SV) (num : Nat → Int) (h : 14 < (stA V num).size) : (stA V num)[14]'h = I (num 2) := by
  have := stA_at14 V num
  rw [Array.getElem?_eq_getElem h] at this
  exact Option.some.inj this
@[go_sem] theorem hoA_at15' (V : SV) (num : Nat → Int) (rest : Array Value) (h : 15 < (hoA V num rest).size) : (hoA V num rest)[15]'h = I (num 3) := by
  have := hoA_at15 V num rest
  rw [Array.getElem?_eq_getElem h] at this
  exact Option.some.inj this
@[go_sem] theorem stA_at15' (V : SV) (num : Nat → Int) (h : 15 < (stA V num).size) : (stA V num)[15]'h = I (num 3) := by
  have := stA_at15 V num
  rw [Array.getElem?_eq_getElem h] at this
  exact Option.some.inj this
@[go_sem] theorem hoA_at16' (V : SV) (num : Nat → Int) (rest : Array Value) (h : 16 < (hoA V num rest).size) : (hoA V num rest)[16]'h = I (num 4) := by
  have := hoA_at16 V num rest
  rw [Array.getElem?_eq_getElem h] at this
  exact Option.some.inj this
@[go_sem] theorem stA_at16' (V : SV) (num : Nat → Int) (h : 16 < (stA V num).size) : (stA V num)[16]'h = I (num 4) := by
  have := stA_at16 V num
  rw [Array.getElem?_eq_getElem h] at this
  exact Option.some.inj this
@[go_sem] theorem hoA_at17' (V : SV) (num : Nat → Int) (rest : Array Value) (h : 17 < (hoA V num rest).size) : (hoA V num rest)[17]'h = I (num 5) := by
  have := hoA_at17 V num rest
  rw [Array.getElem?_eq_getElem h] at this
  exact Option.some.inj this
@[go_sem] theorem stA_at17' (V : SV) (num : Nat → Int) (h : 17 < (stA V num).size) : (stA V num)[17]'h = I (num 5) := by
  have := stA_at17 V num
  rw [Array.getElem?_eq_getElem h] at this
  exact Option.some.inj this
@[go_sem] theorem hoA_at18' (V : SV) (num : Nat → Int) (rest : Array Value) (h : 18 < (hoA V num rest).size) : (hoA V num rest)[18]'h = I (num 6) := by
  have := hoA_at18 V num rest
  rw [Array.getElem?_eq_getElem h] at this
  exact Option.some.inj this
@[go_sem] theorem stA_at18' (V : SV) (num : Nat → Int) (h : 18 < (stA V num).size) : (stA V num)[18]'h = I (num 6) := by
  have := stA_at18 V num
  rw [Array.getElem?_eq_getElem h] at this
  exact Option.some.inj this
@[go_sem] theorem hoA_at19' (V : SV) (num : Nat → Int) (rest : Array Value) (h : 19 < (hoA V num rest).size) : (hoA V num rest)[19]'h = I (num 7) := by
  have := hoA_at19 V num rest
  rw [Array.getElem?_eq_getElem h] at this
  exact Option.some.inj this
@[go_sem] theorem stA_at19' (V : SV) (num : Nat → Int) (h : 19 < (stA V num).size) : (stA V num)[19]'h = I (num 7) := by
  have := stA_at19 V num
  rw [Array.getElem?_eq_getElem h] at this
  exact Option.some.inj this
@[go_sem] theorem hoA_at20' (V : SV) (num : Nat → Int) (rest : Array Value) (h : 20 < (hoA V num rest).size) : (hoA V num rest)[20]'h = I (num 8) := by
  have := hoA_at20 V num rest
  rw [Array.getElem?_eq_getElem h] at this
  exact Option.some.inj this
@[go_sem] theorem stA_at20' (V : SV) (num : Nat → Int) (h : 20 < (stA V num).size) : (stA V num)[20]'h = I (num 8) := by
  have := stA_at20 V num
  rw [Array.getElem?_eq_getElem h] at this
  exact Option.some.inj this
@[go_sem] theorem hoA_at21' (V : SV) (num : Nat → Int) (rest : Array Value) (h : 21 < (hoA V num rest).size) : (hoA V num rest)[21]'h = I (num 9) := by
  have := hoA_at21 V num rest
  rw [Array.getElem?_eq_getElem h] at this
  exact Option.some.inj this
@[go_sem] theorem stA_at21' (V : SV) (num : Nat → Int) (h : 21 < (stA V num).size) : (stA V num)[21]'h = I (num 9) := by
  have := stA_at21 V num
  rw [Array.getElem?_eq_getElem h] at this
  exact Option.some.inj this
@[go_sem] theorem hoA_at22' (V : SV) (num : Nat → Int) (rest : Array Value) (h : 22 < (hoA V num rest).size) : (hoA V num rest)[22]'h = I (num 10) := by
  have := hoA_at22 V num rest
  rw [Array.getElem?_eq_getElem h] at this
  exact Option.some.inj this
@[go_sem] theorem stA_at22' (V : SV) (num : Nat → Int) (h : 22 < (stA V num).size) : (stA V num)[22]'h = I (num 10) := by
  have := stA_at22 V num
  rw [Array.getElem?_eq_getElem h] at this
  exact Option.some.inj this
@[go_sem] theorem hoA_at23' (V : SV) (num : Nat → Int) (rest : Array Value) (h : 23 < (hoA V num rest).size) : (hoA V num rest)[23]'h = I (num 11) := by
  have := hoA_at23 V num rest
  rw [Array.getElem?_eq_getElem h] at this
  exact Option.some.inj this
@[go_sem] theorem stA_at23' (V : SV) (num : Nat → Int) (h : 23 < (stA V num).size) : (stA V num)[23]'h = I (num 11) := by
  have := stA_at23 V num
  rw [Array.getElem?_eq_getElem h] at this
  exact Option.some.inj this
@[go_sem] theorem hoA_at24' (V : SV) (num : Nat → Int) (rest : Array Value) (h : 24 < (hoA V num rest).size) : (hoA V num rest)[24]'h = I (num 12) := by
  have := hoA_at24 V num rest
  rw [Array.getElem?_eq_getElem h] at this
  exact Option.some.inj this
@[go_sem] theorem stA_at24' (V : SV) (num : Nat → Int) (h : 24 < (stA V num).size) : (stA V num)[24]'h = I (num 12) := by
  have := stA_at24 V num
  rw [Array.getElem?_eq_getElem h] at this
  exact Option.some.inj this
@[go_sem] theorem hoA_at25' (V : SV) (num : Nat → Int) (rest : Array Value) (h : 25 < (hoA V num rest).size) : (hoA V num rest)[25]'h = I (num 13) := by
  have := hoA_at25 V num rest
  rw [Array.getElem?_eq_getElem h] at this
  exact Option.some.inj this
@[go_sem] theorem stA_at25' (V : SV) (num : Nat → Int) (h : 25 < (stA V num).size) : (stA V num)[25]'h = I (num 13) := by
  have := stA_at25 V num
  rw [Array.getElem?_eq_getElem h] at this
  exact Option.some.inj this
@[go_sem] theorem hoA_at26' (V : SV) (num : Nat → Int) (rest : Array Value) (h : 26 < (hoA V num rest).size) : (hoA V num rest)[26]'h = I (num 14) := by
  have := hoA_at26 V num rest
  rw [Array.getElem?_eq_getElem h] at this
  exact Option.some.inj this
@[go_sem] theorem stA_at26' (V : SV) (num : Nat → Int) (h : 26 < (stA V num).size) : (stA V num)[26]'h = I (num 14) := by
  have := stA_at26 V num
  rw [Array.getElem?_eq_getElem h] at this
  exact Option.some.inj this
@[go_sem] theorem hoA_at27' (V : SV) (num : Nat → Int) (rest : Array Value) (h : 27 < (hoA V num rest).size) : (hoA V num rest)[27]'h = I (num 15) := by
  have := hoA_at27 V num rest
  rw [Array.getElem?_eq_getElem h] at this
  exact Option.some.inj this
@[go_sem] theorem stA_at27' (V : SV) (num : Nat → Int) (h : 27 < (stA V num).size) : (stA V num)[27]'h = I (num 15) := by
  have := stA_at27 V num
  rw [Array.getElem?_eq_getElem h] at this
  exact Option.some.inj this
@[go_sem] theorem hoA_at28' (V : SV) (num : Nat → Int) (rest : Array Value) (h : 28 < (hoA V num rest).size) : (hoA V num rest)[28]'h = I (num 16) := by
  have := hoA_at28 V num rest
  rw [Array.getElem?_eq_getElem h] at this
  exact Option.some.inj this
@[go_sem] theorem stA_at28' (V : SV) (num : Nat → Int) (h : 28 < (stA V num).size) : (stA V num)[28]'h = I (num 16) := by
  have := stA_at28 V num
  rw [Array.getElem?_eq_getElem h] at this
  exact Option.some.inj this
@[go_sem] theorem hoA_at29' (V : SV) (num : Nat → Int) (rest : Array Value) (h : 29 < (hoA V num rest).size) : (hoA V num rest)[29]'h = I (num 17) := by
  have := hoA_at29 V num rest
  rw [Array.getElem?_eq_getElem h] at this
  exact Option.some.inj this
@[go_sem] theorem stA_at29' (V : SV) (num : Nat → Int) (h : 29 < (stA V num).size) : (stA V num)[29]'h = I (num 17) := by
  have := stA_at29 V num
  rw [Array.getElem?_eq_getElem h] at this
  exact Option.some.inj this
@[go_sem] theorem hoA_at30' (V : SV) (num : Nat → Int) (rest : Array Value) (h : 30 < (hoA V num rest).size) : (hoA V num rest)[30]'h = I (num 18) := by
  have := hoA_at30 V num rest
  rw [Array.getElem?_eq_getElem h] at this
  exact Option.some.inj this
@[go_sem] theorem stA_at30' (V : SV) (num : Nat → Int) (h : 30 < (stA V num).size) : (stA V num)[30]'h = I (num 18) := by
  have := stA_at30 V num
  rw [Array.getElem?_eq_getElem h] at this
  exact Option.some.inj this
@[go_sem] theorem hoA_at31' (V : SV) (num : Nat → Int) (rest : Array Value) (h : 31 < (hoA V num rest).size) : (hoA V num rest)[31]'h = I (num 19) := by
  have := hoA_at31 V num rest
  rw [Array.getElem?_eq_getElem h] at this
  exact Option.some.inj this
@[go_sem] theorem stA_at31' (V : SV) (num : Nat → Int) (h : 31 < (stA V num).size) : (stA V num)[31]'h = I (num 19) := by
  have := stA_at31 V num
  rw [Array.getElem?_eq_getElem h] at this
  exact Option.some.inj this
@[go_sem] theorem hoA_at32' (V : SV) (num : Nat → Int) (rest : Array Value) (h : 32 < (hoA V num rest).size) : (hoA V num rest)[32]'h = I (num 20) := by
  have := hoA_at32 V num rest
  rw [Array.getElem?_eq_getElem h] at this
  exact Option.some.inj this
@[go_sem] theorem stA_at32' (V : SV) (num : Nat → Int) (h : 32 < (stA V num).size) : (stA V num)[32]'h = I (num 20) := by
  have := stA_at32 V num
  rw [Array.getElem?_eq_getElem h] at this
  exact Option.some.inj this
@[go_sem] theorem hoA_at33' (V : SV) (num : Nat → Int) (rest : Array Value) (h : 33 < (hoA V num rest).size) : (hoA V num rest)[33]'h = I (num 21) := by
  have := hoA_at33 V num rest
  rw [Array.getElem?_eq_getElem h] at this
  exact Option.some.inj this
@[go_sem] theorem stA_at33' (V : SV) (num : Nat → Int) (h : 33 < (stA V num).size) : (stA V num)[33]'h = I (num 21) := by
  have := stA_at33 V num
  rw [Array.getElem?_eq_getElem h] at this
  exact Option.some.inj this
@[go_sem] theorem hoA_at34' (V : SV) (num : Nat → Int) (rest : Array Value) (h : 34 < (hoA V num rest).size) : (hoA V num rest)[34]'h = I (num 22) := by
  have := hoA_at34 V num rest
  rw [Array.getElem?_eq_getElem h] at this
  exact Option.some.inj this
@[go_sem] theorem stA_at34' (V : SV) (num : Nat → Int) (h : 34 < (stA V num).size) : (stA V num)[34]'h = I (num 22) := by
  have := stA_at34 V num
  rw [Array.getElem?_eq_getElem h] at this
  exact Option.some.inj this
@[go_sem] theorem hoA_at35' (V : SV) (num : Nat → Int) (rest : Array Value) (h : 35 < (hoA V num rest).size) : (hoA V num rest)[35]'h = I (num 23) := by
  have := hoA_at35 V num rest
  rw [Array.getElem?_eq_getElem h] at this
  exact Option.some.inj this
@[go_sem] theorem stA_at35' (V : SV) (num : Nat → Int) (h : 35 < (stA V num).size) : (stA V num)[35]'h = I (num 23) := by
  have := stA_at35 V num
  rw [Array.getElem?_eq_getElem h] at this
  exact Option.some.inj this
@[go_sem] theorem hoA_at36' (V : SV) (num : Nat → Int) (rest : Array Value) (h : 36 < (hoA V num rest).size) : (hoA V num rest)[36]'h = I (num 24) := by
  have := hoA_at36 V num rest
  rw [Array.getElem?_eq_getElem h] at this
  exact Option.some.inj this
@[go_sem] theorem stA_at36' (V : SV) (num : Nat → Int) (h : 36 < (stA V num).size) : (stA V num)[36]'h = I (num 24) := by
  have := stA_at36 V num
  rw [Array.getElem?_eq_getElem h] at this
  exact Option.some.inj this
@[go_sem] theorem hoA_at37' (V : SV) (num : Nat → Int) (rest : Array Value) (h : 37 < (hoA V num rest).size) : (hoA V num rest)[37]'h = rest[0]'(by rw [hoA_size] at h; omega) := by
  have := hoA_at37 V num rest
  rw [Array.getElem?_eq_getElem h, Array.getElem?_eq_getElem (by rw [hoA_size] at h; omega)] at this
  exact Option.some.inj this
@[go_sem] theorem hoA_at38' (V : SV) (num : Nat → Int) (rest : Array Value) (h : 38 < (hoA V num rest).size) : (hoA V num rest)[38]'h = rest[1]'(by rw [hoA_size] at h; omega) := by
  have := hoA_at38 V num rest
  rw [Array.getElem?_eq_getElem h, Array.getElem?_eq_getElem (by rw [hoA_size] at h; omega)] at this
  exact Option.some.inj this
@[go_sem] theorem hoA_at39' (V : SV) (num : Nat → Int) (rest : Array Value) (h : 39 < (hoA V num rest).size) : (hoA V num rest)[39]'h = rest[2]'(by rw [hoA_size] at h; omega) := by
  have := hoA_at39 V num rest
  rw [Array.getElem?_eq_getElem h, Array.getElem?_eq_getElem (by rw [hoA_size] at h; omega)] at this
  exact Option.some.inj this
@[go_sem] theorem hoA_at40' (V : SV) (num : Nat → Int) (rest : Array Value) (h : 40 < (hoA V num rest).size) : (hoA V num rest)[40]'h = rest[3]'(by rw [hoA_size] at h; omega) := by
  have := hoA_at40 V num rest
  rw [Array.getElem?_eq_getElem h, Array.getElem?_eq_getElem (by rw [hoA_size] at h; omega)] at this
  exact Option.some.inj this
@[go_sem] theorem hoA_at41' (V : SV) (num : Nat → Int) (rest : Array Value) (h : 41 < (hoA V num rest).size) : (hoA V num rest)[41]'h = rest[4]'(by rw [hoA_size] at h; omega) := by
  have := hoA_at41 V num rest
  rw [Array.getElem?_eq_getElem h, Array.getElem?_eq_getElem (by rw [hoA_size] at h; omega)] at this
  exact Option.some.inj this
@[go_sem] theorem hoA_at42' (V : SV) (num : Nat → Int) (rest : Array Value) (h : 42 < (hoA V num rest).size) : (hoA V num rest)[42]'h = rest[5]'(by rw [hoA_size] at h; omega) := by
  have := hoA_at42 V num rest
  rw [Array.getElem?_eq_getElem h, Array.getElem?_eq_getElem (by rw [hoA_size] at h; omega)] at this
  exact Option.some.inj this
end Go.Proofs.YtibmnofpoenonaaGreatDoor
