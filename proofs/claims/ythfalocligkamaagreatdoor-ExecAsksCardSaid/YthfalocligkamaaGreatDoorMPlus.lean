/- Worlds that only grow: 'w.plus x' is w with new blocks behind its own and some draws more. A function that reads what was there and makes memory of its own leaves such a world. -/
import Derived.WalkKit
import Derived.WalkSpells
import Derived.WalkLawsBesides
import Derived.Deep.Quiet
import Derived.Deep.QuietTactic
import Derived.BigQuiet
import Derived.Lib.Hide
import Derived.Deep.MidRow
namespace Go.Proofs.YthfalocligkamaaGreatDoor
open Go Go.RowKit
structure Ext where
 objs : Array Obj
 draws : Nat → Nat
end Go.Proofs.YthfalocligkamaaGreatDoor
namespace Go
def World.plus (w : World) (x : Go.Proofs.YthfalocligkamaaGreatDoor.Ext) : World := { w with heap := w.heap ++ x.objs, drawn := x.draws w.drawn }
end Go
namespace Go.Proofs.YthfalocligkamaaGreatDoor
open Go Go.RowKit
def Ext.push (x : Ext) (o : Obj) : Ext := ⟨x.objs.push o, x.draws⟩
def Ext.bump (x : Ext) (n : Nat) : Ext := ⟨x.objs, fun d => x.draws d + n⟩
def Ext.and (x y : Ext) : Ext := ⟨x.objs ++ y.objs, fun d => y.draws (x.draws d)⟩
def Ext.late (x : Ext) : Ext := ⟨x.objs, fun d => x.draws (d + 1)⟩
def Ext.none : Ext := ⟨#[], id⟩
instance : Inhabited Ext := ⟨Ext.none⟩
theorem zjr (w : World) : w.plus Ext.none = w := by simp [World.plus, Ext.none]
@[go_sem] theorem zad (w : World) (x y : Ext) : (w.plus x).plus y = w.plus (x.and y) := by simp [World.plus, Ext.and]
theorem zf0 (w : World) (x : Ext) (o : Obj) : (w.plus x).alloc o = w.plus (x.push o) := by simp [World.plus, World.alloc, Ext.push]
theorem zk8 (w : World) (x : Ext) (n : Nat) : (w.plus x).drewN n = w.plus (x.bump n) := by simp [World.plus, World.drewN, Ext.bump]
theorem zxi (w : World) (x : Ext) : (w.plus x).drew = w.plus (x.bump 1) := zk8 w x 1
@[go_sem] theorem ye5 (a b c : Nat) (h : a < b) : a < b + c := by omega
@[go_sem] theorem yfc (a b c : Nat) (h : a < b) : (a = b + c) = False := by simp; omega
@[go_sem] theorem yd6 (a b c : Nat) (h : a < b) : (b + c = a) = False := by simp; omega
@[go_sem] theorem ye6 (a b c d : Nat) (h : a < b) : a < b + c + d := by omega
@[go_sem] theorem yfd (a b c d : Nat) (h : a < b) : (a = b + c + d) = False := by simp; omega
@[go_sem] theorem yd7 (a b c d : Nat) (h : a < b) : (b + c + d = a) = False := by simp; omega
@[go_sem] theorem ye7 (a b c d e : Nat) (h : a < b) : a < b + c + d + e := by omega
@[go_sem] theorem yfe (a b c d e : Nat) (h : a < b) : (a = b + c + d + e) = False := by simp; omega
@[go_sem] theorem yd8 (a b c d e : Nat) (h : a < b) : (b + c + d + e = a) = False := by simp; omega
@[go_sem] theorem ye8 (a b c d e f : Nat) (h : a < b) : a < b + c + d + e + f := by omega
@[go_sem] theorem yff (a b c d e f : Nat) (h : a < b) : (a = b + c + d + e + f) = False := by simp; omega
@[go_sem] theorem yd9 (a b c d e f : Nat) (h : a < b) : (b + c + d + e + f = a) = False := by simp; omega
@[go_sem] theorem ye9 (a b c d e f g : Nat) (h : a < b) : a < b + c + d + e + f + g := by omega
@[go_sem] theorem yfg (a b c d e f g : Nat) (h : a < b) : (a = b + c + d + e + f + g) = False := by simp; omega
@[go_sem] theorem yea (a b c d e f g : Nat) (h : a < b) : (b + c + d + e + f + g = a) = False := by simp; omega
@[go_sem] theorem yfa (a b c d e f g i : Nat) (h : a < b) : a < b + c + d + e + f + g + i := by omega
@[go_sem] theorem yfh (a b c d e f g i : Nat) (h : a < b) : (a = b + c + d + e + f + g + i) = False := by simp; omega
@[go_sem] theorem yeb (a b c d e f g i : Nat) (h : a < b) : (b + c + d + e + f + g + i = a) = False := by simp; omega
@[go_sem] theorem yfb (a b c d e f g i j : Nat) (h : a < b) : a < b + c + d + e + f + g + i + j := by omega
@[go_sem] theorem yfi (a b c d e f g i j : Nat) (h : a < b) : (a = b + c + d + e + f + g + i + j) = False := by simp; omega
@[go_sem] theorem yec (a b c d e f g i j : Nat) (h : a < b) : (b + c + d + e + f + g + i + j = a) = False := by simp; omega
@[go_sem] theorem zac (w : World) (x : Ext) : (w.plus x).heap.size = w.heap.size + x.objs.size := by simp [World.plus]
@[go_sem] theorem yct (w : World) (x : Ext) : (w.plus x).tape = w.tape := rfl
@[go_sem] theorem z78 (w : World) (x : Ext) : (w.plus x).output = w.output := rfl
@[go_sem] theorem yhk (w : World) (x : Ext) : (w.plus x).os = w.os := rfl
@[go_sem] theorem zae (w : World) (x : Ext) : w.drew.plus x = w.plus x.late := rfl
theorem zev (w : World) (x : Ext) (k : Nat) (h : k < w.heap.size) : (w.plus x).heap[k]? = w.heap[k]? := by
 simp [World.plus, Array.getElem?_append, h]
theorem zc4 (w : World) (x : Ext) (b o : Nat) (h : b < w.heap.size) : (w.plus x).cell? ⟨b, o, Option.none⟩ = w.cell? ⟨b, o, Option.none⟩ := by
 simp only [World.cell?, zev w x b h]
theorem zkf (w : World) (x : Ext) (b o : Nat) (h : b < w.heap.size) : (w.plus x).frozen? ⟨b, o, Option.none⟩ = w.frozen? ⟨b, o, Option.none⟩ := by
 simp only [World.frozen?, zev w x b h]
theorem zfo (w : World) (x : Ext) (b o : Nat) (v : Value) (h : b < w.heap.size) : (w.plus x).setCell ⟨b, o, Option.none⟩ v = (w.setCell ⟨b, o, Option.none⟩ v).plus x := by
 unfold World.setCell World.plus
 congr 1
 apply Array.ext_getElem?
 intro k
 simp only [Array.getElem?_modify, Array.getElem?_append, Array.size_modify]
 by_cases hk : b = k
 · subst hk; simp [h]
 · simp [hk]
def zc8 (w : World) (x : Ext) (b o : Nat) : Option Value := (w.plus x).cell? ⟨b, o, Option.none⟩
def zjf (w : World) (x : Ext) (b o : Nat) : Bool := (w.plus x).frozen? ⟨b, o, Option.none⟩
def zh2 (w : World) (x : Ext) (b o : Nat) (v : Value) : World := (w.plus x).setCell ⟨b, o, Option.none⟩ v
@[go_sem] theorem zd6 (w : World) (x : Ext) (b o : Nat) : (w.plus x).cell? ⟨b, o, Option.none⟩ = if b < w.heap.size then w.cell? ⟨b, o, Option.none⟩ else zc8 w x b o := by
 split
 · exact zc4 w x b o (by assumption)
 · rfl
@[go_sem] theorem zjq (w : World) (x : Ext) (b o : Nat) : (w.plus x).frozen? ⟨b, o, Option.none⟩ = if b < w.heap.size then w.frozen? ⟨b, o, Option.none⟩ else zjf w x b o := by
 split
 · exact zkf w x b o (by assumption)
 · rfl
@[go_sem] theorem z5v (w : World) (x : Ext) (b o : Nat) (v : Value) : (w.plus x).setCell ⟨b, o, Option.none⟩ v = if b < w.heap.size then (w.setCell ⟨b, o, Option.none⟩ v).plus x else zh2 w x b o v := by
 split
 · exact zfo w x b o v (by assumption)
 · rfl
@[go_sem ↓] theorem zbu (w : World) (c : Array Value) (t : TypeId) (f : Nat × Nat) (n i : Nat) : (w.alloc (.cells c t f)).cell? ⟨n, i, Option.none⟩ = if n = w.heap.size then c[i]? else w.cell? ⟨n, i, Option.none⟩ := by
 split
 · rename_i h; subst h; simp only [World.cell?, heap_alloc_new]; rfl
 · rename_i h; exact World.cell?_alloc_old w _ _ h
@[go_sem ↓] theorem zh8 (w : World) (c : Array Value) (t : TypeId) (n i : Nat) : (w.alloc (.cells c t)).frozen? ⟨n, i, Option.none⟩ = if n = w.heap.size then false else w.frozen? ⟨n, i, Option.none⟩ := by
 split
 · rename_i h; exact World.frozen?_alloc_at c t n i h
 · rename_i h; exact World.frozen?_alloc_old w _ _ h
@[go_sem ↓] theorem z0c (w : World) (c : Array Value) (t : TypeId) (f : Nat × Nat) (n i : Nat) (v : Value) : (w.alloc (.cells c t f)).setCell ⟨n, i, Option.none⟩ v = if n = w.heap.size then w.alloc (.cells (c.setIfInBounds i v) t f) else (w.setCell ⟨n, i, Option.none⟩ v).alloc (.cells c t f) := by
 split
 · rename_i h
   subst h
   unfold World.setCell World.alloc
   congr 1
   apply Array.ext_getElem?
   intro k
   simp only [Array.getElem?_modify, Array.getElem?_push]
   by_cases hk : w.heap.size = k
   · subst hk; simp
   · simp [hk, Ne.symm hk]
 · rename_i h
   unfold World.setCell World.alloc
   congr 1
   apply Array.ext_getElem?
   intro k
   simp only [Array.getElem?_modify, Array.getElem?_push, Array.size_modify]
   by_cases hk : k = w.heap.size
   · subst hk; simp [h]
   · simp [hk]
def Grow (w w' : World) : Prop := ∃ x, w' = w.plus x
theorem Grow.refl (w : World) : Grow w w := ⟨Ext.none, (zjr w).symm⟩
theorem Grow.alloc {a w : World} (h : Grow a w) (o : Obj) : Grow a (w.alloc o) := by obtain ⟨x, rfl⟩ := h; exact ⟨_, zf0 a x o⟩
theorem Grow.drewN {a w : World} (h : Grow a w) (n : Nat) : Grow a (w.drewN n) := by obtain ⟨x, rfl⟩ := h; exact ⟨_, zk8 a x n⟩
theorem Grow.drew {a w : World} (h : Grow a w) : Grow a w.drew := Grow.drewN h 1
theorem Grow.plus {a w : World} (h : Grow a w) (y : Ext) : Grow a (w.plus y) := by obtain ⟨x, rfl⟩ := h; exact ⟨_, zad a x y⟩
theorem Grow.andr {a w : World} {x y : Ext} (h : Grow a (w.plus x)) : Grow a (w.plus (x.and y)) := by rw [← zad]; exact h.plus y
theorem grI {w w' : World} (h : Grow w w' := by repeat (first | exact Grow.refl _ | refine Grow.andr ?_ | refine Grow.plus ?_ _ | refine Grow.alloc ?_ _ | refine Grow.drew ?_ | refine Grow.drewN ?_ _)) : Grow w w' := h
theorem Grow.trans {a b c : World} (h : Grow a b) (k : Grow b c) : Grow a c := by obtain ⟨y, rfl⟩ := k; exact h.plus y
theorem Grow.below {a w : World} (h : Grow a w) : Below a.heap.size a w := by
 obtain ⟨x, rfl⟩ := h
 exact ⟨rfl, rfl, rfl, by simp [World.plus], fun k hk => zev a x k hk⟩
theorem Ext.and_assoc (x y z : Ext) : (x.and y).and z = x.and (y.and z) := by simp [Ext.and, Array.append_assoc]
theorem Grow.of_below {w w' : World} (h : Below w.heap.size w w') : Grow w w' := by
 refine ⟨⟨w'.heap.extract w.heap.size w'.heap.size, fun _ => w'.drawn⟩, ?_⟩
 obtain ⟨h1, t1, d1, o1, p1⟩ := w
 obtain ⟨h2, t2, d2, o2, p2⟩ := w'
 obtain ⟨e1, e2, e3, e4, e5⟩ := h
 simp only at e1 e2 e3 e4 e5
 subst e1 e2 e3
 simp only [World.plus, World.mk.injEq, and_true]
 apply Array.ext_getElem?
 intro k
 rw [Array.getElem?_append]
 by_cases hk : k < h1.size
 · rw [if_pos hk, e5 k hk]
 · rw [if_neg hk, Array.getElem?_extract]
   by_cases h2' : k < h2.size
   · rw [if_pos (by omega)]; congr 1; omega
   · rw [if_neg (by omega), Array.getElem?_eq_none (by omega)]
theorem zab {P : Program} {id : Nat} {Q : Exit → Act → World → Prop} {a : Act} {w : World} {l : List Oper} (hm : P.follows .mixedOrders = true) (hB : Region.lexB .any l.toArray = true)
 (h : wpQuiet P l.toArray (fun w' => ∃ x, w' = w.plus x) (fun a' => ∀ w', (∃ x, w' = w.plus x) → Q .normal a' w') l a) : (Code.region id l.toArray true).wp P Q a w :=
 wp_region_quiet (C := fun w' => ∃ x, w' = w.plus x) hm hB ⟨⟨#[], fun d => d + 1⟩, by simp [World.plus]⟩ (by simpa using h)
theorem Calls.grow {P : Program} {f : FuncId} {args : Array Value} {w : World} {x : Ext} {v : Value}
 (h : Calls P f args (w.plus x) fun e w' => e = .returned v ∧ Grow (w.plus x) w') : Calls P f args (w.plus x) fun e w'' => e = .returned v ∧ ∃ m, w'' = w.plus m :=
 h.mono fun _ _ ⟨he, m, hm⟩ => ⟨he, x.and m, by rw [hm, zad]⟩
theorem Calls.grow2 {P : Program} {f : FuncId} {args : Array Value} {w : World} {x y : Ext} {v : Value}
 (h : Calls P f args (w.plus (x.and y)) fun e w' => e = .returned v ∧ Grow (w.plus (x.and y)) w') : Calls P f args (w.plus (x.and y)) fun e w'' => e = .returned v ∧ ∃ m, w'' = w.plus (x.and m) :=
 h.mono fun _ _ ⟨he, m, hm⟩ => ⟨he, y.and m, by rw [hm, zad, Ext.and_assoc]⟩
abbrev I (n : Int) : Value := .int .i64 n
def cellsOf (c : List Int) : Array Value := (c.map I).toArray
def gt (c : List Int) (i : Nat) : Int := c.getD i 0
@[go_sem] theorem zb8 (c : List Int) : (cellsOf c).size = c.length := by simp [cellsOf]
@[go_sem] theorem za5 (c : List Int) (i : Nat) (h : i < c.length) : (cellsOf c)[i]? = some (I (gt c i)) := by
 simp [cellsOf, gt, h]
@[go_sem] theorem zvo (c : List Int) (i : Nat) (h : i < (cellsOf c).size) : (cellsOf c)[i]'h = I (gt c i) := by
 have h' : i < c.length := by simpa [cellsOf] using h
 simp [cellsOf, gt, h']
@[go_sem] theorem z6p (c : List Int) (i : Nat) (x : Int) : (cellsOf c).setIfInBounds i (.int .i64 x) = cellsOf (c.set i x) := by
 simp [cellsOf, List.map_set]
theorem zeh (c : List Int) (i j : Nat) (x : Int) (h : i < c.length) : gt (c.set i x) j = if i = j then x else gt c j := by
 unfold gt List.getD
 rw [List.getElem?_set]
 by_cases e : i = j
 · subst e; rw [if_pos rfl, if_pos h, if_pos rfl]; rfl
 · rw [if_neg e, if_neg e]
theorem zcw (c : List Int) (i : Nat) (h : i < c.length) : gt c i = c[i] := by simp [gt, h]
theorem yaz (a b : List Int) (hl : a.length = b.length) (h : ∀ i, i < a.length → gt a i = gt b i) : a = b := by
 apply List.ext_getElem hl
 intro i h1 h2
 have := h i h1
 rwa [zcw a i h1, zcw b i h2] at this
theorem zff (c : List Int) : (cellsOf c).all (·.oneCell') = true := by
 simp [cellsOf]; intro x _; rfl
theorem zid (x : Int) (c : List Int) : gt (x :: c) 0 = x := rfl
theorem zfj (x : Int) (c : List Int) (i : Nat) : gt (x :: c) (i + 1) = gt c i := rfl
@[go_sem] theorem agg6 (a b c d e f : Int) : Value.agg #[.int .i64 a, .int .i64 b, .int .i64 c, .int .i64 d, .int .i64 e, .int .i64 f] = .agg (cellsOf [a, b, c, d, e, f]) := rfl
@[go_sem] theorem yh1 (a b c d e f : Int) (t : TypeId) (fr : Nat × Nat) : Obj.cells #[.int .i64 a, .int .i64 b, .int .i64 c, .int .i64 d, .int .i64 e, .int .i64 f] t fr = .cells (cellsOf [a, b, c, d, e, f]) t fr := rfl
end Go.Proofs.YthfalocligkamaaGreatDoor
namespace Go
def World.blk (w : World) (b : Nat) : Array Value := match w.heap[b]? with | some (.cells c _ _) => c | _ => #[]
end Go
namespace Go.Proofs.YthfalocligkamaaGreatDoor
open Go Go.RowKit
@[go_sem] theorem ydx (w : World) (b : Nat) : w.drew.blk b = w.blk b := rfl
def zfd (w : World) (x : Ext) (b : Nat) : Array Value := (w.plus x).blk b
@[go_sem] theorem ze0 (w : World) (x : Ext) (b : Nat) : (w.plus x).blk b = if b < w.heap.size then w.blk b else zfd w x b := by
 split
 · simp only [World.blk, zev w x b (by assumption)]
 · rfl
@[go_sem] theorem zeq (w : World) (c : Array Value) (t : TypeId) (f : Nat × Nat) (n : Nat) : (w.alloc (.cells c t f)).blk n = if n = w.heap.size then c else w.blk n := by
 split
 · rename_i h; subst h; simp only [World.blk, heap_alloc_new]
 · rename_i h
   simp only [World.blk, World.alloc, Array.getElem?_push, if_neg h]
@[go_sem] theorem z8i (w : World) (b : Nat) (cs : Array Value) : w.drew.setRow b cs = (w.setRow b cs).drew := rfl
def zyg (w : World) (x : Ext) (b : Nat) (cs : Array Value) : World := (w.plus x).setRow b cs
@[go_sem] theorem zpx (w : World) (x : Ext) (b : Nat) (cs : Array Value) : (w.plus x).setRow b cs = if b < w.heap.size then (w.setRow b cs).plus x else zyg w x b cs := by
 split
 · rename_i h
   unfold World.setRow World.plus
   congr 1
   apply Array.ext_getElem?
   intro k
   simp only [Array.getElem?_modify, Array.getElem?_append, Array.size_modify]
   by_cases hk : b = k
   · subst hk; simp [h]
   · simp [hk]
 · rfl
@[go_sem] theorem z52 (w : World) (c : Array Value) (t : TypeId) (f : Nat × Nat) (n : Nat) (cs : Array Value) : (w.alloc (.cells c t f)).setRow n cs = if n = w.heap.size then w.alloc (.cells cs t f) else (w.setRow n cs).alloc (.cells c t f) := by
 split
 · rename_i h
   subst h
   unfold World.setRow World.alloc
   congr 1
   apply Array.ext_getElem?
   intro k
   simp only [Array.getElem?_modify, Array.getElem?_push]
   by_cases hk : w.heap.size = k
   · subst hk; simp
   · simp [hk, Ne.symm hk]
 · rename_i h
   unfold World.setRow World.alloc
   congr 1
   apply Array.ext_getElem?
   intro k
   simp only [Array.getElem?_modify, Array.getElem?_push, Array.size_modify]
   by_cases hk : k = w.heap.size
   · subst hk; simp [h]
   · simp [hk]
attribute [go_sem] size_setRow
end Go.Proofs.YthfalocligkamaaGreatDoor
namespace Go
def World.free (w : World) (b : Nat) : Bool := match w.heap[b]? with | some (.cells _ _ f) => f == (0, 0) | _ => false
end Go
namespace Go.Proofs.YthfalocligkamaaGreatDoor
open Go Go.RowKit
def z64 (w : World) (x : Ext) (b : Nat) : Bool := (w.plus x).free b
@[go_sem] theorem yay (w : World) (b : Nat) : w.drew.free b = w.free b := rfl
@[go_sem] theorem zwh (w : World) (x : Ext) (b : Nat) : (w.plus x).free b = if b < w.heap.size then w.free b else z64 w x b := by
 split
 · simp only [World.free, zev w x b (by assumption)]
 · rfl
@[go_sem] theorem zkt (w : World) (c : Array Value) (t : TypeId) (f : Nat × Nat) (n : Nat) : (w.alloc (.cells c t f)).free n = if n = w.heap.size then f == (0, 0) else w.free n := by
 split
 · rename_i h; subst h; simp only [World.free, heap_alloc_new]
 · rename_i h
   simp only [World.free, World.alloc, Array.getElem?_push, if_neg h]
@[go_sem] theorem zd1 (w : World) (b n : Nat) (cs : Array Value) : (w.setRow b cs).free n = w.free n := by
 simp only [World.free, World.setRow, Array.getElem?_modify]
 by_cases hb : b = n
 · subst hb; cases h : w.heap[b]? with
   | none => simp
   | some o => cases o <;> simp
 · simp [hb]
def za3 (t : TypeId) (v : Value) : Sem Next := do pure (.value (← Instr.loadAt t v))
def zaz (t : TypeId) (v u : Value) : Sem Next := do Instr.storeAt t v u; pure .skip
section
variable {P : Program} (w : World) (b : Nat)
theorem zax (ty n : Nat) (cs : Array Value) (hi : (P.info? ty).map (·.size) = some n) (h : (w.blk b).size = n) (hc : cs.size = n) (hn : n ≠ 0) (hf : w.free b = true) (h1 : cs.all (·.oneCell') = true) :
 (zaz ty (.pointer (some ⟨b, 0, Option.none⟩)) (.agg cs)).run P w = .ok .skip (w.setRow b cs) := by
 unfold zaz
 cases ho : w.heap[b]? with
 | none => simp [World.blk, ho] at h; omega
 | some o =>
   cases o <;> try (simp [World.blk, ho] at h; omega)
   rename_i c t f
   simp [World.blk, ho] at h
   simp [World.free, ho] at hf
   subst hf
   rw [Sem.run_bind]
   simp only [Instr.storeAt, Instr.sureAddr, Sem.run_bind, Sem.run_pure, Result.andThen_ok]
   rw [run_storeVar_row (P := P) w b t ty c cs ho (by simp [hi, hc]) (by omega) (by simpa using h1)]
   simp
end
end Go.Proofs.YthfalocligkamaaGreatDoor
namespace Go.Proofs.YthfalocligkamaaGreatDoor
open Go Go.RowKit
theorem zao {a b : Bool} (h : a = b) : Ending.returned (.bool a) = .returned (.bool b) := by rw [h]
theorem zxm {k : IntKind} {a b : Int} (h : a = b) : Ending.returned (.int k a) = .returned (.int k b) := by rw [h]
def za0 (t : TypeId) (parts : Array (Nat × Value)) : Sem Next := do pure (.value (← Instr.build t parts))
inductive Sl where
 | nil
 | mk (b o n c : Nat)
instance : Inhabited Sl := ⟨.nil⟩
def Sl.val : Sl → Value
 | .nil => .slice none 0 0
 | .mk b o n c => .slice (some ⟨b, o, none⟩) n c
def Sl.n : Sl → Nat
 | .nil => 0
 | .mk _ _ n _ => n
def Sl.c : Sl → Nat
 | .nil => 0
 | .mk _ _ _ c => c
def Sl.b : Sl → Nat
 | .nil => 0
 | .mk b _ _ _ => b
def Sl.o : Sl → Nat
 | .nil => 0
 | .mk _ o _ _ => o
def Sl.isNil : Sl → Bool
 | .nil => true
 | .mk .. => false
@[go_sem ↓] theorem Sl.val_cells (s : Sl) : s.val.cells = #[s.val] := by cases s <;> rfl
theorem Sl.mk_of (s : Sl) (h : 0 < s.n) : s = .mk s.b s.o s.n s.c := by cases s with
 | nil => simp [Sl.n] at h
 | mk => rfl
theorem zbd {w : World} {b i : Nat} {v : Value} (h : w.cell? ⟨b, i, none⟩ = some v) : b < w.heap.size ∧ (w.blk b)[i]? = some v := by
 unfold World.cell? at h
 cases ho : w.heap[b]? with
 | none => rw [ho] at h; cases h
 | some o =>
   refine ⟨(Array.getElem?_eq_some_iff.1 ho).1, ?_⟩
   rw [ho] at h
   cases o <;> try (cases h; done)
   simp only [World.blk, ho]
   simpa using h
structure Ints (w : World) (s : Sl) (l : List Int) : Prop where
 len : s.n = l.length
 cap : s.n ≤ s.c
 cell : ∀ i, i < l.length → w.cell? ⟨s.b, s.o + i, none⟩ = some (I (gt l i))
theorem Ints.grow {w w' : World} {s : Sl} {l : List Int} (h : Ints w s l) (g : Grow w w') : Ints w' s l := by
 obtain ⟨x, rfl⟩ := g
 refine ⟨h.len, h.cap, fun i hi => ?_⟩
 rw [zc4 w x _ _ (zbd (h.cell i hi)).1]
 exact h.cell i hi
theorem Ints.at {w : World} {s : Sl} {l : List Int} (h : Ints w s l) (i : Nat) (hi : i < l.length) : s.b < w.heap.size ∧ w.cell? ⟨s.b, s.o + i, none⟩ = some (I (gt l i)) := ⟨(zbd (h.cell i hi)).1, h.cell i hi⟩
theorem Ints.nil (w : World) : Ints w .nil [] := ⟨rfl, Nat.le_refl _, fun i hi => by cases hi⟩
def sub (cs : Array Value) (o n : Nat) : Array Value := cs.extract o (o + n)
def rowAt (l : List (List Int)) (i : Nat) : List Int := l.getD i []
structure Rows' (w : World) (s : Sl) (k : Nat) (l : List (List Int)) : Prop where
 len : s.n = l.length
 cap : s.n ≤ s.c
 wid : ∀ i, i < l.length → (rowAt l i).length = k
 cell : ∀ i j, i < l.length → j < k → w.cell? ⟨s.b, s.o + i * k + j, none⟩ = some (I (gt (rowAt l i) j))
theorem Rows'.grow {w w' : World} {s : Sl} {k : Nat} {l : List (List Int)} (h : Rows' w s k l) (g : Grow w w') : Rows' w' s k l := by
 obtain ⟨x, rfl⟩ := g
 refine ⟨h.len, h.cap, h.wid, fun i j hi hj => ?_⟩
 rw [zc4 w x _ _ (zbd (h.cell i j hi hj)).1]
 exact h.cell i j hi hj
theorem Rows'.nil (w : World) (k : Nat) : Rows' w .nil k [] := ⟨rfl, Nat.le_refl _, fun i hi => (by cases hi), fun i j hi => by cases hi⟩
theorem Rows'.at {w : World} {s : Sl} {k : Nat} {l : List (List Int)} (h : Rows' w s k l) (hk : 0 < k) (i : Nat) (hi : i < l.length) :
 s.b < w.heap.size ∧ (rowAt l i).length = k ∧ s.o + i * k + k ≤ (w.blk s.b).size ∧ sub (w.blk s.b) (s.o + i * k) k = cellsOf (rowAt l i) ∧
  ∀ j, j < k → w.cell? ⟨s.b, s.o + i * k + j, none⟩ = some (I (gt (rowAt l i) j)) := by
 have hc := fun j hj => zbd (h.cell i j hi hj)
 have hw := h.wid i hi
 have hl := (Array.getElem?_eq_some_iff.1 (hc (k - 1) (by omega)).2).1
 refine ⟨(hc 0 hk).1, hw, by omega, ?_, fun j hj => h.cell i j hi hj⟩
 unfold sub
 apply Array.ext_getElem?
 intro j
 rw [Array.getElem?_extract]
 by_cases hj : j < k
 · rw [if_pos (by omega), (hc j hj).2, za5 _ _ (by omega)]
 · rw [if_neg (by omega), Array.getElem?_eq_none (by rw [zb8]; omega)]
@[go_sem] theorem yht (c : List Int) (n : Nat) (h : c.length = n) : sub (cellsOf c) 0 n = cellsOf c := by
 unfold sub
 rw [← h, Nat.zero_add, ← zb8, Array.extract_size]
def zai (cs : Array Value) : Bool := cs.all (·.oneCell')
@[go_sem] theorem z2q (c : List Int) : zai (cellsOf c) = true := zff c
theorem zaw {P : Program} (w : World) (b o : Nat) (ty n : Nat) (hu : ((P.underlying ty).map TypeDesc.isRow).getD false = true) (hi : (P.info? ty).map (·.size) = some n) (h : o + n ≤ (w.blk b).size) (hn : n ≠ 0) :
 (za3 ty (.pointer (some ⟨b, o, Option.none⟩))).run P w = .ok (.value (.agg (sub (w.blk b) o n))) w := by
 unfold sub
 cases hd : P.underlying ty with
 | none => simp [hd] at hu
 | some d =>
   simp [hd] at hu
   unfold za3
   cases ho : w.heap[b]? with
   | none => simp [World.blk, ho] at h; omega
   | some q =>
     cases q <;> try (simp [World.blk, ho] at h; omega)
     rename_i c t f
     simp [World.blk, ho] at h
     rw [Sem.run_bind]
     have := run_loadAt_mid (P := P) w b o ty (c.extract o (o + n)).toList d (fun j v hv => by
      simp [World.cell?, ho]
      have h2 : (c.extract o (o + n))[j]? = some v := by rw [← Array.getElem?_toList]; exact hv
      rw [Array.getElem?_extract] at h2
      split at h2
      · exact h2
      · cases h2) hd hu (by simp [hi]; omega)
     rw [this, Array.toArray_toList]
     have e : w.blk b = c := by simp [World.blk, ho]
     rw [e]
     rfl
theorem Sl.val_oneCell (s : Sl) : s.val.oneCell' = true := by cases s <;> rfl
theorem zcf {P : Program} (w : World) (b o : Nat) (ty : TypeId) (s : Sl) (hi : (P.info? ty).map (·.size) = some 1) (h : (w.cell? ⟨b, o, none⟩).isSome = true) (hf : w.frozen? ⟨b, o, none⟩ = false) :
 (zaz ty (.pointer (some ⟨b, o, none⟩)) s.val).run P w = .ok .skip (w.setCell ⟨b, o, none⟩ s.val) := by
 obtain ⟨v, hv⟩ := Option.isSome_iff_exists.1 h
 cases hq : P.info? ty with
 | none => simp [hq] at hi
 | some i =>
   have hs : i.size = 1 := by simpa [hq] using hi
   unfold zaz
   rw [Sem.run_bind]
   simp only [Instr.storeAt, Instr.sureAddr, Sem.run_bind, Sem.run_pure, Result.andThen_ok]
   have h2 : (storeVar ty ⟨b, o, none⟩ s.val).run P w = .ok () (w.setCell ⟨b, o, none⟩ s.val) := by
    unfold storeVar
    rw [Sl.val_cells]
    simp [sizeOf, typeInfo, hq, hs, storeCells, Addr.add, run_store P w _ _ _ s.val_oneCell, hv, hf]
   rw [h2]
   rfl
section
variable {P : Program} (w : World)
@[go_sem ↓] theorem z95 {t e ty : TypeId} (ht : P.underlying t = some (.slice e)) (s : Sl) : (Builtin.len_ #[t] ty #[s.val]).run P w = .ok (.int .i64 s.n) w := by
 cases s <;> simp [Builtin.len_, Sl.val, Sl.n, run_underlying ht, goInt]
theorem zbh {t e : TypeId} {k : Nat} (ht : P.underlying t = some (.slice e)) (hk : ∀ w, (sizeOf e).run P w = .ok k w) (s : Sl) (q : IntKind) (i : Int) (h0 : 0 ≤ i) (h1 : i < s.n) :
 (Instr.indexAt t s.val (.int q i)).run P w = .ok (.pointer (some ⟨s.b, s.o + i.toNat * k, none⟩)) w := by
 cases s with
 | nil => simp [Sl.n] at h1; omega
 | mk b o n c =>
   simp only [Sl.n] at h1
   simp [Instr.indexAt, Sl.val, Sl.b, Sl.o, asIntOf, run_underlying ht, hk, h0, h1, Addr.add]
end
end Go.Proofs.YthfalocligkamaaGreatDoor
namespace Go.Proofs.YthfalocligkamaaGreatDoor
open Go Go.RowKit
@[go_sem] theorem agg2 (a0 a1 : Int) : Value.agg #[.int .i64 a0, .int .i64 a1] = .agg (cellsOf [a0, a1]) := rfl
@[go_sem] theorem yhz (a0 a1 : Int) (t : TypeId) (fr : Nat × Nat) : Obj.cells #[.int .i64 a0, .int .i64 a1] t fr = .cells (cellsOf [a0, a1]) t fr := rfl
@[go_sem] theorem agg3 (a0 a1 a2 : Int) : Value.agg #[.int .i64 a0, .int .i64 a1, .int .i64 a2] = .agg (cellsOf [a0, a1, a2]) := rfl
@[go_sem] theorem yh0 (a0 a1 a2 : Int) (t : TypeId) (fr : Nat × Nat) : Obj.cells #[.int .i64 a0, .int .i64 a1, .int .i64 a2] t fr = .cells (cellsOf [a0, a1, a2]) t fr := rfl
@[go_sem] theorem agg7 (a0 a1 a2 a3 a4 a5 a6 : Int) : Value.agg #[.int .i64 a0, .int .i64 a1, .int .i64 a2, .int .i64 a3, .int .i64 a4, .int .i64 a5, .int .i64 a6] = .agg (cellsOf [a0, a1, a2, a3, a4, a5, a6]) := rfl
@[go_sem] theorem yh2 (a0 a1 a2 a3 a4 a5 a6 : Int) (t : TypeId) (fr : Nat × Nat) : Obj.cells #[.int .i64 a0, .int .i64 a1, .int .i64 a2, .int .i64 a3, .int .i64 a4, .int .i64 a5, .int .i64 a6] t fr = .cells (cellsOf [a0, a1, a2, a3, a4, a5, a6]) t fr := rfl
@[go_sem] theorem agg9 (a0 a1 a2 a3 a4 a5 a6 a7 a8 : Int) : Value.agg #[.int .i64 a0, .int .i64 a1, .int .i64 a2, .int .i64 a3, .int .i64 a4, .int .i64 a5, .int .i64 a6, .int .i64 a7, .int .i64 a8] = .agg (cellsOf [a0, a1, a2, a3, a4, a5, a6, a7, a8]) := rfl
@[go_sem] theorem yh3 (a0 a1 a2 a3 a4 a5 a6 a7 a8 : Int) (t : TypeId) (fr : Nat × Nat) : Obj.cells #[.int .i64 a0, .int .i64 a1, .int .i64 a2, .int .i64 a3, .int .i64 a4, .int .i64 a5, .int .i64 a6, .int .i64 a7, .int .i64 a8] t fr = .cells (cellsOf [a0, a1, a2, a3, a4, a5, a6, a7, a8]) t fr := rfl
@[go_sem] theorem agg14 (a0 a1 a2 a3 a4 a5 a6 a7 a8 a9 a10 a11 a12 a13 : Int) : Value.agg #[.int .i64 a0, .int .i64 a1, .int .i64 a2, .int .i64 a3, .int .i64 a4, .int .i64 a5, .int .i64 a6, .int .i64 a7, .int .i64 a8, .int .i64 a9, .int .i64 a10, .int .i64 a11, .int .i64 a12, .int .i64 a13] = .agg (cellsOf [a0, a1, a2, a3, a4, a5, a6, a7, a8, a9, a10, a11, a12, a13]) := rfl
@[go_sem] theorem ygb (a0 a1 a2 a3 a4 a5 a6 a7 a8 a9 a10 a11 a12 a13 : Int) (t : TypeId) (fr : Nat × Nat) : Obj.cells #[.int .i64 a0, .int .i64 a1, .int .i64 a2, .int .i64 a3, .int .i64 a4, .int .i64 a5, .int .i64 a6, .int .i64 a7, .int .i64 a8, .int .i64 a9, .int .i64 a10, .int .i64 a11, .int .i64 a12, .int .i64 a13] t fr = .cells (cellsOf [a0, a1, a2, a3, a4, a5, a6, a7, a8, a9, a10, a11, a12, a13]) t fr := rfl
@[go_sem] theorem agg18 (a0 a1 a2 a3 a4 a5 a6 a7 a8 a9 a10 a11 a12 a13 a14 a15 a16 a17 : Int) : Value.agg #[.int .i64 a0, .int .i64 a1, .int .i64 a2, .int .i64 a3, .int .i64 a4, .int .i64 a5, .int .i64 a6, .int .i64 a7, .int .i64 a8, .int .i64 a9, .int .i64 a10, .int .i64 a11, .int .i64 a12, .int .i64 a13, .int .i64 a14, .int .i64 a15, .int .i64 a16, .int .i64 a17] = .agg (cellsOf [a0, a1, a2, a3, a4, a5, a6, a7, a8, a9, a10, a11, a12, a13, a14, a15, a16, a17]) := rfl
@[go_sem] theorem ygc (a0 a1 a2 a3 a4 a5 a6 a7 a8 a9 a10 a11 a12 a13 a14 a15 a16 a17 : Int) (t : TypeId) (fr : Nat × Nat) : Obj.cells #[.int .i64 a0, .int .i64 a1, .int .i64 a2, .int .i64 a3, .int .i64 a4, .int .i64 a5, .int .i64 a6, .int .i64 a7, .int .i64 a8, .int .i64 a9, .int .i64 a10, .int .i64 a11, .int .i64 a12, .int .i64 a13, .int .i64 a14, .int .i64 a15, .int .i64 a16, .int .i64 a17] t fr = .cells (cellsOf [a0, a1, a2, a3, a4, a5, a6, a7, a8, a9, a10, a11, a12, a13, a14, a15, a16, a17]) t fr := rfl
@[go_sem] theorem agg36 (a0 a1 a2 a3 a4 a5 a6 a7 a8 a9 a10 a11 a12 a13 a14 a15 a16 a17 a18 a19 a20 a21 a22 a23 a24 a25 a26 a27 a28 a29 a30 a31 a32 a33 a34 a35 : Int) : Value.agg #[.int .i64 a0, .int .i64 a1, .int .i64 a2, .int .i64 a3, .int .i64 a4, .int .i64 a5, .int .i64 a6, .int .i64 a7, .int .i64 a8, .int .i64 a9, .int .i64 a10, .int .i64 a11, .int .i64 a12, .int .i64 a13, .int .i64 a14, .int .i64 a15, .int .i64 a16, .int .i64 a17, .int .i64 a18, .int .i64 a19, .int .i64 a20, .int .i64 a21, .int .i64 a22, .int .i64 a23, .int .i64 a24, .int .i64 a25, .int .i64 a26, .int .i64 a27, .int .i64 a28, .int .i64 a29, .int .i64 a30, .int .i64 a31, .int .i64 a32, .int .i64 a33, .int .i64 a34, .int .i64 a35] = .agg (cellsOf [a0, a1, a2, a3, a4, a5, a6, a7, a8, a9, a10, a11, a12, a13, a14, a15, a16, a17, a18, a19, a20, a21, a22, a23, a24, a25, a26, a27, a28, a29, a30, a31, a32, a33, a34, a35]) := rfl
@[go_sem] theorem ygd (a0 a1 a2 a3 a4 a5 a6 a7 a8 a9 a10 a11 a12 a13 a14 a15 a16 a17 a18 a19 a20 a21 a22 a23 a24 a25 a26 a27 a28 a29 a30 a31 a32 a33 a34 a35 : Int) (t : TypeId) (fr : Nat × Nat) : Obj.cells #[.int .i64 a0, .int .i64 a1, .int .i64 a2, .int .i64 a3, .int .i64 a4, .int .i64 a5, .int .i64 a6, .int .i64 a7, .int .i64 a8, .int .i64 a9, .int .i64 a10, .int .i64 a11, .int .i64 a12, .int .i64 a13, .int .i64 a14, .int .i64 a15, .int .i64 a16, .int .i64 a17, .int .i64 a18, .int .i64 a19, .int .i64 a20, .int .i64 a21, .int .i64 a22, .int .i64 a23, .int .i64 a24, .int .i64 a25, .int .i64 a26, .int .i64 a27, .int .i64 a28, .int .i64 a29, .int .i64 a30, .int .i64 a31, .int .i64 a32, .int .i64 a33, .int .i64 a34, .int .i64 a35] t fr = .cells (cellsOf [a0, a1, a2, a3, a4, a5, a6, a7, a8, a9, a10, a11, a12, a13, a14, a15, a16, a17, a18, a19, a20, a21, a22, a23, a24, a25, a26, a27, a28, a29, a30, a31, a32, a33, a34, a35]) t fr := rfl
end Go.Proofs.YthfalocligkamaaGreatDoor
