import Derived.Test.YthmcapdakplhdaaDoorExtA
import Derived.Test.YthmcapdakplhdaaDoorWMore
import Derived.Laws.CopyRow
import Derived.Lib.SlBytesConst
import Derived.Laws.BytesArg
namespace Go.Proofs.YthmcapdakplhdaaDoor.Pr
open Go Go.RowKit Go.Proofs.YthmcapdakplhdaaDoorW.PrintWords Go.Proofs.YthmcapdakplhdaaDoorW.PrintLast Go.Proofs.YthmcapdakplhdaaDoorW.PrintMore
set_option linter.unusedVariables false
set_option linter.unusedSimpArgs false
/-- What the walks say again and again, each told once: facts on blocks, carried on to the world at hand. -/
theorem bkT {w w' : World} {g : Nat} {o : Obj} (h : w.heap[g]? = some o) (k : w.heap[g]? = some o → w'.heap[g]? = some o := by intro h_; (with_reducible repeat (first | refine blk_drewN ?_ _ | refine blk_drew ?_ | refine blk_alloc ?_ _)); exact h_) : w'.heap[g]? = some o := k h
theorem hbT {n : Nat} {w W W' : World} (h : Below n w W) (k : Below n w W → Below n w W' := by intro h_; repeat (first | (with_reducible first | exact h_ | apply below_alloc | apply pw_below_drewN | apply below_drew1 | refine below_set ?_ (Aside0.out (by assumption))) | exact h_)) : Below n w W' := k h
theorem geT {w W : World} {g : Nat} (hg : g = W.heap.size) (h : Below w.heap.size w W) : w.heap.size ≤ g := hg ▸ h.size
theorem geA {w W0 W : World} {g : Nat} (hg : g = W.heap.size) (h : Aside0 (Below w.heap.size w W0)) (k : Below w.heap.size w W0 → Below w.heap.size w W := by intro h_; repeat (first | (with_reducible first | exact h_ | apply below_alloc | apply pw_below_drewN | apply below_drew1 | refine below_set ?_ (Aside0.out (by assumption))) | exact h_)) : Aside0 (w.heap.size ≤ g) := ⟨geT hg (k h.out)⟩
theorem neT {W0 W : World} {g g' : Nat} {o : Obj} (hg : g' = W.heap.size) (h : W0.heap[g]? = some o) (k : W0.heap[g]? = some o → W.heap[g]? = some o := by intro h_; (with_reducible repeat (first | refine blk_drewN ?_ _ | refine blk_drew ?_ | refine blk_alloc ?_ _)); exact h_) : g ≠ g' := hg ▸ Nat.ne_of_lt (blk_lt (k h))
theorem neS {W0 W : World} {g g' : Nat} {o : Obj} (hg : g' = W.heap.size) (h : W0.heap[g]? = some o) (k : W0.heap[g]? = some o → W.heap[g]? = some o := by intro h_; (with_reducible repeat (first | refine blk_drewN ?_ _ | refine blk_drew ?_ | refine blk_alloc ?_ _)); exact h_) : g' ≠ g := (neT hg h k).symm
theorem neA {W0 W : World} {g g' : Nat} {o : Obj} (hg : g' = W.heap.size) (h : Aside0 (W0.heap[g]? = some o)) (k : W0.heap[g]? = some o → W.heap[g]? = some o := by intro h_; (with_reducible repeat (first | refine blk_drewN ?_ _ | refine blk_drew ?_ | refine blk_alloc ?_ _)); exact h_) : Aside0 (g ≠ g') := ⟨neT hg h.out k⟩
theorem neB {W0 W : World} {g g' : Nat} {o : Obj} (hg : g' = W.heap.size) (h : Aside0 (W0.heap[g]? = some o)) (k : W0.heap[g]? = some o → W.heap[g]? = some o := by intro h_; (with_reducible repeat (first | refine blk_drewN ?_ _ | refine blk_drew ?_ | refine blk_alloc ?_ _)); exact h_) : Aside0 (g' ≠ g) := ⟨(neT hg h.out k).symm⟩
theorem bbT {w W W1 : World} {g : Nat} {o : Obj} (h : w.heap[g]? = some o) (hb : Below W.heap.size W W1) (k : w.heap[g]? = some o → W.heap[g]? = some o := by intro h_; (with_reducible repeat (first | refine blk_drewN ?_ _ | refine blk_drew ?_ | refine blk_alloc ?_ _)); exact h_) : W1.heap[g]? = some o := blk_below (k h) hb
theorem bbA {w W W1 : World} {g : Nat} {o : Obj} (h : Aside0 (w.heap[g]? = some o)) (hb : Below W.heap.size W W1) (k : w.heap[g]? = some o → W.heap[g]? = some o := by intro h_; (with_reducible repeat (first | refine blk_drewN ?_ _ | refine blk_drew ?_ | refine blk_alloc ?_ _)); exact h_) : Aside0 (W1.heap[g]? = some o) := ⟨blk_below (k h.out) hb⟩
theorem bfT {w W : World} {g g' : Nat} {o : Obj} (hne : g ≠ g') (h : w.heap[g]? = some o) (k : g ≠ g' → w.heap[g]? = some o → W.heap[g]? = some o := by intro n_ h_; repeat (first | exact h_ | refine blk_far ?_ n_ _ | refine blk_drewN ?_ _ | refine blk_drew ?_ | refine blk_alloc ?_ _)) : W.heap[g]? = some o := k hne h
theorem cfT {w W : World} {a : Addr} {g : Nat} {v : Value} (hne : a.block ≠ g) (h : w.cell? a = some v) (k : a.block ≠ g → w.cell? a = some v → W.cell? a = some v := by intro n_ h_; repeat (first | exact h_ | refine (cell_far (p := ⟨_, _, none⟩) n_ _).trans ?_)) : W.cell? a = some v := k hne h
theorem bdA {w : World} {g : Nat} {o : Obj} (h : Aside0 (w.heap[g]? = some o)) : Aside0 (w.drew.heap[g]? = some o) := ⟨blk_drew h.out⟩
theorem bsA {w W0 W W1 : World} (h : Aside0 (Below w.heap.size w W0)) (hb : Below W.heap.size W W1) (k : Below w.heap.size w W0 → Below w.heap.size w W := by intro h_; repeat (first | (with_reducible first | exact h_ | apply below_alloc | apply pw_below_drewN | apply below_drew1 | refine below_set ?_ (Aside0.out (by assumption))) | exact h_)) : Aside0 (Below w.heap.size w W1) := ⟨below_step (k h.out) hb⟩
theorem goesT {P : Program} {ops : Array Oper} {Q : Exit → Act → World → Prop} {rest : List Oper} {oi : Oper} {a : Act} {w : World} (N : Option Tmp) {f : FuncId} {fn : Func} {xs : Array Operand} {ts : Array TypeId} (hf : P.funcs[f]? = some fn) (args : Array Value)
    (h : Calls P f args w fun e w' => ∃ v, e = .returned v ∧ wpList P ops Q rest (a.put N v) w') (hd : oi.dst = N := by rfl) (hg : oi.guard = none := by rfl) (hname : (fn.name == "runtime.NumGoroutine") = false := by kernel_rfl) (hb : fn.body.isSome = true := by rfl)
    (hop : oi.op = .call { callee := .value (.func f), args := xs, argTypes := ts } := by rfl) (hargs : xs.map a.eval = args := by (try simp only [List.map_toArray, List.map_cons, List.map_nil]); first | done | rfl | (simp only [List.length_drop, List.length_take]; rfl)) : wpList P ops Q (oi :: rest) a w := goesL_ N hd hg hf hname hb args hop hargs h
theorem size_lit5 (a b c d e : UInt8) : (⟨#[a, b, c, d, e]⟩ : ByteArray).size = 5 := rfl
theorem size_lit6 (a b c d e f : UInt8) : (⟨#[a, b, c, d, e, f]⟩ : ByteArray).size = 6 := rfl
theorem size_lit7 (a b c d e f g : UInt8) : (⟨#[a, b, c, d, e, f, g]⟩ : ByteArray).size = 7 := rfl
theorem size_lit8 (a b c d e f g h : UInt8) : (⟨#[a, b, c, d, e, f, g, h]⟩ : ByteArray).size = 8 := rfl
/-- An element of an array of strings. -/
def arrAt (l : List ByteArray) (i : Int) : ByteArray := l.getD i.toNat (⟨#[]⟩ : ByteArray)
theorem arr_at (l : List ByteArray) (i : Int) (h : i.toNat < l.length) : (l.map Value.string).toArray[i.toNat]? = some (.string (arrAt l i)) := by
  unfold arrAt
  simp [h]
theorem far1 {w : World} {a : Addr} {v : Value} {g : Nat} (h : w.cell? a = some v) (hg : w.heap.size ≤ g) : a.block ≠ g := Nat.ne_of_lt (Nat.lt_of_lt_of_le (World.block_lt_of_cell? _ _ h) hg)
theorem far2 {w : World} {a : Addr} {v : Value} {g i j : Nat} (h : w.cell? (a.add i) = some v) (hg : w.heap.size ≤ g) : (a.add j).block ≠ g := by rw [add_block]; have := far1 h hg; rwa [add_block] at this
theorem far3 {w : World} {a : Addr} {v : Value} {g j : Nat} (h : w.cell? a = some v) (hg : w.heap.size ≤ g) : (a.add j).block ≠ g := by rw [add_block]; exact far1 h hg
theorem far4 {w : World} {a : Addr} {v : Value} {g i : Nat} (h : w.cell? (a.add i) = some v) (hg : w.heap.size ≤ g) : a.block ≠ g := by have := far1 h hg; rwa [add_block] at this
/-- A string of a row of one byte. -/
theorem conv_one {P : Program} {W : World} {src dst e e' : TypeId} {g : Nat} {b : Int} {fr : Nat × Nat} (hs : P.underlying src = some (.slice e)) (he : P.underlying e = some (.int .u8)) (hd : P.underlying dst = some .string) (hg : W.heap[g]? = some (.cells #[.int .u8 b] e' fr)) (c : Nat) :
    (convert src dst (.slice (some ⟨g, 0, none⟩) 1 c)).run P W = .ok (.string (strOfNums [b])) W :=
  run_convert_bytes_arg W src e hs he g 0 1 c [b] rfl (fun i hi => by
    obtain rfl : i = 0 := by omega
    simp [World.cell?, hg]) dst hd
/-- A variable of many cells is written as a whole. -/
theorem store_row_event {P : Program} {ops : Array Oper} {Q : Exit → Act → World → Prop} {rest : List Oper} {o : Oper} {a : Act} {W : World} (t : TypeId) (p : Tmp) {v : Operand} (ho : o.op = .store t (.tmp p) v) (hgd : o.guard = none) (hN : o.dst = none)
    {g : Nat} {cur : Array Value} {e : TypeId} (vs : Array Value) (hg : W.heap[g]? = some (.cells cur e (0, 0))) (hp : a.eval (.tmp p) = .pointer (some ⟨g, 0, none⟩)) (hv : a.eval v = .agg vs) (hs : (sizeOf t).run P W = .ok vs.size W) (hcur : cur.size = vs.size) (h1 : vs.toList.all (fun x => x.oneCell') = true)
    (h : ∀ w', w'.heap[g]? = some (.cells vs e (0, 0)) → (∀ (i : Nat) (ob : Obj), i ≠ g → W.heap[i]? = some ob → w'.heap[i]? = some ob) → (∀ (w0 : World), Below w0.heap.size w0 W → w0.heap.size ≤ g → Below w0.heap.size w0 w') → wpList P ops Q rest a w') : wpList P ops Q (o :: rest) a W := by
  have hst := run_storeCells_at P g 0 e vs.toList 0 cur W hg (by simp; omega) (fun x hx => List.all_eq_true.1 h1 x hx)
  have e1 : (cur.toList.take (0 + 0) ++ vs.toList ++ cur.toList.drop (0 + 0 + vs.toList.length)).toArray = vs := by
    rw [List.drop_eq_nil_of_le (by simp; omega)]
    simp
  rw [e1] at hst
  have hrun : (execOp a.eval o).run P W = .ok .skip (W.setRow g vs) := by
    unfold execOp
    rw [ho]
    simp only []
    rw [hp, hv]
    simp [Instr.storeAt, Instr.sureAddr, storeVar, Value.cells, hs, hst]
  have hb : ∀ (w0 : World), Below w0.heap.size w0 W → w0.heap.size ≤ g → Below w0.heap.size w0 (W.setRow g vs) := by
    intro w0 hw hle
    refine ⟨hw.1, hw.2, hw.3, by rw [setRow_size]; exact hw.size, fun j hj => ?_⟩
    rw [setRow_other W g j vs (by omega)]
    exact hw.block j hj
  refine wpList_plain hgd fun K hK => ?_
  unfold Oper.wp
  rw [hrun]
  show K (a.put o.dst undef) _
  rw [hN]
  refine hK _ _ ?_
  exact h _ (setRow_heap W g cur vs e (0, 0) hg) (fun i ob hi hi2 => by rw [setRow_other W g i vs hi]; exact hi2) hb
end Go.Proofs.YthmcapdakplhdaaDoor.Pr
