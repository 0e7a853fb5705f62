/- The document's machine: a step, what its memory holds. -/
import Derived.Test.YtlahecofjlaojaaRf2
import Derived.Test.YtlahecofjlaojaaReg2
namespace Go.Proofs.Ytlahecofjlaojaa
set_option linter.unusedVariables false
open Go.RowKit

theorem Blk.cell0_8 {w : World} {g : Nat} {t : TypeId} {a b c d e f x y : Value} (h : Blk w g t #[a, b, c, d, e, f, x, y]) : w.cell? ⟨g, 0, none⟩ = some a := h.cell 0
theorem Blk.cell4_8 {w : World} {g : Nat} {t : TypeId} {a b c d e f x y : Value} (h : Blk w g t #[a, b, c, d, e, f, x, y]) : w.cell? ⟨g, 4, none⟩ = some e := h.cell 4
theorem rst_mem {w w1 v : World} {Ac As : Option Addr} {nc cc ns cs : Nat} {code : List Nat} {stack : List Int} {arg data gas err : Int} {at_ : Nat} {done : Bool} {A2 A3 : Option Addr} {c2 c3 : Nat}
    (hB1 : Blk w1 w.heap.size 37 #[.slice Ac nc cc, .int .i64 arg, .int .i64 data, .int .i64 (at_ : Int), .slice As ns cs, .int .i64 gas, .bool done, .int .i64 err]) (hB2 : Blk w1 (w.heap.size + 1) 37 #[.slice none 0 0, .int .i64 0, .int .i64 0, .int .i64 0, .slice none 0 0, .int .i64 0, .bool false, .int .i64 0]) (hx0 : Ext w w1) (hH : Ext w1 v)
    (h2 : Own v w1.heap.size 5 1 A2 nc c2 (bvals code)) (h3 : Own v w1.heap.size 3 1 A3 ns c3 (ivals stack)) :
    ∃ A2' c2' A3' c3', Blk ((v.setCell ⟨w.heap.size, 0, none⟩ (.slice A2 nc c2)).setCell ⟨w.heap.size, 4, none⟩ (.slice A3 ns c3)) w.heap.size 37 #[.slice A2' nc c2', .int .i64 arg, .int .i64 data, .int .i64 (at_ : Int), .slice A3' ns c3', .int .i64 gas, .bool done, .int .i64 err] ∧
      Blk ((v.setCell ⟨w.heap.size, 0, none⟩ (.slice A2 nc c2)).setCell ⟨w.heap.size, 4, none⟩ (.slice A3 ns c3)) (w.heap.size + 1) 37 #[.slice none 0 0, .int .i64 0, .int .i64 0, .int .i64 0, .slice none 0 0, .int .i64 0, .bool false, .int .i64 0] ∧
      GB ((v.setCell ⟨w.heap.size, 0, none⟩ (.slice A2 nc c2)).setCell ⟨w.heap.size, 4, none⟩ (.slice A3 ns c3)) A2' nc c2' code ∧
      Own ((v.setCell ⟨w.heap.size, 0, none⟩ (.slice A2 nc c2)).setCell ⟨w.heap.size, 4, none⟩ (.slice A3 ns c3)) w.heap.size 3 1 A3' ns c3' (ivals stack) ∧
      Ext w ((v.setCell ⟨w.heap.size, 0, none⟩ (.slice A2 nc c2)).setCell ⟨w.heap.size, 4, none⟩ (.slice A3 ns c3)) := by
  have hB3 := hB1.ext hH
  have hM := ((Mut.refl v w.heap.size).setCell 0 (.slice A2 nc c2)).setCell 4 (.slice A3 ns c3)
  have hB4 := (hB3.set_ 0 (.slice A2 nc c2)).set_ 4 (.slice A3 ns c3)
  rw [set8_0, set8_4] at hB4
  exact ⟨A2, c2, A3, c3, hB4, (hB2.ext hH).mut hM (by omega), (GB.own h2).mut hB3 rmach_ne8 hM, (h3.mut hB3 rmach_neI hM).mono hx0.le, (hx0.trans hH).mut hM (Nat.le_refl _)⟩
/-- Memory in the midst of a Step: h the machine handed in (with slices of its own), r the result's block. -/
structure St5 (w0 w : World) (h r : Nat) (A2 : Option Addr) (nc c2 : Nat) (A3 : Option Addr) (ns c3 : Nat) (m : Ms) : Prop where
  bm : Blk w h 37 (m.cells A2 nc c2 A3 ns c3)
  br : Blk w r 37 #[.slice none 0 0, .int .i64 0, .int .i64 0, .int .i64 0, .slice none 0 0, .int .i64 0, .bool false, .int .i64 0]
  bg : GB w A2 nc c2 m.code
  bo : Own w w0.heap.size 3 1 A3 ns c3 (ivals m.stack)
  be : Ext w0 w
  lh : w0.heap.size ≤ h
  lr : w0.heap.size ≤ r
  ne : h ≠ r
theorem St5.ext {w0 w w' : World} {h r : Nat} {A2 : Option Addr} {nc c2 : Nat} {A3 : Option Addr} {ns c3 : Nat} {m : Ms} (k : St5 w0 w h r A2 nc c2 A3 ns c3 m) (he : Ext w w') : St5 w0 w' h r A2 nc c2 A3 ns c3 m :=
  ⟨k.bm.ext he, k.br.ext he, k.bg.ext he, k.bo.ext he, k.be.trans he, k.lh, k.lr, k.ne⟩
theorem St5.over {w0 w : World} {h r : Nat} {A2 : Option Addr} {nc c2 : Nat} {A3 : Option Addr} {ns c3 : Nat} {m : Ms} (k : St5 w0 w h r A2 nc c2 A3 ns c3 m) (e : Int) : St5 w0 ((w.setCell ⟨h, 6, none⟩ (.bool true)).setCell ⟨h, 7, none⟩ (.int .i64 e)) h r A2 nc c2 A3 ns c3 { m with done := true, err := e } := by
  have hM := ((Mut.refl w h).setCell 6 (.bool true)).setCell 7 (.int .i64 e)
  have hB := (k.bm.set_ 6 (.bool true)).set_ 7 (.int .i64 e)
  unfold Ms.cells at hB
  rw [set8_6, set8_7] at hB
  exact ⟨hB, k.br.mut hM k.ne.symm, k.bg.mut k.bm rmach_ne8 hM, k.bo.mut k.bm rmach_neI hM, k.be.mut hM k.lh, k.lh, k.lr, k.ne⟩
/-- Besides, q: the copy that goes on. -/
structure St6 (w0 w : World) (h r q : Nat) (A2 : Option Addr) (nc c2 : Nat) (A3 : Option Addr) (ns c3 : Nat) (m : Ms) (x : Ms) : Prop where
  st : St5 w0 w h r A2 nc c2 A3 ns c3 m
  bx : Blk w q 37 (x.cells A2 nc c2 A3 ns c3)
  lq : w0.heap.size ≤ q
  nh : h ≠ q
  nr : r ≠ q
theorem St6.ext {w0 w w' : World} {h r q : Nat} {A2 : Option Addr} {nc c2 : Nat} {A3 : Option Addr} {ns c3 : Nat} {m x : Ms} (k : St6 w0 w h r q A2 nc c2 A3 ns c3 m x) (he : Ext w w') : St6 w0 w' h r q A2 nc c2 A3 ns c3 m x :=
  ⟨k.st.ext he, k.bx.ext he, k.lq, k.nh, k.nr⟩
theorem St5.mut {w0 w w' : World} {h r q : Nat} {A2 : Option Addr} {nc c2 : Nat} {A3 : Option Addr} {ns c3 : Nat} {m : Ms} {cs : Array Value} (k : St5 w0 w h r A2 nc c2 A3 ns c3 m) (hb : Blk w q 37 cs) (h1 : h ≠ q) (h2 : r ≠ q) (lq : w0.heap.size ≤ q) (hm : Mut w q w') : St5 w0 w' h r A2 nc c2 A3 ns c3 m :=
  ⟨k.bm.mut hm h1, k.br.mut hm h2, k.bg.mut hb rmach_ne8 hm, k.bo.mut hb rmach_neI hm, k.be.mut hm lq, k.lh, k.lr, k.ne⟩
/-- A field of the copy is set. -/
theorem St6.gas_ {w0 w : World} {h r q : Nat} {A2 : Option Addr} {nc c2 : Nat} {A3 : Option Addr} {ns c3 : Nat} {m x : Ms} (k : St6 w0 w h r q A2 nc c2 A3 ns c3 m x) (v : Int) : St6 w0 (w.setCell ⟨q, 5, none⟩ (.int .i64 v)) h r q A2 nc c2 A3 ns c3 m { x with gas := v } :=
  ⟨k.st.mut k.bx k.nh k.nr k.lq ((Mut.refl w q).setCell 5 _), by have := k.bx.set_ 5 (.int .i64 v); unfold Ms.cells at this; rw [set8_5] at this; exact this, k.lq, k.nh, k.nr⟩
theorem St6.at_ {w0 w : World} {h r q : Nat} {A2 : Option Addr} {nc c2 : Nat} {A3 : Option Addr} {ns c3 : Nat} {m x : Ms} (k : St6 w0 w h r q A2 nc c2 A3 ns c3 m x) (v : Nat) : St6 w0 (w.setCell ⟨q, 3, none⟩ (.int .i64 (v : Int))) h r q A2 nc c2 A3 ns c3 m { x with at_ := v } :=
  ⟨k.st.mut k.bx k.nh k.nr k.lq ((Mut.refl w q).setCell 3 _), by have := k.bx.set_ 3 (.int .i64 (v : Int)); unfold Ms.cells at this; rw [set8_3] at this; exact this, k.lq, k.nh, k.nr⟩
theorem St6.done_ {w0 w : World} {h r q : Nat} {A2 : Option Addr} {nc c2 : Nat} {A3 : Option Addr} {ns c3 : Nat} {m x : Ms} (k : St6 w0 w h r q A2 nc c2 A3 ns c3 m x) (v : Bool) : St6 w0 (w.setCell ⟨q, 6, none⟩ (.bool v)) h r q A2 nc c2 A3 ns c3 m { x with done := v } :=
  ⟨k.st.mut k.bx k.nh k.nr k.lq ((Mut.refl w q).setCell 6 _), by have := k.bx.set_ 6 (.bool v); unfold Ms.cells at this; rw [set8_6] at this; exact this, k.lq, k.nh, k.nr⟩
theorem St6.new {w0 w w' : World} {h r : Nat} {A2 : Option Addr} {nc c2 : Nat} {A3 : Option Addr} {ns c3 : Nat} {m : Ms} (k : St5 w0 w h r A2 nc c2 A3 ns c3 m) {cs : Array Value} (hm : Mut (w.alloc (.cells cs 37)) w.heap.size w') (hb : Blk w' w.heap.size 37 (m.cells A2 nc c2 A3 ns c3)) : St6 w0 w' h r w.heap.size A2 nc c2 A3 ns c3 m m := by
  have hl := k.bm.lt
  have hr := k.br.lt
  exact ⟨(k.ext ((Ext.refl w).alloc _)).mut (Blk.new w 37 cs) (by omega) (by omega) k.be.le hm, hb, k.be.le, by omega, by omega⟩
/-- How a Step ends: a machine lies in the result's block. -/
theorem Gives.end6 {w0 w w' : World} {h r : Nat} {A2 : Option Addr} {nc c2 : Nat} {A3 : Option Addr} {ns c3 : Nat} {m : Ms} (k : St5 w0 w h r A2 nc c2 A3 ns c3 m) (y : Ms) (h1 : y.code = m.code) (h2 : y.stack = m.stack) (hnc : m.code.length = nc) (hns : m.stack.length = ns) (hm : Mut w r w') : Gives w0 y (.returned (.agg (y.cells A2 nc c2 A3 ns c3))) w' := by
  refine ⟨A2, c2, A3, c3, by rw [h1, h2, hnc, hns], ?_, ?_, k.be.mut hm k.lr⟩
  · rw [h1, hnc]; exact k.bg.mut k.br rmach_ne8 hm
  · rw [h2, hns]; exact k.bo.mut k.br rmach_neI hm
end Go.Proofs.Ytlahecofjlaojaa
