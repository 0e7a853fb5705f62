/- The machine: pop, push. -/
import Derived.Test.YtlahecofjlaojaaVmLaw
namespace Go.Proofs.Ytlahecofjlaojaa
set_option linter.unusedVariables false
open Go.RowKit

/-- Block g is a machine of the call's own, that lies behind all of w0. -/
structure NextAt (w0 w : World) (g : Nat) (m : Ms) : Prop where
  base : Ext w0 w
  hg : w0.heap.size ≤ g
  raw : ∃ Ac cc As cs, Blk w g 34 (m.cells Ac m.code.length cc As m.stack.length cs) ∧ GB w Ac m.code.length cc m.code ∧ Own w w0.heap.size 3 1 As m.stack.length cs (ivals m.stack)
theorem NextAt.lt {w0 w : World} {g : Nat} {m : Ms} (h : NextAt w0 w g m) : g < w.heap.size := by
  obtain ⟨_, _, _, _, h1, _, _⟩ := h.raw
  exact h1.lt
theorem NextAt.ext {w0 w w' : World} {g : Nat} {m : Ms} (h : NextAt w0 w g m) (he : Ext w w') : NextAt w0 w' g m := by
  obtain ⟨Ac, cc, As, cs, h1, h2, h3⟩ := h.raw
  exact ⟨h.base.trans he, h.hg, ⟨Ac, cc, As, cs, h1.ext he, h2.ext he, h3.ext he⟩⟩

set_option maxHeartbeats 1000000 in
theorem vpush_any (w0 : World) (g : Nat) (m : Ms) (Al : Option Addr) (nl cl : Nat) (l : List Int) (w : World) (hN : NextAt w0 w g m) (hl : Nums .i64 w Al nl l) (hn : nl ≤ 1000) (hs : m.stack.length ≤ 1000) :
    Calls Try.prog 39 #[.pointer (some ⟨g, 0, none⟩), .slice Al nl cl] w fun e w' => e = .returned (.int .i64 (push_ m l).1) ∧ NextAt w0 w' g (push_ m l).2 := by
  obtain ⟨Ac, cc, As, cs, hB, hc, ho⟩ := hN.raw
  have hll := hl.1
  have hbase := hN.base
  have hgg := hN.hg
  by_cases hbig : 16 < m.stack.length + nl
  · have he : push_ m l = (15, m) := by unfold push_; rw [if_pos (by omega)]
    rw [he]
    unfold Ms.cells at hB
    obtain ⟨k0, k1, k2, k3, k4, k5, k6, k7⟩ := hB.cells8
    have Hll := Lib.hid hll
    have hbig' : (16 : Int) < (m.stack.length : Int) + (nl : Int) := by omega
    clear hB hc ho he hll hbase hgg k0 k1 k2 k3 k5 k6 k7
    generalize m.stack.length = ns at *
    go_enter Try.func39, Try.ntmps39
    go_wp2_with fail
    go_ret
    exact ⟨rfl, hN⟩
  · have he : push_ m l = (0, { m with stack := m.stack ++ l }) := by unfold push_; rw [if_neg (by omega)]
    rw [he]
    have hsl : (m.stack ++ l).length = m.stack.length + nl := by rw [List.length_append, hll]
    have hfin : ∀ w' A' c', Own w' w0.heap.size 3 1 A' (m.stack.length + nl) c' (ivals m.stack ++ ivals l) → w.grownBy w' (rowOf As cs) → NextAt w0 (w'.setCell ⟨g, 4, none⟩ (.slice A' (m.stack.length + nl) c')) g { m with stack := m.stack ++ l } := fun w' A' c' h1 h2 => by
      have hB2 := hB.own ho mach_neI h2
      have hx2 : Ext w0 w' := hbase.grown h2 (fun k h => (ho.row k h).1)
      have hM := (Mut.refl w' g).setCell 4 (.slice A' (m.stack.length + nl) c')
      have hB3 := hB2.set_ 4 (.slice A' (m.stack.length + nl) c')
      unfold Ms.cells at hB3
      rw [set8_4] at hB3
      have hc2 : GB w' Ac m.code.length cc m.code := ⟨hc.1, hc.2.1, .of (hc.2.2.1.rs.typ_grown hc.2.2.2 ho (by decide) h2) hc.2.2.1.len, hc.2.2.2.grown ho (by decide) h2⟩
      refine ⟨hx2.mut hM hgg, hgg, ⟨Ac, cc, A', c', ?_, hc2.mut hB2 mach_ne8 hM, ?_⟩⟩
      · unfold Ms.cells
        simp only [hsl]
        exact hB3
      · simp only [hsl]
        rw [ivals_append]
        exact h1.mut hB2 mach_neI hM
    have Hfin := Lib.hid hfin
    have hB' := hB
    unfold Ms.cells at hB'
    obtain ⟨k0, k1, k2, k3, k4, k5, k6, k7⟩ := hB'.cells8
    have hle : (m.stack.length : Int) + (nl : Int) ≤ 16 := by omega
    have hst : ∀ w', w.grownBy w' (rowOf As cs) → w'.cell? ⟨g, 4, none⟩ = some (.slice As m.stack.length cs) ∧ w'.frozen? ⟨g, 4, none⟩ = false := fun w' h2 => by
      have hB2 := hB.own ho mach_neI h2
      exact ⟨by rw [hB2.cell]; rfl, hB2.frozen 4⟩
    have Hst := Lib.hid hst
    have Hll := Lib.hid hll
    generalize hd' : ({ m with stack := m.stack ++ l } : Ms) = m' at *
    have Hd' := Lib.hid hd'
    clear hB hc hN k0 k1 k2 k3 k5 k6 k7 hfin hst hd' he hll hB' hsl
    generalize m.stack.length = ns at *
    have m1 : ns + nl ≤ maxLen := by unfold maxLen; omega
    have m2 : (ns + nl) * 8 ≤ 140737488355328 := by omega
    have hbl := hbase.le
    go_enter Try.func39, Try.ntmps39
    go_wp2_with (at_builtin; refine wpList_append_Own rfl (.tmp 18) (.tmp 19) _ rfl w0.heap.size int_elem rfl ho rfl hl.2 (Nums.one _) m1 m2 hbl ?_)
    intro A9 c9 w9 ho9 hg9
    obtain ⟨j4, f4⟩ := Hst.out w9 hg9
    have HF := Lib.hid (Hfin.out w9 A9 c9 ho9 hg9)
    clear ho9 hg9
    go_wp2_with fail
    go_ret
    exact ⟨rfl, HF.out⟩

set_option maxHeartbeats 1000000 in
theorem vpop_no (w0 : World) (g : Nat) (m : Ms) (k : Nat) (w : World) (hN : NextAt w0 w g m) (hk : k ≤ 2) (hs : m.stack.length ≤ 1000) (hlt : m.stack.length < k) :
    Calls Try.prog 37 #[.pointer (some ⟨g, 0, none⟩), .int .i64 (k : Int)] w fun e w' => e = .returned (.tuple #[.slice none 0 0, .bool false]) ∧ NextAt w0 w' g m := by
  obtain ⟨Ac, cc, As, cs, hB, hc, ho⟩ := hN.raw
  unfold Ms.cells at hB
  obtain ⟨k0, k1, k2, k3, k4, k5, k6, k7⟩ := hB.cells8
  clear hB hc ho k0 k1 k2 k3 k5 k6 k7
  generalize m.stack.length = ns at *
  go_enter Try.func37, Try.ntmps37
  go_wp2_with fail
  go_ret2
  exact ⟨rfl, hN⟩

set_option maxHeartbeats 1000000 in
theorem vpop_yes (w0 : World) (g : Nat) (m : Ms) (k : Nat) (w : World) (hN : NextAt w0 w g m) (hk : k ≤ 2) (hs : m.stack.length ≤ 1000) (hle : k ≤ m.stack.length) :
    Calls Try.prog 37 #[.pointer (some ⟨g, 0, none⟩), .int .i64 (k : Int)] w fun e w' => ∃ A', e = .returned (.tuple #[.slice A' k k, .bool true]) ∧ GI w' A' k k (m.stack.drop (m.stack.length - k)) ∧ NextAt w0 w' g { m with stack := m.stack.take (m.stack.length - k) } := by
  obtain ⟨Ac, cc, As, cs, hB, hc, ho⟩ := hN.raw
  have hbase := hN.base
  have hgg := hN.hg
  have hnc := ho.2.1
  obtain ⟨A3, e3, z3⟩ := Nums.rest (⟨rfl, ho.rs⟩ : Nums .i64 w As m.stack.length m.stack) (k := m.stack.length - k) (c := cs) (by omega) hnc
  have e3' := fun w => e3 w ((m.stack.length : Int) - (k : Int)) (by omega)
  have ehi : ∀ w, (Instr.slice 23 (.slice As m.stack.length cs) none (some (.int .i64 ((m.stack.length : Int) - (k : Int)))) none).run Try.prog w = .ok (.slice As (m.stack.length - k) cs) w := fun w => int_elem.cut_hi As _ cs (m.stack.length - k) .i64 _ (by omega) (by omega) w
  have hint := vints_any A3 k (cs - (m.stack.length - k)) (m.stack.drop (m.stack.length - k)) w (by have := z3; rwa [show m.stack.length - (m.stack.length - k) = k from by omega] at this) (by omega)
  rw [show m.stack.length - (m.stack.length - k) = k from by omega] at e3'
  have htl : (m.stack.take (m.stack.length - k)).length = m.stack.length - k := by rw [List.length_take]; omega
  have hfin : ∀ w', Ext w w' → NextAt w0 (w'.setCell ⟨g, 4, none⟩ (.slice As (m.stack.length - k) cs)) g { m with stack := m.stack.take (m.stack.length - k) } ∧ Mut w' g (w'.setCell ⟨g, 4, none⟩ (.slice As (m.stack.length - k) cs)) := fun w' h2 => by
    have hB2 := hB.ext h2
    have hM := (Mut.refl w' g).setCell 4 (.slice As (m.stack.length - k) cs)
    have hB3 := hB2.set_ 4 (.slice As (m.stack.length - k) cs)
    unfold Ms.cells at hB3
    rw [set8_4] at hB3
    refine ⟨⟨(hbase.trans h2).mut hM hgg, hgg, ⟨Ac, cc, As, cs, ?_, (hc.ext h2).mut hB2 mach_ne8 hM, ?_⟩⟩, hM⟩
    · unfold Ms.cells
      simp only [htl]
      exact hB3
    · simp only [htl]
      have := ((ho.cut_ (m := m.stack.length - k) (by omega)).ext h2).mut hB2 mach_neI hM
      simpa [ivals] using this
  have hst : ∀ w', Ext w w' → w'.cell? ⟨g, 4, none⟩ = some (.slice As m.stack.length cs) ∧ w'.frozen? ⟨g, 4, none⟩ = false := fun w' h2 => ⟨by rw [(hB.ext h2).cell]; rfl, (hB.ext h2).frozen 4⟩
  have hgi : ∀ w' A', Ext w w' → GI w' A' k k (m.stack.drop (m.stack.length - k)) → GI (w'.setCell ⟨g, 4, none⟩ (.slice As (m.stack.length - k) cs)) A' k k (m.stack.drop (m.stack.length - k)) := fun w' A' h1 h2 => h2.mut (hB.ext h1) mach_neI ((Mut.refl w' g).setCell 4 _)
  have Hfin := Lib.hid hfin
  have Hst := Lib.hid hst
  have Hgi := Lib.hid hgi
  have hB' := hB
  unfold Ms.cells at hB'
  obtain ⟨k0, k1, k2, k3, k4, k5, k6, k7⟩ := hB'.cells8
  have hkl : (k : Int) ≤ (m.stack.length : Int) := by omega
  clear hB hc hN k0 k1 k2 k3 k5 k6 k7 hfin hst hgi hB' htl z3 e3 ho
  generalize hd' : ({ m with stack := m.stack.take (m.stack.length - k) } : Ms) = m' at *
  have Hd' := Lib.hid hd'
  clear hd'
  generalize m.stack.drop (m.stack.length - k) = zs at *
  generalize m.stack.length = ns at *
  go_enter Try.func37, Try.ntmps37
  go_wp2_with fail
  refine hint.mono ?_
  rintro e w2 ⟨A2, rfl, ho2, hx2⟩
  obtain ⟨j4, f4⟩ := Hst.out w2 hx2
  have HF := Lib.hid (Hfin.out w2 hx2)
  have HG := Lib.hid (Hgi.out w2 A2 hx2 (GI.own ho2))
  clear hint ho2
  go_wp2_with fail
  go_ret2
  exact ⟨A2, rfl, HG.out, HF.out.1⟩
end Go.Proofs.Ytlahecofjlaojaa
