/- The document's Step, signs: plain law, memory. -/
import Derived.Test.YtlahecofjlaojaaRf3
namespace Go.Proofs.Ytlahecofjlaojaa
set_option linter.unusedVariables false
open Go.RowKit

/-- What a step makes of a sign, its parts by name. -/
theorem stepY {m : Ms} (hd : m.done = false) (hg : 1 ≤ m.gas) (hat : m.at_ < m.code.length) (h0 : m.code.getD m.at_ 0 ≠ 0) :
    stepV m = (if (doV { m with at_ := m.at_ + 1, gas := m.gas - 1 } (m.code.getD m.at_ 0)).1 ≠ 0 then overV { m with gas := m.gas - 1 } (doV { m with at_ := m.at_ + 1, gas := m.gas - 1 } (m.code.getD m.at_ 0)).1 else (doV { m with at_ := m.at_ + 1, gas := m.gas - 1 } (m.code.getD m.at_ 0)).2) := by
  conv => lhs; unfold stepV
  rw [if_neg (by simp [hd]), if_neg (by omega)]; simp only; rw [if_neg (by omega), if_neg (by omega)]
/-- What a sign pushes. -/
def newV (m : Ms) (op : Nat) (k a b : Int) : List Int :=
  if op = 1 then [k] else if 2 ≤ op ∧ op ≤ 7 then [(twoV op a b).2] else if op = 8 then [b, b] else if op = 9 then [b, a] else if op = 11 then [m.arg] else if op = 12 then [m.data] else if op = 14 then [i32V b] else if op = 15 then [u8V b] else []
/-- Where a sign's number lies, where it goes on. -/
inductive Lit (code : List Nat) (at_ op : Nat) : Int → Nat → Prop where
  | push (h : op = 1) (hl : at_ + 9 ≤ code.length) : Lit code at_ op (num8 ((code.drop (at_ + 1)).take 8)) (at_ + 9)
  | jump (h : op = 13) (hl : at_ + 1 < code.length) : Lit code at_ op ((code.getD (at_ + 1) 0 : Nat) : Int) (at_ + 2)
  | none (h1 : op ≠ 1) (h2 : op ≠ 13) : Lit code at_ op 0 (at_ + 1)
theorem doV_cut1 {m : Ms} {op : Nat} (ho : op = 1) (h : m.code.length < m.at_ + 8) : (doV m op).1 = 8 := by
  unfold doV; simp only; rw [if_pos ho, if_pos h]
theorem doV_cut13 {m : Ms} {op : Nat} (ho : op = 13) (h : m.code.length ≤ m.at_) : (doV m op).1 = 8 := by
  unfold doV; simp only; rw [if_neg (by omega), if_neg (by omega), if_neg (by omega), if_neg (by omega), if_neg (by omega), if_neg (by omega), if_pos ho, if_pos h]
theorem rdoV_deep {m : Ms} {op at0 a' : Nat} {k : Int} (h0 : 0 < op) (h15 : op ≤ 15) (hm : m.at_ = at0 + 1) (hk : Lit m.code at0 op k a') (h : m.stack.length < needsV op ∨ 16 + needsV op < m.stack.length + putsV op) : (doV m op).1 = 15 := by
  have hlt : ∀ k, (m.stack.take (m.stack.length - 1)).length + k = m.stack.length - 1 + k := fun k => by rw [List.length_take]; omega
  unfold doV
  simp only
  rcases hk with ⟨rfl, hl⟩ | ⟨rfl, hl⟩ | ⟨h1, h2⟩
  · rw [show needsV 1 = 0 from rfl, show putsV 1 = 1 from rfl] at h
    rw [if_pos rfl, if_neg (by omega)]
    unfold push_
    rw [if_pos (by simp; omega)]
  · rw [show needsV 13 = 1 from rfl, show putsV 13 = 0 from rfl] at h
    rw [if_neg (by decide), if_neg (by decide), if_neg (by decide), if_neg (by decide), if_neg (by decide), if_neg (by decide), if_pos rfl, if_neg (by omega), if_pos (by omega)]
  · rw [if_neg h1]
    by_cases h27 : 2 ≤ op ∧ op ≤ 7
    · have hN : needsV op = 2 := by unfold needsV; rw [if_pos (.inl h27)]
      have hP : putsV op = 1 := by unfold putsV; rw [if_neg (by omega), if_neg (by omega)]
      rw [hN, hP] at h
      rw [if_pos h27, if_pos (by omega)]
    rw [if_neg h27]
    by_cases h9 : op = 9
    · subst h9
      rw [show needsV 9 = 2 from rfl, show putsV 9 = 2 from rfl] at h
      rw [if_pos rfl, if_pos (by omega)]
    rw [if_neg h9]
    by_cases h8 : op = 8 ∨ op = 10 ∨ op = 14 ∨ op = 15
    · rw [if_pos h8]
      by_cases hn : m.stack.length < 1
      · rw [if_pos hn]
      · rw [if_neg hn]
        unfold push_
        rcases h8 with rfl | rfl | rfl | rfl
        · rw [show needsV 8 = 1 from rfl, show putsV 8 = 2 from rfl] at h
          rw [if_pos (by show 16 < (m.stack.take (m.stack.length - 1)).length + 2; rw [hlt]; omega)]
        · rw [show needsV 10 = 1 from rfl, show putsV 10 = 0 from rfl] at h
          rw [if_pos (by show 16 < (m.stack.take (m.stack.length - 1)).length + 0; rw [hlt]; omega)]
        · rw [show needsV 14 = 1 from rfl, show putsV 14 = 1 from rfl] at h
          rw [if_pos (by show 16 < (m.stack.take (m.stack.length - 1)).length + 1; rw [hlt]; omega)]
        · rw [show needsV 15 = 1 from rfl, show putsV 15 = 1 from rfl] at h
          rw [if_pos (by show 16 < (m.stack.take (m.stack.length - 1)).length + 1; rw [hlt]; omega)]
    rw [if_neg h8]
    by_cases h11 : op = 11
    · subst h11
      rw [show needsV 11 = 0 from rfl, show putsV 11 = 1 from rfl] at h
      rw [if_pos rfl]; unfold push_; rw [if_pos (by simp; omega)]
    rw [if_neg h11]
    by_cases h12 : op = 12
    · subst h12
      rw [show needsV 12 = 0 from rfl, show putsV 12 = 1 from rfl] at h
      rw [if_pos rfl]; unfold push_; rw [if_pos (by simp; omega)]
    omega
/-- A sign that is done: what the stack is then, where it goes on. -/
theorem doV_done {m : Ms} {op at0 a' : Nat} {k a b : Int} (h0 : 0 < op) (h15 : op ≤ 15) (hm : m.at_ = at0 + 1) (hk : Lit m.code at0 op k a') (h1 : needsV op ≤ m.stack.length) (h2 : m.stack.length + putsV op ≤ 16 + needsV op)
    (hb : 1 ≤ needsV op → b = m.stack.getD (m.stack.length - 1) 0) (ha : needsV op = 2 → a = m.stack.getD (m.stack.length - 2) 0) :
    (2 ≤ op ∧ op ≤ 7 ∧ (twoV op a b).1 ≠ 0 ∧ (doV m op).1 = ((twoV op a b).1 : Int)) ∨
    (op = 13 ∧ b = 0 ∧ (m.code.length : Int) < k ∧ (doV m op).1 = 10) ∨
    ((2 ≤ op ∧ op ≤ 7 → (twoV op a b).1 = 0) ∧ (op = 13 → b = 0 → k ≤ (m.code.length : Int)) ∧ doV m op = (0, { m with at_ := if op = 13 ∧ b = 0 then k.toNat else a', stack := m.stack.take (m.stack.length - needsV op) ++ newV m op k a b })) := by
  have hlt : ∀ k, (m.stack.take (m.stack.length - 1)).length + k = m.stack.length - 1 + k := fun k => by rw [List.length_take]; omega
  unfold doV
  simp only
  rcases hk with ⟨rfl, hl⟩ | ⟨rfl, hl⟩ | ⟨g1, g2⟩
  · rw [show needsV 1 = 0 from rfl] at h1 h2 hb ha ⊢
    rw [show putsV 1 = 1 from rfl] at h2
    right; right
    refine ⟨fun h => absurd h (by omega), fun h => absurd h (by omega), ?_⟩
    rw [if_pos rfl, if_neg (by omega)]
    unfold push_
    rw [if_neg (by simp; omega), if_neg (by simp)]
    unfold newV
    rw [if_pos rfl]
    simp [hm]
  · rw [show needsV 13 = 1 from rfl] at h1 h2 hb ha ⊢
    rw [show putsV 13 = 0 from rfl] at h2
    have hb' := hb (by omega)
    right
    rw [if_neg (by decide), if_neg (by decide), if_neg (by decide), if_neg (by decide), if_neg (by decide), if_neg (by decide), if_pos rfl, if_neg (by omega), if_neg (by omega), ← hb', hm]
    by_cases hz : b = 0
    · rw [if_pos hz]
      by_cases hk : m.code.length < m.code.getD (at0 + 1) 0
      · left
        rw [if_pos hk]
        exact ⟨rfl, hz, by omega, rfl⟩
      · right
        rw [if_neg hk]
        refine ⟨fun h => absurd h (by omega), fun _ _ => by omega, ?_⟩
        rw [if_pos ⟨rfl, hz⟩]
        simp [newV]
    · right
      rw [if_neg hz]
      refine ⟨fun h => absurd h (by omega), fun _ h => absurd h hz, ?_⟩
      rw [if_neg (by simp [hz])]
      simp [newV]
  · rw [if_neg g1]
    by_cases h27 : 2 ≤ op ∧ op ≤ 7
    · have hN : needsV op = 2 := by unfold needsV; rw [if_pos (.inl h27)]
      have hP : putsV op = 1 := by unfold putsV; rw [if_neg (by omega), if_neg (by omega)]
      rw [hN] at h1 h2 hb ha ⊢
      rw [hP] at h2
      have hb' := hb (by omega)
      have ha' := ha rfl
      rw [if_pos h27, if_neg (by omega), ← hb', ← ha']
      by_cases hr : (twoV op a b).1 ≠ 0
      · left
        rw [if_pos hr]
        exact ⟨h27.1, h27.2, hr, rfl⟩
      · right; right
        rw [if_neg hr]
        refine ⟨fun _ => by omega, fun h => absurd h g2, ?_⟩
        rw [if_neg (by omega)]
        unfold newV
        rw [if_neg g1, if_pos h27, hm]
    rw [if_neg h27]
    right; right
    refine ⟨fun h => absurd h h27, fun h => absurd h g2, ?_⟩
    rw [if_neg (show ¬ (op = 13 ∧ b = 0) by omega)]
    unfold newV
    rw [if_neg g1, if_neg h27]
    by_cases h9 : op = 9
    · subst h9
      rw [show needsV 9 = 2 from rfl] at h1 h2 hb ha ⊢
      rw [show putsV 9 = 2 from rfl] at h2
      have hb' := hb (by omega)
      have ha' := ha rfl
      rw [if_pos rfl, if_neg (by omega), ← hb', ← ha', if_neg (by decide), if_pos rfl, hm]
    rw [if_neg h9, if_neg h9]
    by_cases h8 : op = 8 ∨ op = 10 ∨ op = 14 ∨ op = 15
    · have hN : needsV op = 1 := by unfold needsV; rw [if_neg (by omega), if_pos (by omega)]
      rw [hN] at h1 h2 hb ha ⊢
      have hb' := hb (by omega)
      rw [if_pos h8, if_neg (by omega), ← hb']
      unfold push_
      rcases h8 with rfl | rfl | rfl | rfl
      · rw [show putsV 8 = 2 from rfl] at h2
        rw [if_neg (by show ¬ 16 < (m.stack.take (m.stack.length - 1)).length + 2; rw [hlt]; omega)]
        simp [oneV, hm]
      · rw [show putsV 10 = 0 from rfl] at h2
        rw [if_neg (by show ¬ 16 < (m.stack.take (m.stack.length - 1)).length + 0; rw [hlt]; omega)]
        simp [oneV, hm]
      · rw [show putsV 14 = 1 from rfl] at h2
        rw [if_neg (by show ¬ 16 < (m.stack.take (m.stack.length - 1)).length + 1; rw [hlt]; omega)]
        simp [oneV, hm]
      · rw [show putsV 15 = 1 from rfl] at h2
        rw [if_neg (by show ¬ 16 < (m.stack.take (m.stack.length - 1)).length + 1; rw [hlt]; omega)]
        simp [oneV, hm]
    rw [if_neg h8, if_neg (show op ≠ 8 by omega)]
    have hN : needsV op = 0 := by unfold needsV; rw [if_neg (by omega), if_neg (by omega)]
    have hP : putsV op = 1 := by unfold putsV; rw [if_neg (by omega), if_neg (by omega)]
    rw [hN] at h1 h2 hb ha ⊢
    rw [hP] at h2
    rw [Nat.sub_zero, List.take_length]
    by_cases h11 : op = 11
    · subst h11
      rw [if_pos rfl, if_pos rfl]
      unfold push_
      rw [if_neg (by simp; omega), hm]
    rw [if_neg h11, if_neg h11]
    by_cases h12 : op = 12
    · subst h12
      rw [if_pos rfl, if_pos rfl]
      unfold push_
      rw [if_neg (by simp; omega), hm]
    omega
/-- Memory at a Step's end: q the copy that goes on, As the stack then. -/
structure St7 (w0 w : World) (r q : Nat) (A2 : Option Addr) (nc c2 : Nat) (A3 : Option Addr) (ns c3 : Nat) (As : Option Addr) (ls cs : Nat) (y : Ms) : Prop where
  br : Blk w r 37 #[.slice none 0 0, .int .i64 0, .int .i64 0, .int .i64 0, .slice none 0 0, .int .i64 0, .bool false, .int .i64 0]
  bx : Blk w q 37 (y.cells A2 nc c2 A3 ns c3)
  bg : GB w A2 nc c2 y.code
  bo : Own w w0.heap.size 3 1 As ls cs (ivals y.stack)
  be : Ext w0 w
  lr : w0.heap.size ≤ r
  lq : w0.heap.size ≤ q
  nr : r ≠ q
theorem GB.ownI {w w' : World} {A A1 : Option Addr} {n c B sz n1 c1 : Nat} {e : TypeId} {bs : List Nat} {xs : List Value} (h : GB w A n c bs) (ho : Own w B e sz A1 n1 c1 xs) (hne : e ≠ 5) (hg : w.grownBy w' (rowOf A1 c1)) : GB w' A n c bs :=
  ⟨h.1, h.2.1, .of (h.2.2.1.rs.typ_grown h.2.2.2 ho hne hg) h.2.2.1.len, h.2.2.2.grown ho hne hg⟩
theorem ivals_get (zs : List Int) (j : Nat) (h : j < zs.length) : (ivals zs)[j]? = some (Value.int .i64 (zs.getD j 0)) := by
  unfold ivals
  rw [List.getElem?_map, List.getElem?_eq_getElem h]
  simp [h]
theorem take_ivals (l : List Int) (j : Nat) : (ivals l).take (j * 1) = ivals (l.take j) := by simp [ivals]
theorem St6.front {w0 w : World} {h r q : Nat} {A2 : Option Addr} {nc c2 : Nat} {A3 : Option Addr} {ns c3 : Nat} {m x : Ms} (k : St6 w0 w h r q A2 nc c2 A3 ns c3 m x) {j : Nat} (hj : j ≤ ns) : Own w w0.heap.size 3 1 A3 j c3 (ivals (m.stack.take j)) := by
  have := k.st.bo.cut_ hj
  rwa [take_ivals] at this
theorem St6.seven {w0 w : World} {h r q : Nat} {A2 : Option Addr} {nc c2 : Nat} {A3 : Option Addr} {ns c3 : Nat} {m x : Ms} (k : St6 w0 w h r q A2 nc c2 A3 ns c3 m x) {j : Nat} (hj : j ≤ ns) (y : Ms) (h1 : y.code = m.code) (h2 : y.stack = m.stack.take j) (h3 : y.cells A2 nc c2 A3 ns c3 = x.cells A2 nc c2 A3 ns c3) :
    St7 w0 w r q A2 nc c2 A3 ns c3 A3 j c3 y :=
  ⟨k.st.br, by rw [h3]; exact k.bx, by rw [h1]; exact k.st.bg, by rw [h2]; exact k.front hj, k.st.be, k.st.lr, k.lq, k.nr⟩
theorem St6.app {w0 w w' : World} {h r q : Nat} {A2 : Option Addr} {nc c2 : Nat} {A3 : Option Addr} {ns c3 : Nat} {m x : Ms} (k : St6 w0 w h r q A2 nc c2 A3 ns c3 m x) {j : Nat} (hj : j ≤ ns) (hg : w.grownBy w' (rowOf A3 c3)) {As : Option Addr} {ls cs : Nat} {l : List Int} (ho : Own w' w0.heap.size 3 1 As ls cs (ivals (m.stack.take j) ++ ivals l)) (y : Ms) (h1 : y.code = m.code) (h2 : y.stack = m.stack.take j ++ l) (h3 : y.cells A2 nc c2 A3 ns c3 = x.cells A2 nc c2 A3 ns c3) :
    St7 w0 w' r q A2 nc c2 A3 ns c3 As ls cs y := by
  have hf := k.front hj
  exact ⟨k.st.br.own hf rmach_neI hg, by rw [h3]; exact k.bx.own hf rmach_neI hg, by rw [h1]; exact k.st.bg.ownI hf (by decide) hg, by rw [h2, ivals_append]; exact ho, k.st.be.grown hg (fun i hi => (hf.row i hi).1), k.st.lr, k.lq, k.nr⟩
theorem Gives.end7 {w0 w w' : World} {r q : Nat} {A2 : Option Addr} {nc c2 : Nat} {A3 : Option Addr} {ns c3 : Nat} {As : Option Addr} {ls cs : Nat} {y : Ms} (k : St7 w0 w r q A2 nc c2 A3 ns c3 As ls cs y) (hnc : y.code.length = nc) (hm : Mut w r w') : Gives w0 y (.returned (.agg (y.cells A2 nc c2 As ls cs))) w' := by
  have hls : ls = y.stack.length := by have := k.bo.1; rw [ivals_len] at this; omega
  refine ⟨A2, c2, As, cs, by rw [hnc, hls], ?_, ?_, k.be.mut hm k.lr⟩
  · rw [hnc]; exact k.bg.mut k.br rmach_ne8 hm
  · rw [← hls]; exact k.bo.mut k.br rmach_neI hm
theorem St7.fin {w0 w : World} {r q : Nat} {A2 : Option Addr} {nc c2 : Nat} {A3 : Option Addr} {ns c3 : Nat} {As : Option Addr} {ls cs : Nat} {y : Ms} (k : St7 w0 w r q A2 nc c2 A3 ns c3 As ls cs y) :
    St7 w0 (w.setCell ⟨q, 4, none⟩ (.slice As ls cs)) r q A2 nc c2 As ls cs As ls cs y := by
  have hM := (Mut.refl w q).setCell 4 (.slice As ls cs)
  have hB := k.bx.set_ 4 (.slice As ls cs)
  unfold Ms.cells at hB
  rw [set8_4] at hB
  exact ⟨k.br.mut hM k.nr, hB, k.bg.mut k.bx rmach_ne8 hM, k.bo.mut k.bx rmach_neI hM, k.be.mut hM k.lq, k.lr, k.lq, k.nr⟩
end Go.Proofs.Ytlahecofjlaojaa
