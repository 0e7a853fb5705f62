/- Helpers of chapter 3's laws: few, log, rows. -/
import Derived.Test.YtbijpbkekdeilaaRScan
import Derived.Test.YtbijpbkekdeilaaFrHelp
namespace Go.Proofs.Ytbijpbkekdeilaa
set_option linter.unusedVariables false
open Go.RowKit

def fewB (rs : List (List Nat)) : Bool := decide (rs.length ≤ 10) && rs.all fun r => decide (r.length ≤ 300)
theorem fewB_yes {rs : List (List Nat)} (h : fewB rs = true) : rs.length ≤ 10 ∧ ∀ r ∈ rs, r.length ≤ 300 := by
  simp only [fewB, Bool.and_eq_true, decide_eq_true_eq, List.all_eq_true] at h
  exact h
theorem fewB_mk {rs : List (List Nat)} (h : ∀ j, j < rs.length → (rs.getD j []).length ≤ 300) : fewB rs = decide (rs.length ≤ 10) := by
  have : rs.all (fun r => decide (r.length ≤ 300)) = true := by
    rw [List.all_eq_true]
    intro r hr
    obtain ⟨j, hj, rfl⟩ := List.getElem_of_mem hr
    have := h j hj
    simpa [hj] using this
  rw [fewB, this, Bool.and_true]
theorem fewB_no {rs : List (List Nat)} {j : Nat} (hj : j < rs.length) (h : 300 < (rs.getD j []).length) : fewB rs = false := by
  have : rs.all (fun r => decide (r.length ≤ 300)) = false := by
    rw [Bool.eq_false_iff]
    intro h2
    rw [List.all_eq_true] at h2
    have := h2 rs[j] (List.getElem_mem hj)
    simp [hj] at h this
    omega
  rw [fewB, this, Bool.and_false]

theorem ret_bool1 {a b : Bool} (h : a = b) : Ending.returned (.bool a) = .returned (.bool b) := by rw [h]

set_option maxHeartbeats 400000 in
theorem few3 (A : Option Addr) (n c : Nat) (rs : List (List Nat)) (w : World) (hz : Rws w A n rs) (hm : n ≤ maxLen) :
    Calls Try.prog 22 #[.slice A n c] w fun e w' => e = .returned (.bool (fewB rs)) ∧ w = w' := by
  unfold maxLen at hm
  have hl := hz.len
  go_enter Try.func22, Try.ntmps22
  go_wp2_with fail
  go_loop [3] (fun i => ∃ k : Nat, k ≤ n ∧ i = .int .i64 k ∧ ∀ j, j < k → (rs.getD j []).length ≤ 300) (fun i => n - (intOf i).toNat)
  case atStart => exact ⟨0, by omega, rfl, fun j h => absurd h (by omega)⟩
  case round =>
    obtain ⟨k, hk, rfl, hall⟩ := hrel
    have Hall := Lib.hid hall
    clear hall
    have Hl := Lib.hid hl
    clear hl
    by_cases hlt : k < n
    · obtain ⟨b, o, A1, n1, c1, rfl, hb, hc, h1, h2, h3⟩ := hz.at_ k hlt
      have hl1 := Lib.hid h3.len
      by_cases hbig : (300 : Int) < (n1 : Int)
      · go_wp2_with fail
        go_ret
        exact ⟨ret_bool1 (fewB_no (j := k) (by rw [Hl.out]; exact hlt) (by rw [hl1.out]; omega)).symm, rfl⟩
      · go_wp2_with fail
        go_round
        case rel => exact ⟨k + 1, by omega, by go_num, fun j hj => by
          by_cases hjk : j < k
          · exact Hall.out j hjk
          · have : j = k := by omega
            subst this
            rw [hl1.out]; omega⟩
        case measure => simp [intOf]; omega
    · have : k = n := by omega
      subst this
      go_wp2_with fail
      go_ret
      refine ⟨ret_bool1 ?_, rfl⟩
      rw [fewB_mk (fun j hj => Hall.out j (by rw [Hl.out] at hj; exact hj)), Hl.out]
      simp only [decide_eq_decide]
      omega

/-- What log lays: frames, one behind the other. -/
def logL (rs : List (List Nat)) : List Nat := (rs.map frameL).flatten
theorem logL_snoc (rs : List (List Nat)) (k : Nat) (hk : k < rs.length) : logL (rs.take (k + 1)) = logL (rs.take k) ++ frameL (rs.getD k []) := by
  unfold logL
  rw [List.take_succ_eq_append_getElem hk, List.map_append, List.flatten_append, List.map_cons, List.map_nil, show rs.getD k [] = rs[k] from by simp [hk]]
  simp only [List.flatten_cons, List.flatten_nil, List.append_nil]
theorem frameL_len (bs : List Nat) : (frameL bs).length = bs.length + 8 := by simp [frameL, bytes4]
theorem bytes4_lt {n : Nat} (hn : n < 4294967296) : ∀ x ∈ bytes4 n, x < 256 := by
  intro x hx
  simp [bytes4] at hx
  omega
theorem frameL_lt {bs : List Nat} (hb : ∀ x ∈ bs, x < 256) (hl : bs.length < 4294967296) : ∀ x ∈ frameL bs, x < 256 := by
  intro x hx
  unfold frameL at hx
  rw [List.mem_append, List.mem_append] at hx
  rcases hx with (h | h) | h
  · exact bytes4_lt hl x h
  · exact bytes4_lt (crcN_lt bs) x h
  · exact hb x h
theorem logL_lt {rs : List (List Nat)} (hb : ∀ r ∈ rs, ∀ x ∈ r, x < 256) (hl : ∀ r ∈ rs, r.length ≤ 300) : ∀ x ∈ logL rs, x < 256 := by
  intro x hx
  unfold logL at hx
  rw [List.mem_flatten] at hx
  obtain ⟨l, h1, h2⟩ := hx
  obtain ⟨r, h3, rfl⟩ := List.mem_map.1 h1
  exact frameL_lt (hb r h3) (by have := hl r h3; omega) x h2
theorem logL_len {rs : List (List Nat)} (hl : ∀ r ∈ rs, r.length ≤ 300) : (logL rs).length ≤ 308 * rs.length := by
  induction rs with
  | nil => simp [logL]
  | cons r rs ih =>
    have h1 := ih (fun x hx => hl x (by simp [hx]))
    have h2 := hl r (by simp)
    have e : logL (r :: rs) = frameL r ++ logL rs := by simp [logL]
    rw [e, List.length_append, frameL_len, List.length_cons]
    omega

set_option maxHeartbeats 400000 in
theorem log3 (A : Option Addr) (n c : Nat) (rs : List (List Nat)) (w : World) (hz : Rws w A n rs) (hn : n ≤ 10) (hl3 : ∀ r ∈ rs, r.length ≤ 300) (hb : ∀ r ∈ rs, ∀ x ∈ r, x < 256) :
    Calls Try.prog 23 #[.slice A n c] w fun e w' => ∃ A' c', e = .returned (.slice A' (logL rs).length c') ∧ Own w' w.heap.size 5 1 A' (logL rs).length c' (bvals (logL rs)) ∧ Ext w w' := by
  have hl := Lib.hid hz.len
  go_enter Try.func23, Try.ntmps23
  go_wp2_with fail
  go_loopw [3, 4] (fun s i wr => ∃ (k : Nat) (A' : Option Addr) (m c' : Nat) (bs : List Nat), k ≤ n ∧ i = .int .i64 k ∧ s = .slice A' m c' ∧ m ≤ 308 * k ∧ Own wr w.heap.size 5 1 A' m c' (bvals bs) ∧ Hid (bs = logL (rs.take k)) ∧ Ext w wr) (fun _ i _ => n - (intOf i).toNat)
  case atStart => exact ⟨0, none, 0, 0, [], by omega, rfl, rfl, by omega, Own.nil _ _ _ _ _, Lib.hid rfl, Ext.refl _⟩
  case round =>
    obtain ⟨k, A', m, c', bs, hk, rfl, rfl, hm, hor, Hbs, her⟩ := hrel
    by_cases hkn : k < n
    · obtain ⟨b, o, A1, n1, c1, rfl, hb1, hc, h1, h2, h3⟩ := (hz.ext her).at_ k hkn
      have hmem : rs.getD k [] ∈ rs := by
        have : k < rs.length := by rw [hl.out]; exact hkn
        simp [this]
      have hrl : n1 ≤ 300 := by have := hl3 _ hmem; rw [h3.len] at this; exact this
      have hrb := hb _ hmem
      have hsn := Lib.hid (logL_snoc rs k (by rw [hl.out]; exact hkn))
      have hln := Lib.hid h3.len
      have hk10 : (k : Int) < 10 := by omega
      go_wp2_with fail
      refine (rframe_any A1 n1 c1 _ _ h3 h1 hrb (by omega)).mono ?_
      rintro e w1 ⟨A2, c2, rfl, hg2, hx1⟩
      have m1 : m + (n1 + 8) ≤ maxLen := by unfold maxLen; omega
      have m2 : (m + (n1 + 8)) * 1 ≤ 140737488355328 := by omega
      have ho1 := hor.ext hx1
      go_wp2_with (at_builtin; refine wpList_append_Own rfl _ _ _ rfl w.heap.size byte_elem rfl ho1 rfl hg2.bytes.rs (bvals_one _) m1 m2 (her.trans hx1).le ?_)
      intro A9 c9 w9 ho9 hg9
      have he9 : Ext w w9 := (her.trans hx1).grown hg9 (fun k h => (ho1.row k h).1)
      clear ho1
      go_wp2_with fail
      go_round
      case rel =>
        refine ⟨k + 1, A9, m + (n1 + 8), c9, _, by omega, by go_num, rfl, by omega, ?_, Lib.hid rfl, he9⟩
        rw [hsn.out, bvals_append, ← Hbs.out]
        unfold frameL
        rw [hln.out]
        exact ho9
      case measure => simp [intOf]; omega
    · have : k = n := by omega
      subst this
      have Hbs2 := Hbs.out
      rw [List.take_of_length_le (by rw [hl.out]; omega)] at Hbs2
      have hml : bs.length = m := by have := hor.1; simpa [bvals] using this
      have Hml := Lib.hid hml
      have Hbs3 := Lib.hid Hbs2
      clear hml Hbs2 Hbs
      go_wp2_with fail
      go_ret
      refine ⟨A', c', by rw [← Hbs3.out, Hml.out]; rfl, by rw [← Hbs3.out, Hml.out]; exact hor, her⟩

/-- What rows says of two. -/
def sameR (a b : List (List Nat)) : Bool := decide (a = b)
theorem sameR_self (a : List (List Nat)) : sameR a a = true := by simp [sameR]

set_option maxHeartbeats 400000 in
theorem rows3 (A : Option Addr) (n c : Nat) (rs : List (List Nat)) (A2 : Option Addr) (n2 c2 : Nat) (rs2 : List (List Nat)) (w : World) (hz : Rws w A n rs) (hz2 : Rws w A2 n2 rs2) (hm : n ≤ maxLen)
    (hb : ∀ r ∈ rs, ∀ x ∈ r, x < 256) (hb2 : ∀ r ∈ rs2, ∀ x ∈ r, x < 256) :
    Calls Try.prog 27 #[.slice A n c, .slice A2 n2 c2] w fun e w' => e = .returned (.bool (sameR rs rs2)) ∧ Ext w w' := by
  unfold maxLen at hm
  have hl := Lib.hid hz.len
  have hl2 := Lib.hid hz2.len
  by_cases hne : n ≠ n2
  · have hne' : ((n : Int) != (n2 : Int)) = true := by simp; omega
    go_enter Try.func27, Try.ntmps27
    go_wp2_with fail
    go_ret
    refine ⟨ret_bool1 ?_, Ext.refl _⟩
    unfold sameR
    symm
    rw [decide_eq_false_iff_not]
    intro h
    apply hne
    rw [← hl.out, ← hl2.out, h]
  have hne : n = n2 := by omega
  subst hne
  go_enter Try.func27, Try.ntmps27
  go_wp2_with fail
  go_loopw [5] (fun i wr => ∃ k : Nat, k ≤ n ∧ i = .int .i64 k ∧ (∀ j, j < k → rs.getD j [] = rs2.getD j []) ∧ Ext w wr) (fun i _ => n - (intOf i).toNat)
  case atStart => exact ⟨0, by omega, rfl, fun j h => absurd h (by omega), Ext.refl _⟩
  case round =>
    obtain ⟨k, hk, rfl, hall, her⟩ := hrel
    have Hall := Lib.hid hall
    clear hall
    by_cases hlt : k < n
    · obtain ⟨b, o, A1, n1, c1, rfl, hbb, hc, h1, h2, h3⟩ := (hz.ext her).at_ k hlt
      obtain ⟨b', o', A1', n1', c1', rfl, hbb', hc', h1', h2', h3'⟩ := (hz2.ext her).at_ k hlt
      have s1 : ∀ nq, (convert 35 9 (.slice A1 n1 c1)).run Try.prog (wr.drewN nq) = .ok (.string (strOf (rs.getD k []))) (wr.drewN nq) := fun nq => run_string A1 n1 c1 _ _ (h3.ext ((Ext.refl wr).drewN nq))
      have s2 : ∀ nq, (convert 35 9 (.slice A1' n1' c1')).run Try.prog (wr.drewN nq) = .ok (.string (strOf (rs2.getD k []))) (wr.drewN nq) := fun nq => run_string A1' n1' c1' _ _ (h3'.ext ((Ext.refl wr).drewN nq))
      have hmem : rs.getD k [] ∈ rs := by
        have : k < rs.length := by rw [hl.out]; exact hlt
        simp [this]
      have hmem2 : rs2.getD k [] ∈ rs2 := by
        have : k < rs2.length := by rw [hl2.out]; exact hlt
        simp [this]
      have hbne := strOf_lbeq (hb _ hmem) (hb2 _ hmem2)
      have hin : ∀ (h : rs = rs2), rs.getD k [] = rs2.getD k [] := fun h => by rw [h]
      have hin2 : ∀ j, j < k + 1 → rs.getD k [] = rs2.getD k [] → rs.getD j [] = rs2.getD j [] := fun j hj h => by
        by_cases hjk : j < k
        · exact Hall.out j hjk
        · have : j = k := by omega
          subst this
          exact h
      have Hin2 := Lib.hid hin2
      clear hin2
      generalize rs.getD k [] = r1 at *
      generalize rs2.getD k [] = r2 at *
      cases hs : sameB r1 r2
      · have hbt : ((strOf r1).toList == (strOf r2).toList) = false := by rw [hbne, hs]
        clear hbne
        have Hs := Lib.hid hs
        clear hs
        go_wp2_with fail
        go_quiet (fail)
        go_wp2_with fail
        go_ret
        refine ⟨ret_bool1 ?_, her.drewN _⟩
        unfold sameR
        symm
        rw [decide_eq_false_iff_not]
        intro h
        have := Hs.out
        simp [sameB, hin h] at this
      · have hbt : ((strOf r1).toList == (strOf r2).toList) = true := by rw [hbne, hs]
        have heq : Hid (r1 = r2) := Lib.hid (by simpa [sameB] using hs)
        clear hbne hs
        go_wp2_with fail
        go_quiet (fail)
        go_wp2_with fail
        go_roundw
        case rel => exact ⟨k + 1, by omega, by go_num, fun j hj => Hin2.out j hj heq.out, her.drewN _⟩
        case measure => simp [intOf]; omega
    · have : k = n := by omega
      subst this
      go_wp2_with fail
      go_ret
      refine ⟨ret_bool1 ?_, her⟩
      unfold sameR
      symm
      rw [decide_eq_true_eq]
      refine List.ext_getElem (by rw [hl.out, hl2.out]) fun j h1 h2 => ?_
      have := Hall.out j (by rw [hl.out] at h1; exact h1)
      simpa [h1, h2] using this
end Go.Proofs.Ytbijpbkekdeilaa
