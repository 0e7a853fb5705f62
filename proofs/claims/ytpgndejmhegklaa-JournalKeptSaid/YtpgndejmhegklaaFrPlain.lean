/- Plain laws of frames: fronts, more behind, a byte turned. -/
import Derived.Test.YtpgndejmhegklaaLogLaw
namespace Go.Proofs.Ytpgndejmhegklaa
set_option linter.unusedVariables false

theorem frameL_num4 (bs r : List Nat) (h : bs.length ≤ 4194304) : num4 (frameL bs ++ r) = bs.length := by
  unfold frameL; rw [List.append_assoc, List.append_assoc]; exact num4_bytes4 _ _ (by omega)
theorem frameL_drop8 (bs r : List Nat) : (frameL bs ++ r).drop 8 = bs ++ r := by simp [frameL, bytes4]
theorem frameL_drop4 (bs r : List Nat) : (frameL bs ++ r).drop 4 = bytes4 (crcN bs) ++ (bs ++ r) := by simp [frameL, bytes4]
theorem frameL_crc (bs r : List Nat) : num4 ((frameL bs ++ r).drop 4) = crcN bs := by rw [frameL_drop4]; exact num4_bytes4 _ _ (crcN_lt bs)
theorem frameL_of {bs : List Nat} {n : Nat} (h : bs.length = n) : bytes4 n ++ bytes4 (crcN bs) ++ bs = frameL bs := by subst h; rfl

theorem one_front (bs : List Nat) (k : Nat) (h : bs.length ≤ 4194304) (hk : k < bs.length + 8) : oneE ((frameL bs).take k) = 8 := by
  have hl : ((frameL bs).take k).length = k := by rw [List.length_take, frameL_len]; omega
  unfold oneE
  rw [hl]
  by_cases h8 : k < 8
  · rw [if_pos h8]
  · rw [if_neg h8]
    have h1 : num4 ((frameL bs).take k) = bs.length := by
      rw [num4_take _ _ (by omega)]
      have := frameL_num4 bs [] h
      rwa [List.append_nil] at this
    rw [h1, if_neg (by omega), if_pos (by omega)]
theorem one_more (bs r : List Nat) (h : bs.length ≤ 4194304) : oneE (frameL bs ++ r) = if r.length = 0 then 0 else 9 := by
  have hl : (frameL bs ++ r).length = bs.length + 8 + r.length := by rw [List.length_append, frameL_len]
  unfold oneE
  rw [hl, frameL_num4 bs r h, if_neg (by omega), if_neg (by omega), if_neg (by omega)]
  by_cases hr : r.length = 0
  · rw [if_neg (by omega), if_pos hr]
    have : r = [] := List.eq_nil_of_length_eq_zero hr
    subst this
    rw [frameL_crc, frameL_drop8, List.append_nil, if_neg (by simp)]
  · rw [if_pos (by omega), if_neg hr]
theorem one_frame (bs : List Nat) (h : bs.length ≤ 4194304) : oneE (frameL bs) = 0 ∧ oneB (frameL bs) = bs := by
  have h0 : oneE (frameL bs) = 0 := by
    have := one_more bs [] h
    rw [List.append_nil] at this
    simpa using this
  refine ⟨h0, ?_⟩
  unfold oneB
  rw [h0, if_pos rfl]
  have := frameL_drop8 bs []
  simpa using this
theorem num4_set3 (bs : List Nat) (v : Nat) (hl : 4 ≤ bs.length) (hv : 1 ≤ v) : 16777216 ≤ num4 (bs.set 3 v) := by
  unfold num4
  have : (bs.set 3 v).getD 3 0 = v := by rw [List.getD_eq_getElem?_getD, List.getElem?_set_self (by omega)]; rfl
  rw [this]
  omega
theorem one_long (bs : List Nat) (v : Nat) (hl : 8 ≤ bs.length) (hv : 1 ≤ v) : oneE (bs.set 3 v) = 5 := by
  unfold oneE
  have := num4_set3 bs v (by omega) hv
  rw [List.length_set, if_neg (by omega), if_pos (by omega)]
theorem scan_long (bs : List Nat) (v : Nat) (hl : 8 ≤ bs.length) (hv : 1 ≤ v) : scanL (bs.set 3 v) = ([], 0) := by
  apply scanL_stop
  have := num4_set3 bs v (by omega) hv
  exact step_no2 (by omega)
theorem step_front (bs : List Nat) (k : Nat) (h : bs.length ≤ 4194304) (hk : k < bs.length + 8) : stepOk ((frameL bs).take k) = false := by
  have hl : ((frameL bs).take k).length = k := by rw [List.length_take, frameL_len]; omega
  by_cases h8 : k < 8
  · exact step_no1 (by omega)
  · have h1 : num4 ((frameL bs).take k) = bs.length := by
      rw [num4_take _ _ (by omega)]
      have := frameL_num4 bs [] h
      rwa [List.append_nil] at this
    exact step_no3 (by omega)
theorem scan_nil : scanL [] = ([], 0) := scanL_stop (step_no1 (by simp))
theorem scan_torn (l : List (List Nat)) (m : List Nat) (k : Nat) (h : ∀ bs ∈ l, bs.length ≤ 4194304) (hm : m.length ≤ 4194304) (hk : k < m.length + 8) : scanL (logL l ++ (frameL m).take k) = (l, (logL l).length) := by
  unfold logL
  rw [scan_log l _ h, scanL_stop (step_front m k hm hk)]
  simp
theorem scan_whole (l : List (List Nat)) (m : List Nat) (h : ∀ bs ∈ l, bs.length ≤ 4194304) (hm : m.length ≤ 4194304) : scanL (logL l ++ frameL m) = (l ++ [m], (logL l).length + (m.length + 8)) := by
  have := scan_log (l ++ [m]) [] (by intro b hb; rcases List.mem_append.1 hb with h1 | h1; exact h b h1; rw [List.mem_singleton.1 h1]; exact hm)
  rw [List.append_nil, scan_nil, List.map_append, List.flatten_append] at this
  simp only [List.map_cons, List.map_nil, List.flatten_cons, List.flatten_nil, List.append_nil, List.length_append, Nat.add_zero, frameL_len] at this
  exact this
theorem scan_all (l : List (List Nat)) (h : ∀ bs ∈ l, bs.length ≤ 4194304) : scanL (logL l) = (l, (logL l).length) := by
  have := scan_log l [] h
  rw [List.append_nil, scan_nil] at this
  simpa [logL] using this

/-- A byte turned behind the length of a frame. -/
theorem turned (bs r : List Nat) (j v : Nat) (hb : ∀ x ∈ bs, x < 256) (hl : bs.length ≤ 4194304) (h4 : 4 ≤ j) (hj : j < bs.length + 8) (hv : v < 256) (hne : v ≠ (frameL bs).getD j 0) :
    stepOk ((frameL bs).set j v ++ r) = false ∧ oneE ((frameL bs).set j v) = 10 := by
  have key : ∀ r, crcN ((((frameL bs).set j v ++ r).drop 8).take bs.length) ≠ num4 (((frameL bs).set j v ++ r).drop 4) := by
    intro r
    by_cases h8 : j < 8
    · have hd : ((frameL bs).set j v ++ r).drop 8 = bs ++ r := by
        have : ((frameL bs).set j v).drop 8 = bs := by
          rw [List.drop_set_of_lt h8]
          have := frameL_drop8 bs []
          simpa using this
        rw [List.drop_append_of_le_length (by rw [List.length_set, frameL_len]; omega), this]
      rw [hd, List.take_left]
      have h3 : j = 4 ∨ j = 5 ∨ j = 6 ∨ j = 7 := by omega
      have hcl := crcN_lt bs
      have e : num4 (((frameL bs).set j v ++ r).drop 4) = num4 ((bytes4 (crcN bs)).set (j - 4) v) := by
        rcases h3 with rfl | rfl | rfl | rfl <;> simp [frameL, bytes4, num4]
      rw [e]
      intro hc
      apply hne
      rcases h3 with rfl | rfl | rfl | rfl <;> simp [frameL, bytes4, num4] at hc ⊢ <;> omega
    · have hd : ((frameL bs).set j v ++ r).drop 8 = bs.set (j - 8) v ++ r := by
        rw [List.drop_append_of_le_length (by rw [List.length_set, frameL_len]; omega), List.drop_set, if_neg (by omega)]
        have h7 : (frameL bs).drop 8 = bs := by have := frameL_drop8 bs []; simpa using this
        rw [h7]
      have h4' : num4 (((frameL bs).set j v ++ r).drop 4) = crcN bs := by
        have h5 : ((frameL bs).set j v ++ r).drop 4 = bytes4 (crcN bs) ++ (bs.set (j - 8) v ++ r) := by
          rw [List.drop_append_of_le_length (by rw [List.length_set, frameL_len]; omega), List.drop_set, if_neg (by omega)]
          have h6 : (frameL bs).drop 4 = bytes4 (crcN bs) ++ bs := by have := frameL_drop4 bs []; simpa using this
          rw [h6, List.set_append, if_neg (by simp [bytes4]; omega)]
          have : j - 4 - (bytes4 (crcN bs)).length = j - 8 := by simp [bytes4]; omega
          rw [this, List.append_assoc]
        rw [h5]
        exact num4_bytes4 _ _ (crcN_lt bs)
      have hjl : j - 8 < bs.length := by omega
      have htk : (bs.set (j - 8) v ++ r).take bs.length = bs.set (j - 8) v := by
        rw [List.take_append_of_le_length (by simp), List.take_of_length_le (by simp)]
      rw [hd, h4', htk]
      have e1 : bs = bs.take (j - 8) ++ bs[j - 8] :: bs.drop (j - 8 + 1) := by
        rw [List.getElem_cons_drop]; exact (List.take_append_drop _ _).symm
      have e2 : bs.set (j - 8) v = bs.take (j - 8) ++ v :: bs.drop (j - 8 + 1) := by rw [List.set_eq_take_append_cons_drop, if_pos hjl]
      have hx : bs[j - 8] = (frameL bs).getD j 0 := by
        have h7 : (frameL bs).drop 8 = bs := by have := frameL_drop8 bs []; simpa using this
        have : (frameL bs)[j]? = bs[j - 8]? := by
          conv => rhs; rw [← h7, List.getElem?_drop]
          congr 1
          omega
        rw [List.getD_eq_getElem?_getD, this]
        simp [hjl]
      rw [e2]
      conv => rhs; rw [e1]
      exact crcN_one _ _ _ _ (fun z hz => hb z (List.mem_of_mem_take hz)) hv (hb _ (List.getElem_mem hjl)) (fun z hz => hb z (List.mem_of_mem_drop hz)) (by rw [hx]; exact hne)
  have hn : ∀ r, num4 ((frameL bs).set j v ++ r) = bs.length := by
    intro r
    have : num4 ((frameL bs).set j v ++ r) = num4 (frameL bs ++ r) := by
      unfold num4
      have e : ∀ i, i < 4 → ((frameL bs).set j v ++ r).getD i 0 = (frameL bs ++ r).getD i 0 := by
        intro i hi
        have h1 : i < (frameL bs).length := by rw [frameL_len]; omega
        rw [List.getD_eq_getElem?_getD, List.getD_eq_getElem?_getD, List.getElem?_append_left (by simpa using h1), List.getElem?_append_left h1, List.getElem?_set_ne (by omega)]
      rw [e 0 (by omega), e 1 (by omega), e 2 (by omega), e 3 (by omega)]
    rw [this, frameL_num4 bs r hl]
  have hlen : ∀ r : List Nat, ((frameL bs).set j v ++ r).length = bs.length + 8 + r.length := by intro r; rw [List.length_append, List.length_set, frameL_len]
  refine ⟨step_no4 (by rw [hn]; exact key r), ?_⟩
  have hn0 := hn []
  have hl0 := hlen []
  have hk0 := key []
  rw [List.append_nil] at hn0 hl0 hk0
  unfold oneE
  rw [hl0, hn0, if_neg (by omega), if_neg (by omega), if_neg (by simp), if_neg (by simp)]
  rw [List.take_of_length_le (by rw [List.length_drop, hl0]; simp)] at hk0
  rw [if_pos hk0]
theorem logL_split (l : List (List Nat)) (i : Nat) (h : i < l.length) : logL l = logL (l.take i) ++ (frameL (l.getD i []) ++ logL (l.drop (i + 1))) := by
  conv => lhs; rw [← List.take_append_drop i l]
  have e : l.drop i = l.getD i [] :: l.drop (i + 1) := by
    rw [show l.getD i [] = l[i] from by simp [h], List.getElem_cons_drop]
  rw [e]
  unfold logL
  rw [List.map_append, List.flatten_append, List.map_cons, List.flatten_cons]
theorem scan_turned (l : List (List Nat)) (i j v : Nat) (h : i < l.length) (hl : ∀ bs ∈ l, bs.length ≤ 4194304) (hb : ∀ bs ∈ l, ∀ x ∈ bs, x < 256) (h4 : 4 ≤ j) (hj : j < (l.getD i []).length + 8) (hv : v < 256)
    (hne : v ≠ (logL l).getD ((logL (l.take i)).length + j) 0) :
    scanL ((logL l).set ((logL (l.take i)).length + j) v) = (l.take i, (logL (l.take i)).length) ∧
    oneE ((((logL l).set ((logL (l.take i)).length + j) v).drop (logL (l.take i)).length).take ((l.getD i []).length + 8)) = 10 := by
  have hmem : l.getD i [] ∈ l := by simp [h]
  have hs := logL_split l i h
  have hfl := frameL_len (l.getD i [])
  have hne' : v ≠ (frameL (l.getD i [])).getD j 0 := by
    intro h2
    apply hne
    rw [h2, hs]
    generalize frameL (l.getD i []) = F at *
    rw [List.getD_eq_getElem?_getD, List.getD_eq_getElem?_getD, List.getElem?_append_right (by omega), Nat.add_sub_cancel_left, List.getElem?_append_left (by omega)]
  have hset : (logL l).set ((logL (l.take i)).length + j) v = logL (l.take i) ++ ((frameL (l.getD i [])).set j v ++ logL (l.drop (i + 1))) := by
    rw [hs, List.set_append, if_neg (by omega), Nat.add_sub_cancel_left, List.set_append, if_pos (by omega)]
  obtain ⟨t1, t2⟩ := turned (l.getD i []) (logL (l.drop (i + 1))) j v (hb _ hmem) (hl _ hmem) h4 hj hv hne'
  rw [hset]
  refine ⟨?_, ?_⟩
  · have := scan_log (l.take i) ((frameL (l.getD i [])).set j v ++ logL (l.drop (i + 1))) (fun b h => hl b (List.mem_of_mem_take h))
    rw [scanL_stop t1] at this
    simpa [logL] using this
  · rw [List.drop_left, List.take_append_of_le_length (by rw [List.length_set]; omega), List.take_of_length_le (by rw [List.length_set]; omega)]
    exact t2
theorem logL_take_len (l : List (List Nat)) (i : Nat) (h : i < l.length) : (logL (l.take (i + 1))).length = (logL (l.take i)).length + ((l.getD i []).length + 8) := by
  rw [logL_snoc l i h, List.length_append, frameL_len]
end Go.Proofs.Ytpgndejmhegklaa
