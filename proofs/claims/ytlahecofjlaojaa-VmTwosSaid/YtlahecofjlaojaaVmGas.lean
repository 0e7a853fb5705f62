/- VmGas, VmLoops, VmOnes: the plain laws, the walks. -/
import Derived.Test.YtlahecofjlaojaaVmTwins
namespace Go.Proofs.Ytlahecofjlaojaa
set_option linter.unusedVariables false
open Go.RowKit

theorem lastV_gas (m : Ms) (g : Int) : lastV (withGas m g) = lastV m := rfl
theorem gas_law {c : List Nat} {arg data : Int} (hl : c.length ≤ 58) :
    ((vrun c arg data 200).2.2 = 14 ∧ (vrun c arg data 200).2.1 = 200) ∨
    ((vrun c arg data 200).2.2 ≠ 14 ∧ 1 ≤ (vrun c arg data 200).2.1 ∧ (vrun c arg data 200).2.1 ≤ 200 ∧ vrun c arg data (vrun c arg data 200).2.1 = vrun c arg data 200 ∧
      (vrun c arg data ((vrun c arg data 200).2.1 - 1)).2.2 = 14 ∧ (vrun c arg data ((vrun c arg data 200).2.1 - 1)).2.1 = (vrun c arg data 200).2.1 - 1) := by
  have h := run_gas 200 (mk c arg data 0 [] 200) rfl rfl (by simp [mk]) (by simp [mk])
  have e0 := vrun_end (bs := c) (arg := arg) (data := data) (gas := 200) (by omega) (by omega) (by omega) _ rfl
  rw [e0]
  generalize runEnd (mk c arg data 0 [] 200) = m at *
  simp only at h ⊢
  have eg : (mk c arg data 0 [] 200).gas = 200 := rfl
  rw [eg] at h
  rcases h with ⟨h1, h2⟩ | ⟨h1, h2, h3, h4, h5, h6⟩
  · exact .inl ⟨h1, by omega⟩
  · refine .inr ⟨h1, by omega, by omega, ?_, ?_, ?_⟩
    · rw [vrun_end (bs := c) (arg := arg) (data := data) (gas := 200 - m.gas) (by omega) (by omega) (by omega) _ h4, lastV_gas]
      show (lastV m, 200 - m.gas - 0, m.err) = _
      rw [Int.sub_zero]
    · rw [vrun_end (bs := c) (arg := arg) (data := data) (gas := 200 - m.gas - 1) (by omega) (by omega) (by omega) _ rfl]
      exact h5
    · rw [vrun_end (bs := c) (arg := arg) (data := data) (gas := 200 - m.gas - 1) (by omega) (by omega) (by omega) _ rfl]
      show 200 - m.gas - 1 - (runEnd (withGas (mk c arg data 0 [] 200) (200 - m.gas - 1))).gas = _
      rw [h6, Int.sub_zero]

set_option maxRecDepth 100000 in
set_option maxHeartbeats 1000000 in
theorem gas_walk (A : Option Addr) (n c : Nat) (zs : List Int) (arg data : Int) (w : World)
    (hz : Nums .i64 w A n zs) (hc : n ≤ c) (hm : c ≤ maxLen) (hw : ∀ x ∈ zs, I64 x) (ha : I64 arg) (hd : I64 data) :
    Calls Try.prog 11 #[.slice A n c, .int .i64 arg, .int .i64 data] w fun e w' => e = .returned (.bool true) ∧ Ext w w' := by
  have hok := codeV_ok zs
  generalize hca : codeV [] zs = ca at *
  have Hca := Lib.hid hca
  clear hca
  have hg := gas_law (arg := arg) (data := data) hok.1
  obtain ⟨r, hr⟩ : ∃ r, r = vrun ca arg data 200 := ⟨_, rfl⟩
  rw [← hr] at hg
  have Hr := Lib.hid hr
  clear hr
  obtain ⟨r1, n1, e1⟩ := r
  simp only at hg
  go_enter Try.func11, Try.ntmps11
  go_wp2_with fail
  refine (known6 w).mono ?_
  rintro e w1 ⟨rfl, hx1⟩
  go_wp2_with fail
  refine (code6 A n c zs w1 (hz.ext hx1) hc hm hw).mono ?_
  rw [Hca.out]
  rintro e w2 ⟨A2, n2, c2, rfl, hg2, hx2⟩
  go_wp2_with fail
  have h3 := run_gb hg2 (Ext.refl w2) hok.2 arg data 200 ha hd
  have hA := fun (w' : World) (he : Ext w2 w') => run_gb (hg2.ext he) he hok.2 arg data n1 ha hd
  obtain ⟨y, hy⟩ : ∃ y, y = vrun ca arg data (n1 - 1) := ⟨_, rfl⟩
  have hC := fun (w' : World) (he : Ext w2 w') => run_gb (hg2.ext he) he hok.2 arg data (n1 - 1) ha hd
  rw [← hy] at hC hg
  rw [← Hr.out] at h3
  have Hy := Lib.hid hy
  clear hy
  refine h3.mono ?_
  rintro e w3 ⟨rfl, hx3⟩
  have hx12 := hx1.trans hx2
  clear h3 hz hg2 hx1 hx2
  rcases hg with ⟨h1, h2⟩ | ⟨h1, h2, h3, h4, h5, h6⟩
  · subst h1
    subst h2
    go_wp2_with fail
    go_ret
    exact ⟨rfl, hx12.trans hx3⟩
  · have e14 : (e1 == 14) = false := by simp [h1]
    have n1' : decide (n1 < 1) = false := by simp; omega
    rw [h4] at hA
    obtain ⟨y1, y2, y3⟩ := y
    simp only at h5 h6 hA hC
    subst h5
    subst h6
    have Hy2 := Hy
    clear Hy h1 h4
    go_wp2_with fail
    refine (hA w3 hx3).mono ?_
    rintro e w4 ⟨rfl, hx4⟩
    go_wp2_with fail
    refine (hC w4 hx4).mono ?_
    rintro e w5 ⟨rfl, hx5⟩
    clear hA hC
    go_wp2_with fail
    go_ret
    exact ⟨rfl, hx12.trans hx5⟩

/-! ### VmLoops -/
theorem lit_own (w : World) (B : Nat) (cs : Array Value) (l : List Nat) (hB : B ≤ w.heap.size) (h : cs.toList = bvals l) (hl : l.length ≤ 1000) : Own (w.alloc (.cells cs 5)) B 5 1 (some ⟨w.heap.size, 0, none⟩) l.length l.length (bvals l) := by
  have e : cs.size = l.length := by rw [← Array.length_toList, h]; simp [bvals]
  refine Own.lit w cs hB (Nat.le_refl _) (by unfold maxLen; omega) (by omega) ?_
  rw [h, List.take_of_length_le (by simp [bvals])]
theorem lit_rs (w : World) (cs : Array Value) (l : List Nat) (h : cs.toList = bvals l) : RS (w.alloc (.cells cs 5)) 1 (some ⟨w.heap.size, 0, none⟩) l.length (bvals l) := by
  have := box_rs w 5 1 (bvals l) l.length (by simp [bvals])
  rw [← h, Array.toArray_toList] at this
  rw [← h]
  exact this
theorem used_law {c : List Nat} {arg data g : Int} (hl : c.length ≤ 58) (hb : ∀ x ∈ c, x < 256) (ha : I64 arg) (hd : I64 data) (h0 : 0 ≤ g) (h1 : g ≤ 200) : 0 ≤ (vrun c arg data g).2.1 ∧ (vrun c arg data g).2.1 ≤ g := by
  have hf := start_fit (bs := c) (arg := arg) (data := data) (gas := g) hb ha hd (by omega) ⟨h0, h1⟩
  obtain ⟨k1, k2, k3, k4⟩ := runEnd_fit g.toNat hf (Nat.le_refl _)
  rw [vrun_end (by omega) h0 h1 _ rfl]
  have e : (startV c arg data g).gas = g := rfl
  rw [e] at k4
  have := k1.gas
  rw [start_mk] at k4 this
  simp only
  omega
theorem do_jz {c : List Nat} {a d : Int} {k : Nat} {s : List Int} {g x : Int} (hk : k < c.length) (hs : s.length ≤ 16) : doV (mk c a d k (s ++ [x]) g) 13 = if x = 0 then (if c.length < c.getD k 0 then (10, mk c a d k (s ++ [x]) g) else (0, mk c a d (c.getD k 0) s g)) else (0, mk c a d (k + 1) s g) := by
  have h := jump_yes (mk c a d k (s ++ [x]) g) (by simp only [mk]; omega) (by simp [mk]) (by simp [mk]; omega)
  rw [h]
  have e1 : (mk c a d k (s ++ [x]) g).stack.getD ((mk c a d k (s ++ [x]) g).stack.length - 1) 0 = x := by simp [mk]
  have e2 : (mk c a d k (s ++ [x]) g).stack.take ((mk c a d k (s ++ [x]) g).stack.length - 1) = s := by simp [mk]
  rw [e1, e2]
  rfl
/-- What an append of two literal slices laid. -/
theorem app_bytes (W : World) (b : Nat) (hb : b = W.heap.size) (cs1 cs2 Z : Array Value) (l : List Nat) (h : cs1.toList ++ cs2.toList = bvals l) {n : Nat} (hn : l.length = n) : Bytes (W.alloc (.cells (cs1 ++ (cs2 ++ Z)) 5)).drew (some ⟨b, 0, none⟩) n l := by
  subst hb
  subst hn
  refine Bytes.ext (.of ⟨by simp [bvals], ?_⟩ rfl) (Ext.refl _).drew
  by_cases h0 : l.length = 0
  · exact .inl h0
  · refine .inr ⟨W.heap.size, 0, rfl, by simp, fun j u hu => ?_⟩
    rw [Nat.zero_add]
    refine box_cell W _ _ j u ?_
    rw [← h] at hu
    have hj : j < cs1.size + cs2.size := by
      have := (List.getElem?_eq_some_iff.1 hu).1
      simpa using this
    rw [← Array.append_assoc, Array.getElem?_append_left (by simpa using hj), ← Array.getElem?_toList, Array.toList_append]
    exact hu
def ringC : List Nat := [1, 0, 0, 0, 0, 0, 0, 0, 0, 13, 0]
theorem ring_end (a d : Int) : ∀ (k : Nat) (g : Int), g.toNat ≤ k → 0 ≤ g → (runEnd (mk ringC a d 0 [] g)).gas = 0 ∧ (runEnd (mk ringC a d 0 [] g)).err = 14
  | k, g, hk, h0 => by
    by_cases h1 : g < 1
    · rw [run_out h1]
      exact ⟨by show g = 0; omega, rfl⟩
    · have e1 : runEnd (mk ringC a d 0 [] g) = runEnd (mk ringC a d 9 [0] (g - 1)) := by
        rw [run_do (by omega) (by decide) rfl (by decide) _ (do_push (by decide) (by decide))]
        have hn8 : num8 (List.take 8 (List.drop (0 + 1) ringC)) = 0 := by decide +kernel
        rw [hn8]
        rfl
      rw [e1]
      by_cases h2 : g - 1 < 1
      · rw [run_out h2]
        exact ⟨by show g - 1 = 0; omega, rfl⟩
      · have e2 : runEnd (mk ringC a d 9 ([] ++ [0]) (g - 1)) = runEnd (mk ringC a d 0 [] (g - 1 - 1)) := by
          refine run_do (by omega) (by decide) (op := 13) rfl (by decide) _ ?_
          rw [do_jz (by decide) (by decide), if_pos rfl, if_neg (by decide)]
          rfl
        rw [show ([0] : List Int) = [] ++ [0] from rfl, e2]
        match k with
        | 0 => omega
        | k + 1 => exact ring_end a d k (g - 1 - 1) (by omega) (by omega)
theorem ring_law (a : Int) {g : Int} (h0 : 0 ≤ g) (h1 : g ≤ 200) : ∃ x, vrun ringC a 0 g = (x, g, 14) := by
  obtain ⟨k1, k2⟩ := ring_end a 0 g.toNat g (Nat.le_refl _) h0
  rw [vrun_end (by decide) h0 h1 _ rfl, k1, k2, Int.sub_zero]
  exact ⟨_, rfl⟩
set_option maxRecDepth 100000 in
set_option maxHeartbeats 1000000 in
theorem loops_walk (A : Option Addr) (n c : Nat) (zs : List Int) (gas arg : Int) (w : World)
    (hz : Nums .i64 w A n zs) (hc : n ≤ c) (hm : c ≤ maxLen) (hw : ∀ x ∈ zs, I64 x) (hg : I64 gas) (ha : I64 arg) :
    Calls Try.prog 6 #[.slice A n c, .int .i64 gas, .int .i64 arg] w fun e w' => e = .returned (.bool true) ∧ Ext w w' := by
  have hok := codeV_ok zs
  generalize hca : codeV [] zs = ca at *
  have Hca := Lib.hid hca
  clear hca
  have hwi := fun w => within6 gas 201 (by omega) (by omega) w
  obtain ⟨g1, g2⟩ : 0 ≤ gas % 201 ∧ gas % 201 ≤ 200 := by omega
  generalize gas % 201 = g at *
  have hu := used_law (arg := arg) (data := 0) hok.1 hok.2 ha (by unfold I64; omega) g1 g2
  obtain ⟨r, hr⟩ : ∃ r, r = vrun ca arg 0 g := ⟨_, rfl⟩
  rw [← hr] at hu
  have Hr := Lib.hid hr
  clear hr
  obtain ⟨r1, r2, r3⟩ := r
  obtain ⟨u1, u2⟩ := hu
  simp only at u1 u2
  obtain ⟨x, hx⟩ := ring_law arg g1 g2
  go_enter Try.func6, Try.ntmps6
  go_wp2_with fail
  refine (known6 w).mono ?_
  rintro e w1 ⟨rfl, hx1⟩
  go_wp2_with fail
  refine (hwi _).mono ?_
  rintro e w1' ⟨rfl, rfl⟩
  go_wp2_with fail
  refine (code6 A n c zs w1' (hz.ext hx1) hc hm hw).mono ?_
  rw [Hca.out]
  rintro e w2 ⟨A2, n2, c2, rfl, hg2, hx2⟩
  go_wp2_with fail
  have h3 := run_gb hg2 (hx1.trans hx2) hok.2 arg 0 g ha (by unfold I64; omega)
  rw [← Hr.out] at h3
  refine h3.mono ?_
  rintro e w3 ⟨rfl, hx3⟩
  clear h3 hz hg2 hx1 hx2
  have Hx := Lib.hid hx
  clear hx
  have h5 := fun (W : World) (hW : w3.heap.size + 1 + 1 = W.heap.size) (hx : Ext w3 W) (cs1 cs2 Z : Array Value) (h : cs1.toList ++ cs2.toList = bvals ringC) (c : Nat) => vrun_any (some ⟨w3.heap.size + 1 + 1, 0, none⟩) 11 c ringC arg 0 g _ (app_bytes W _ hW cs1 cs2 Z ringC h rfl) (by decide) ha (by unfold I64; omega)
  rw [Hx.out] at h5
  have H5 := Lib.hid h5
  clear h5
  go_wp2_with fail
  refine (H5.out _ (by simp) (((Ext.refl w3).alloc _).alloc _) _ _ _ (by rfl) _).mono ?_
  rintro e w5 ⟨rfl, hx5⟩
  have hx6 : Ext w w5 := hx3.trans (((((Ext.refl w3).alloc _).alloc _).alloc _).drew.trans hx5)
  clear H5 hx5
  go_wp2_with fail
  go_ret
  exact ⟨rfl, hx6⟩
end Go.Proofs.Ytlahecofjlaojaa
