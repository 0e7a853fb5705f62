/- The document's Step: signs that are done (14, 15). -/
import Derived.Test.YtlahecofjlaojaaRf5l
namespace Go.Proofs.Ytlahecofjlaojaa
set_option linter.unusedVariables false
open Go.RowKit

set_option maxRecDepth 100000 in
set_option maxHeartbeats 16000000 in
theorem rstep_sb (m : Ms) (Ac : Option Addr) (nc cc : Nat) (As : Option Addr) (ns cs : Nat) (w : World) (hc : Bytes w Ac nc m.code) (hs : Nums .i64 w As ns m.stack) (hf : m.Fit) (hd : m.done = false) (herr : m.err = 0) (hg : 1 ≤ m.gas) (hat : m.at_ < m.code.length) (hop : m.code.getD m.at_ 0 ≠ 0 ∧ (m.code.getD m.at_ 0 = 14 ∨ m.code.getD m.at_ 0 = 15)) (hst : needsV (m.code.getD m.at_ 0) ≤ m.stack.length ∧ m.stack.length + putsV (m.code.getD m.at_ 0) ≤ 16 + needsV (m.code.getD m.at_ 0)) :
    Calls Try.prog 20 #[.agg (m.cells Ac nc cc As ns cs)] w fun e w' => Gives w (stepV m) e w' := by
  have hlc := hc.len
  have hls := hs.1
  have hcl := hf.ok.len
  have hdp := hf.deep
  have hatl := hf.at_
  have hgas := hf.gas
  obtain ⟨y, hy⟩ : ∃ y, y = stepV m := ⟨_, rfl⟩
  rw [← hy]
  rw [stepY hd hg hat hop.1] at hy
  have Hcode := Lib.hid hf.ok.code
  have Hstk := Lib.hid hf.ok.stack
  have Hy := Lib.hid hy
  have Hop := Lib.hid hop
  have Hst := Lib.hid hst
  clear hop hy hf hst
  obtain ⟨code, arg, data, at_, stack, gas, done, err⟩ := m
  simp only at *
  subst hd
  subst herr
  have Hlc := Lib.hid hlc
  have Hls := Lib.hid hls
  have hns16 : ns ≤ 16 := by omega
  clear hls
  unfold Ms.cells
  simp only
  go_enter Try.func20, Try.ntmps20
  go_upto_region 1 with fail
  have hx0 : Ext w ((w.alloc (.cells #[.slice Ac nc cc, .int .i64 arg, .int .i64 data, .int .i64 (at_ : Int), .slice As ns cs, .int .i64 gas, .bool false, .int .i64 0] 37)).alloc (.cells #[.slice none 0 0, .int .i64 0, .int .i64 0, .int .i64 0, .slice none 0 0, .int .i64 0, .bool false, .int .i64 0] 37)) := ((Ext.refl w).alloc _).alloc _
  have hB1 := (Blk.new w 37 #[.slice Ac nc cc, .int .i64 arg, .int .i64 data, .int .i64 (at_ : Int), .slice As ns cs, .int .i64 gas, .bool false, .int .i64 0]).ext ((Ext.refl _).alloc (.cells #[.slice none 0 0, .int .i64 0, .int .i64 0, .int .i64 0, .slice none 0 0, .int .i64 0, .bool false, .int .i64 0] 37))
  have hB2 : Blk ((w.alloc (.cells #[.slice Ac nc cc, .int .i64 arg, .int .i64 data, .int .i64 (at_ : Int), .slice As ns cs, .int .i64 gas, .bool false, .int .i64 0] 37)).alloc (.cells #[.slice none 0 0, .int .i64 0, .int .i64 0, .int .i64 0, .slice none 0 0, .int .i64 0, .bool false, .int .i64 0] 37)) (w.heap.size + 1) 37 #[.slice none 0 0, .int .i64 0, .int .i64 0, .int .i64 0, .slice none 0 0, .int .i64 0, .bool false, .int .i64 0] := by
    have := Blk.new (w.alloc (.cells #[.slice Ac nc cc, .int .i64 arg, .int .i64 data, .int .i64 (at_ : Int), .slice As ns cs, .int .i64 gas, .bool false, .int .i64 0] 37)) 37 #[.slice none 0 0, .int .i64 0, .int .i64 0, .int .i64 0, .slice none 0 0, .int .i64 0, .bool false, .int .i64 0]
    simpa using this
  generalize (w.alloc (.cells #[.slice Ac nc cc, .int .i64 arg, .int .i64 data, .int .i64 (at_ : Int), .slice As ns cs, .int .i64 gas, .bool false, .int .i64 0] 37)).alloc (.cells #[.slice none 0 0, .int .i64 0, .int .i64 0, .int .i64 0, .slice none 0 0, .int .i64 0, .bool false, .int .i64 0] 37) = w1 at *
  have k0 : ∀ w', Ext w1 w' → w'.cell? ⟨w.heap.size, 0, none⟩ = some (.slice Ac nc cc) := fun w' h => (hB1.ext h).cell 0
  have k4 : ∀ w', Ext w1 w' → w'.cell? ⟨w.heap.size, 4, none⟩ = some (.slice As ns cs) := fun w' h => (hB1.ext h).cell 4
  have m1 : nc ≤ maxLen := by unfold maxLen; omega
  have m2 : nc * 1 ≤ 140737488355328 := by omega
  have m3 : ns ≤ maxLen := by unfold maxLen; omega
  have m4 : ns * 8 ≤ 140737488355328 := by omega
  have hhs : w.heap.size + 1 < w1.heap.size := hB2.lt
  go_cut [] (fun wr => ∃ A2 c2 A3 c3, Blk wr w.heap.size 37 #[.slice A2 nc c2, .int .i64 arg, .int .i64 data, .int .i64 (at_ : Int), .slice A3 ns c3, .int .i64 gas, .bool false, .int .i64 0] ∧ Blk wr (w.heap.size + 1) 37 #[.slice none 0 0, .int .i64 0, .int .i64 0, .int .i64 0, .slice none 0 0, .int .i64 0, .bool false, .int .i64 0] ∧ GB wr A2 nc c2 code ∧ Own wr w.heap.size 3 1 A3 ns c3 (ivals stack) ∧ Ext w wr)
  case first =>
    refine wp_region_G (fun w' => Ext w1 w') [9, 10, 11] (by kernel_rfl) (Ext.refl w1).drew (fun hHeld => ?_)
    repeat (first
      | (refine G_take 0 (v := ?_) (oi := ?_) ?_ ?_ ?_ ?_ ?_ ?_ (Or.inl ⟨?_, ?_⟩) hHeld ?_; rotate_left 2; (focus decide +kernel); (focus rfl); (focus kernel_rfl); (focus decide +kernel); (focus decide +kernel); (focus exact fun _ _ _ h => h); (focus rfl); (focus intro w hSw; (try dsimp only at hSw); go_simp; (try with_reducible rfl); done); try simp only [Act.put, List.setIfInBounds_toArray, List.set_cons_zero, List.set_cons_succ])
      | (refine G_take 1 (v := ?_) (oi := ?_) ?_ ?_ ?_ ?_ ?_ ?_ (Or.inl ⟨?_, ?_⟩) hHeld ?_; rotate_left 2; (focus decide +kernel); (focus rfl); (focus kernel_rfl); (focus decide +kernel); (focus decide +kernel); (focus exact fun _ _ _ h => h); (focus rfl); (focus intro w hSw; (try dsimp only at hSw); go_simp; (try with_reducible rfl); done); try simp only [Act.put, List.setIfInBounds_toArray, List.set_cons_zero, List.set_cons_succ])
      | (refine G_take 2 (v := ?_) (oi := ?_) ?_ ?_ ?_ ?_ ?_ ?_ (Or.inl ⟨?_, ?_⟩) hHeld ?_; rotate_left 2; (focus decide +kernel); (focus rfl); (focus kernel_rfl); (focus decide +kernel); (focus decide +kernel); (focus exact fun _ _ _ h => h); (focus rfl); (focus intro w hSw; (try dsimp only at hSw); go_simp; (try with_reducible rfl); done); try simp only [Act.put, List.setIfInBounds_toArray, List.set_cons_zero, List.set_cons_succ])
      | (refine G_take 3 (v := ?_) (oi := ?_) ?_ ?_ ?_ ?_ ?_ ?_ (Or.inl ⟨?_, ?_⟩) hHeld ?_; rotate_left 2; (focus decide +kernel); (focus rfl); (focus kernel_rfl); (focus decide +kernel); (focus decide +kernel); (focus exact fun _ _ _ h => h); (focus rfl); (focus intro w hSw; (try dsimp only at hSw); go_simp; (try with_reducible rfl); done); try simp only [Act.put, List.setIfInBounds_toArray, List.set_cons_zero, List.set_cons_succ])
      | (refine G_take 4 (v := ?_) (oi := ?_) ?_ ?_ ?_ ?_ ?_ ?_ (Or.inl ⟨?_, ?_⟩) hHeld ?_; rotate_left 2; (focus decide +kernel); (focus rfl); (focus kernel_rfl); (focus decide +kernel); (focus decide +kernel); (focus exact fun _ _ _ h => h); (focus rfl); (focus intro w hSw; (try dsimp only at hSw); go_simp; (try with_reducible rfl); done); try simp only [Act.put, List.setIfInBounds_toArray, List.set_cons_zero, List.set_cons_succ])
      | (refine G_take 5 (v := ?_) (oi := ?_) ?_ ?_ ?_ ?_ ?_ ?_ (Or.inl ⟨?_, ?_⟩) hHeld ?_; rotate_left 2; (focus decide +kernel); (focus rfl); (focus kernel_rfl); (focus decide +kernel); (focus decide +kernel); (focus exact fun _ _ _ h => h); (focus rfl); (focus intro w hSw; (try dsimp only at hSw); go_simp; (try with_reducible rfl); done); try simp only [Act.put, List.setIfInBounds_toArray, List.set_cons_zero, List.set_cons_succ])
      | (refine G_take 6 (v := ?_) (oi := ?_) ?_ ?_ ?_ ?_ ?_ ?_ (Or.inl ⟨?_, ?_⟩) hHeld ?_; rotate_left 2; (focus decide +kernel); (focus rfl); (focus kernel_rfl); (focus decide +kernel); (focus decide +kernel); (focus exact fun _ _ _ h => h); (focus rfl); (focus intro w hSw; (try dsimp only at hSw); go_simp; (try with_reducible rfl); done); try simp only [Act.put, List.setIfInBounds_toArray, List.set_cons_zero, List.set_cons_succ])
      | (refine G_take 7 (v := ?_) (oi := ?_) ?_ ?_ ?_ ?_ ?_ ?_ (Or.inl ⟨?_, ?_⟩) hHeld ?_; rotate_left 2; (focus decide +kernel); (focus rfl); (focus kernel_rfl); (focus decide +kernel); (focus decide +kernel); (focus exact fun _ _ _ h => h); (focus rfl); (focus intro w hSw; (try dsimp only at hSw); go_simp; (try with_reducible rfl); done); try simp only [Act.put, List.setIfInBounds_toArray, List.set_cons_zero, List.set_cons_succ])
      | (refine G_take 8 (v := ?_) (oi := ?_) ?_ ?_ ?_ ?_ ?_ ?_ (Or.inl ⟨?_, ?_⟩) hHeld ?_; rotate_left 2; (focus decide +kernel); (focus rfl); (focus kernel_rfl); (focus decide +kernel); (focus decide +kernel); (focus exact fun _ _ _ h => h); (focus rfl); (focus intro w hSw; (try dsimp only at hSw); go_simp; (try with_reducible rfl); done); try simp only [Act.put, List.setIfInBounds_toArray, List.set_cons_zero, List.set_cons_succ])
      | (refine G_take 9 (v := ?_) (oi := ?_) ?_ ?_ ?_ ?_ ?_ ?_ (Or.inl ⟨?_, ?_⟩) hHeld ?_; rotate_left 2; (focus decide +kernel); (focus rfl); (focus kernel_rfl); (focus decide +kernel); (focus decide +kernel); (focus exact fun _ _ _ h => h); (focus rfl); (focus intro w hSw; (try dsimp only at hSw); go_simp; (try with_reducible rfl); done); try simp only [Act.put, List.setIfInBounds_toArray, List.set_cons_zero, List.set_cons_succ])
      | (refine G_take 10 (v := ?_) (oi := ?_) ?_ ?_ ?_ ?_ ?_ ?_ (Or.inl ⟨?_, ?_⟩) hHeld ?_; rotate_left 2; (focus decide +kernel); (focus rfl); (focus kernel_rfl); (focus decide +kernel); (focus decide +kernel); (focus exact fun _ _ _ h => h); (focus rfl); (focus intro w hSw; (try dsimp only at hSw); go_simp; (try with_reducible rfl); done); try simp only [Act.put, List.setIfInBounds_toArray, List.set_cons_zero, List.set_cons_succ])
      | (refine G_take 11 (v := ?_) (oi := ?_) ?_ ?_ ?_ ?_ ?_ ?_ (Or.inl ⟨?_, ?_⟩) hHeld ?_; rotate_left 2; (focus decide +kernel); (focus rfl); (focus kernel_rfl); (focus decide +kernel); (focus decide +kernel); (focus exact fun _ _ _ h => h); (focus rfl); (focus intro w hSw; (try dsimp only at hSw); go_simp; (try with_reducible rfl); done); try simp only [Act.put, List.setIfInBounds_toArray, List.set_cons_zero, List.set_cons_succ]))
    refine G_ready [0, 4] (by decide +kernel) (by simp) ?_
    refine AllG.cons 0 (o := ?_) ?_ (fun K hK => ?_) ?_
    rotate_left 1
    focus rfl
    · go_simp
      try go_wp2_with fail
      refine hK.out _ _ (hHeld.alloc _) (fun hHeld => ?_)
      clear hK K
      try simp only [Act.put, List.setIfInBounds_toArray, List.set_cons_zero, List.set_cons_succ]
      repeat (first
        | (refine G_take 8 (v := ?_) (oi := ?_) ?_ ?_ ?_ ?_ ?_ ?_ (Or.inl ⟨?_, ?_⟩) hHeld ?_; rotate_left 2; (focus decide +kernel); (focus rfl); (focus kernel_rfl); (focus decide +kernel); (focus decide +kernel); (focus exact fun _ _ _ h => h); (focus rfl); (focus intro w hSw; (try dsimp only at hSw); go_simp; (try with_reducible rfl); done); try simp only [Act.put, List.setIfInBounds_toArray, List.set_cons_zero, List.set_cons_succ]))
      refine G_ready [3, 4] (by decide +kernel) (by simp) ?_
      refine AllG.cons 3 (o := ?_) ?_ (fun K hK => ?_) ?_
      rotate_left 1
      focus rfl
      · refine step_append_new rfl (.tmp 12) (.tmp 14) _ rfl w1.heap.size byte_elem rfl rfl (hc.ext (hx0.trans hHeld)).rs (bvals_one _) m1 m2 ?_ ?_
        focus exact Ext.le hHeld
        intro A2 c2 v2 ho2 hxN
        have hxL2 : Ext v2 v2 := Ext.refl _
        refine hK.out _ _ (hHeld.trans hxN) (fun hHeld => ?_)
        clear hK K
        try simp only [Act.put, List.setIfInBounds_toArray, List.set_cons_zero, List.set_cons_succ]
        repeat (first
          | (refine G_take 8 (v := ?_) (oi := ?_) ?_ ?_ ?_ ?_ ?_ ?_ (Or.inl ⟨?_, ?_⟩) hHeld ?_; rotate_left 2; (focus decide +kernel); (focus rfl); (focus kernel_rfl); (focus decide +kernel); (focus decide +kernel); (focus exact fun _ _ _ h => h); (focus rfl); (focus intro w hSw; (try dsimp only at hSw); go_simp; (try with_reducible rfl); done); try simp only [Act.put, List.setIfInBounds_toArray, List.set_cons_zero, List.set_cons_succ]))
        refine G_ready [4] (by decide +kernel) (by simp) ?_
        refine AllG.cons 4 (o := ?_) ?_ (fun K hK => ?_) ?_
        rotate_left 1
        focus rfl
        · go_simp
          try go_wp2_with fail
          refine hK.out _ _ (hHeld.alloc _) (fun hHeld => ?_)
          clear hK K
          replace hxL2 := hxL2.alloc (.cells #[] 3)
          try simp only [Act.put, List.setIfInBounds_toArray, List.set_cons_zero, List.set_cons_succ]
          repeat (first
            | (refine G_take 8 (v := ?_) (oi := ?_) ?_ ?_ ?_ ?_ ?_ ?_ (Or.inl ⟨?_, ?_⟩) hHeld ?_; rotate_left 2; (focus decide +kernel); (focus rfl); (focus kernel_rfl); (focus decide +kernel); (focus decide +kernel); (focus exact fun _ _ _ h => h); (focus rfl); (focus intro w hSw; (try dsimp only at hSw); go_simp; (try with_reducible rfl); done); try simp only [Act.put, List.setIfInBounds_toArray, List.set_cons_zero, List.set_cons_succ]))
          refine G_ready [7] (by decide +kernel) (by simp) ?_
          refine AllG.cons 7 (o := ?_) ?_ (fun K hK => ?_) ?_
          rotate_left 1
          focus rfl
          · refine step_append_new rfl (.tmp 16) (.tmp 18) _ rfl w1.heap.size int_elem rfl rfl (hs.ext (hx0.trans hHeld)).2 (Nums.one _) m3 m4 ?_ ?_
            focus exact Ext.le hHeld
            intro A3 c3 v3 ho3 hxN
            replace hxL2 := hxL2.trans hxN
            have hxL3 : Ext v3 v3 := Ext.refl _
            refine hK.out _ _ (hHeld.trans hxN) (fun hHeld => ?_)
            clear hK K
            try simp only [Act.put, List.setIfInBounds_toArray, List.set_cons_zero, List.set_cons_succ]
            repeat (first
              | (refine G_take 8 (v := ?_) (oi := ?_) ?_ ?_ ?_ ?_ ?_ ?_ (Or.inl ⟨?_, ?_⟩) hHeld ?_; rotate_left 2; (focus decide +kernel); (focus rfl); (focus kernel_rfl); (focus decide +kernel); (focus decide +kernel); (focus exact fun _ _ _ h => h); (focus rfl); (focus intro w hSw; (try dsimp only at hSw); go_simp; (try with_reducible rfl); done); try simp only [Act.put, List.setIfInBounds_toArray, List.set_cons_zero, List.set_cons_succ])
              | (refine G_take 9 (v := ?_) (oi := ?_) ?_ ?_ ?_ ?_ ?_ ?_ (Or.inl ⟨?_, ?_⟩) hHeld ?_; rotate_left 2; (focus decide +kernel); (focus rfl); (focus kernel_rfl); (focus decide +kernel); (focus decide +kernel); (focus exact fun _ _ _ h => h); (focus rfl); (focus intro w hSw; (try dsimp only at hSw); go_simp; (try with_reducible rfl); done); try simp only [Act.put, List.setIfInBounds_toArray, List.set_cons_zero, List.set_cons_succ])
              | (refine G_take 10 (v := ?_) (oi := ?_) ?_ ?_ ?_ ?_ ?_ ?_ (Or.inl ⟨?_, ?_⟩) hHeld ?_; rotate_left 2; (focus decide +kernel); (focus rfl); (focus kernel_rfl); (focus decide +kernel); (focus decide +kernel); (focus exact fun _ _ _ h => h); (focus rfl); (focus intro w hSw; (try dsimp only at hSw); go_simp; (try with_reducible rfl); done); try simp only [Act.put, List.setIfInBounds_toArray, List.set_cons_zero, List.set_cons_succ]))
            have hB3 := hB1.ext hHeld
            have j0 := hB3.cell0_8
            have f0 := hB3.frozen 0
            have j4 := hB3.cell4_8
            have f4 := hB3.frozen 4
            have hoS := ho2.ext hxL2
            have hoT := ho3.ext hxL3
            refine G_late 9 (o := ?_) ?_ ?_ ?_ (fun K hK => ?_)
            rotate_left 1
            focus (decide +kernel)
            focus rfl
            focus (decide +kernel)
            go_simp
            refine hK.out _ _ ?_
            clear hK K
            try simp only [Act.put, List.setIfInBounds_toArray, List.set_cons_zero, List.set_cons_succ]
            refine G_late 10 (o := ?_) ?_ ?_ ?_ (fun K hK => ?_)
            rotate_left 1
            focus (decide +kernel)
            focus rfl
            focus (decide +kernel)
            go_simp
            refine hK.out _ _ ?_
            clear hK K
            try simp only [Act.put, List.setIfInBounds_toArray, List.set_cons_zero, List.set_cons_succ]
            refine G_late 11 (o := ?_) ?_ ?_ ?_ (fun K hK => ?_)
            rotate_left 1
            focus (decide +kernel)
            focus rfl
            focus (decide +kernel)
            go_simp
            refine hK.out _ _ ?_
            clear hK K
            try simp only [Act.put, List.setIfInBounds_toArray, List.set_cons_zero, List.set_cons_succ]
            refine G_done (by kernel_rfl) ?_ _
            go_wp2_with fail
            go_meet
            exact rst_mem hB1 hB2 hx0 hHeld hoS hoT
          exact AllG.nil
        exact AllG.nil
      refine AllG.cons 4 (o := ?_) ?_ (fun K hK => ?_) ?_
      rotate_left 1
      focus rfl
      · go_simp
        try go_wp2_with fail
        refine hK.out _ _ (hHeld.alloc _) (fun hHeld => ?_)
        clear hK K
        try simp only [Act.put, List.setIfInBounds_toArray, List.set_cons_zero, List.set_cons_succ]
        repeat (first
          | (refine G_take 8 (v := ?_) (oi := ?_) ?_ ?_ ?_ ?_ ?_ ?_ (Or.inl ⟨?_, ?_⟩) hHeld ?_; rotate_left 2; (focus decide +kernel); (focus rfl); (focus kernel_rfl); (focus decide +kernel); (focus decide +kernel); (focus exact fun _ _ _ h => h); (focus rfl); (focus intro w hSw; (try dsimp only at hSw); go_simp; (try with_reducible rfl); done); try simp only [Act.put, List.setIfInBounds_toArray, List.set_cons_zero, List.set_cons_succ]))
        refine G_ready [3] (by decide +kernel) (by simp) ?_
        refine AllG.cons 3 (o := ?_) ?_ (fun K hK => ?_) ?_
        rotate_left 1
        focus rfl
        · refine step_append_new rfl (.tmp 12) (.tmp 14) _ rfl w1.heap.size byte_elem rfl rfl (hc.ext (hx0.trans hHeld)).rs (bvals_one _) m1 m2 ?_ ?_
          focus exact Ext.le hHeld
          intro A2 c2 v2 ho2 hxN
          have hxL2 : Ext v2 v2 := Ext.refl _
          refine hK.out _ _ (hHeld.trans hxN) (fun hHeld => ?_)
          clear hK K
          try simp only [Act.put, List.setIfInBounds_toArray, List.set_cons_zero, List.set_cons_succ]
          repeat (first
            | (refine G_take 8 (v := ?_) (oi := ?_) ?_ ?_ ?_ ?_ ?_ ?_ (Or.inl ⟨?_, ?_⟩) hHeld ?_; rotate_left 2; (focus decide +kernel); (focus rfl); (focus kernel_rfl); (focus decide +kernel); (focus decide +kernel); (focus exact fun _ _ _ h => h); (focus rfl); (focus intro w hSw; (try dsimp only at hSw); go_simp; (try with_reducible rfl); done); try simp only [Act.put, List.setIfInBounds_toArray, List.set_cons_zero, List.set_cons_succ]))
          refine G_ready [7] (by decide +kernel) (by simp) ?_
          refine AllG.cons 7 (o := ?_) ?_ (fun K hK => ?_) ?_
          rotate_left 1
          focus rfl
          · refine step_append_new rfl (.tmp 16) (.tmp 18) _ rfl w1.heap.size int_elem rfl rfl (hs.ext (hx0.trans hHeld)).2 (Nums.one _) m3 m4 ?_ ?_
            focus exact Ext.le hHeld
            intro A3 c3 v3 ho3 hxN
            replace hxL2 := hxL2.trans hxN
            have hxL3 : Ext v3 v3 := Ext.refl _
            refine hK.out _ _ (hHeld.trans hxN) (fun hHeld => ?_)
            clear hK K
            try simp only [Act.put, List.setIfInBounds_toArray, List.set_cons_zero, List.set_cons_succ]
            repeat (first
              | (refine G_take 8 (v := ?_) (oi := ?_) ?_ ?_ ?_ ?_ ?_ ?_ (Or.inl ⟨?_, ?_⟩) hHeld ?_; rotate_left 2; (focus decide +kernel); (focus rfl); (focus kernel_rfl); (focus decide +kernel); (focus decide +kernel); (focus exact fun _ _ _ h => h); (focus rfl); (focus intro w hSw; (try dsimp only at hSw); go_simp; (try with_reducible rfl); done); try simp only [Act.put, List.setIfInBounds_toArray, List.set_cons_zero, List.set_cons_succ])
              | (refine G_take 9 (v := ?_) (oi := ?_) ?_ ?_ ?_ ?_ ?_ ?_ (Or.inl ⟨?_, ?_⟩) hHeld ?_; rotate_left 2; (focus decide +kernel); (focus rfl); (focus kernel_rfl); (focus decide +kernel); (focus decide +kernel); (focus exact fun _ _ _ h => h); (focus rfl); (focus intro w hSw; (try dsimp only at hSw); go_simp; (try with_reducible rfl); done); try simp only [Act.put, List.setIfInBounds_toArray, List.set_cons_zero, List.set_cons_succ])
              | (refine G_take 10 (v := ?_) (oi := ?_) ?_ ?_ ?_ ?_ ?_ ?_ (Or.inl ⟨?_, ?_⟩) hHeld ?_; rotate_left 2; (focus decide +kernel); (focus rfl); (focus kernel_rfl); (focus decide +kernel); (focus decide +kernel); (focus exact fun _ _ _ h => h); (focus rfl); (focus intro w hSw; (try dsimp only at hSw); go_simp; (try with_reducible rfl); done); try simp only [Act.put, List.setIfInBounds_toArray, List.set_cons_zero, List.set_cons_succ]))
            have hB3 := hB1.ext hHeld
            have j0 := hB3.cell0_8
            have f0 := hB3.frozen 0
            have j4 := hB3.cell4_8
            have f4 := hB3.frozen 4
            have hoS := ho2.ext hxL2
            have hoT := ho3.ext hxL3
            refine G_late 9 (o := ?_) ?_ ?_ ?_ (fun K hK => ?_)
            rotate_left 1
            focus (decide +kernel)
            focus rfl
            focus (decide +kernel)
            go_simp
            refine hK.out _ _ ?_
            clear hK K
            try simp only [Act.put, List.setIfInBounds_toArray, List.set_cons_zero, List.set_cons_succ]
            refine G_late 10 (o := ?_) ?_ ?_ ?_ (fun K hK => ?_)
            rotate_left 1
            focus (decide +kernel)
            focus rfl
            focus (decide +kernel)
            go_simp
            refine hK.out _ _ ?_
            clear hK K
            try simp only [Act.put, List.setIfInBounds_toArray, List.set_cons_zero, List.set_cons_succ]
            refine G_late 11 (o := ?_) ?_ ?_ ?_ (fun K hK => ?_)
            rotate_left 1
            focus (decide +kernel)
            focus rfl
            focus (decide +kernel)
            go_simp
            refine hK.out _ _ ?_
            clear hK K
            try simp only [Act.put, List.setIfInBounds_toArray, List.set_cons_zero, List.set_cons_succ]
            refine G_done (by kernel_rfl) ?_ _
            go_wp2_with fail
            go_meet
            exact rst_mem hB1 hB2 hx0 hHeld hoS hoT
          exact AllG.nil
        exact AllG.nil
      exact AllG.nil
    refine AllG.cons 4 (o := ?_) ?_ (fun K hK => ?_) ?_
    rotate_left 1
    focus rfl
    · go_simp
      try go_wp2_with fail
      refine hK.out _ _ (hHeld.alloc _) (fun hHeld => ?_)
      clear hK K
      try simp only [Act.put, List.setIfInBounds_toArray, List.set_cons_zero, List.set_cons_succ]
      repeat (first
        | (refine G_take 8 (v := ?_) (oi := ?_) ?_ ?_ ?_ ?_ ?_ ?_ (Or.inl ⟨?_, ?_⟩) hHeld ?_; rotate_left 2; (focus decide +kernel); (focus rfl); (focus kernel_rfl); (focus decide +kernel); (focus decide +kernel); (focus exact fun _ _ _ h => h); (focus rfl); (focus intro w hSw; (try dsimp only at hSw); go_simp; (try with_reducible rfl); done); try simp only [Act.put, List.setIfInBounds_toArray, List.set_cons_zero, List.set_cons_succ]))
      refine G_ready [0] (by decide +kernel) (by simp) ?_
      refine AllG.cons 0 (o := ?_) ?_ (fun K hK => ?_) ?_
      rotate_left 1
      focus rfl
      · go_simp
        try go_wp2_with fail
        refine hK.out _ _ (hHeld.alloc _) (fun hHeld => ?_)
        clear hK K
        try simp only [Act.put, List.setIfInBounds_toArray, List.set_cons_zero, List.set_cons_succ]
        repeat (first
          | (refine G_take 8 (v := ?_) (oi := ?_) ?_ ?_ ?_ ?_ ?_ ?_ (Or.inl ⟨?_, ?_⟩) hHeld ?_; rotate_left 2; (focus decide +kernel); (focus rfl); (focus kernel_rfl); (focus decide +kernel); (focus decide +kernel); (focus exact fun _ _ _ h => h); (focus rfl); (focus intro w hSw; (try dsimp only at hSw); go_simp; (try with_reducible rfl); done); try simp only [Act.put, List.setIfInBounds_toArray, List.set_cons_zero, List.set_cons_succ]))
        refine G_ready [3] (by decide +kernel) (by simp) ?_
        refine AllG.cons 3 (o := ?_) ?_ (fun K hK => ?_) ?_
        rotate_left 1
        focus rfl
        · refine step_append_new rfl (.tmp 12) (.tmp 14) _ rfl w1.heap.size byte_elem rfl rfl (hc.ext (hx0.trans hHeld)).rs (bvals_one _) m1 m2 ?_ ?_
          focus exact Ext.le hHeld
          intro A2 c2 v2 ho2 hxN
          have hxL2 : Ext v2 v2 := Ext.refl _
          refine hK.out _ _ (hHeld.trans hxN) (fun hHeld => ?_)
          clear hK K
          try simp only [Act.put, List.setIfInBounds_toArray, List.set_cons_zero, List.set_cons_succ]
          repeat (first
            | (refine G_take 8 (v := ?_) (oi := ?_) ?_ ?_ ?_ ?_ ?_ ?_ (Or.inl ⟨?_, ?_⟩) hHeld ?_; rotate_left 2; (focus decide +kernel); (focus rfl); (focus kernel_rfl); (focus decide +kernel); (focus decide +kernel); (focus exact fun _ _ _ h => h); (focus rfl); (focus intro w hSw; (try dsimp only at hSw); go_simp; (try with_reducible rfl); done); try simp only [Act.put, List.setIfInBounds_toArray, List.set_cons_zero, List.set_cons_succ]))
          refine G_ready [7] (by decide +kernel) (by simp) ?_
          refine AllG.cons 7 (o := ?_) ?_ (fun K hK => ?_) ?_
          rotate_left 1
          focus rfl
          · refine step_append_new rfl (.tmp 16) (.tmp 18) _ rfl w1.heap.size int_elem rfl rfl (hs.ext (hx0.trans hHeld)).2 (Nums.one _) m3 m4 ?_ ?_
            focus exact Ext.le hHeld
            intro A3 c3 v3 ho3 hxN
            replace hxL2 := hxL2.trans hxN
            have hxL3 : Ext v3 v3 := Ext.refl _
            refine hK.out _ _ (hHeld.trans hxN) (fun hHeld => ?_)
            clear hK K
            try simp only [Act.put, List.setIfInBounds_toArray, List.set_cons_zero, List.set_cons_succ]
            repeat (first
              | (refine G_take 8 (v := ?_) (oi := ?_) ?_ ?_ ?_ ?_ ?_ ?_ (Or.inl ⟨?_, ?_⟩) hHeld ?_; rotate_left 2; (focus decide +kernel); (focus rfl); (focus kernel_rfl); (focus decide +kernel); (focus decide +kernel); (focus exact fun _ _ _ h => h); (focus rfl); (focus intro w hSw; (try dsimp only at hSw); go_simp; (try with_reducible rfl); done); try simp only [Act.put, List.setIfInBounds_toArray, List.set_cons_zero, List.set_cons_succ])
              | (refine G_take 9 (v := ?_) (oi := ?_) ?_ ?_ ?_ ?_ ?_ ?_ (Or.inl ⟨?_, ?_⟩) hHeld ?_; rotate_left 2; (focus decide +kernel); (focus rfl); (focus kernel_rfl); (focus decide +kernel); (focus decide +kernel); (focus exact fun _ _ _ h => h); (focus rfl); (focus intro w hSw; (try dsimp only at hSw); go_simp; (try with_reducible rfl); done); try simp only [Act.put, List.setIfInBounds_toArray, List.set_cons_zero, List.set_cons_succ])
              | (refine G_take 10 (v := ?_) (oi := ?_) ?_ ?_ ?_ ?_ ?_ ?_ (Or.inl ⟨?_, ?_⟩) hHeld ?_; rotate_left 2; (focus decide +kernel); (focus rfl); (focus kernel_rfl); (focus decide +kernel); (focus decide +kernel); (focus exact fun _ _ _ h => h); (focus rfl); (focus intro w hSw; (try dsimp only at hSw); go_simp; (try with_reducible rfl); done); try simp only [Act.put, List.setIfInBounds_toArray, List.set_cons_zero, List.set_cons_succ]))
            have hB3 := hB1.ext hHeld
            have j0 := hB3.cell0_8
            have f0 := hB3.frozen 0
            have j4 := hB3.cell4_8
            have f4 := hB3.frozen 4
            have hoS := ho2.ext hxL2
            have hoT := ho3.ext hxL3
            refine G_late 9 (o := ?_) ?_ ?_ ?_ (fun K hK => ?_)
            rotate_left 1
            focus (decide +kernel)
            focus rfl
            focus (decide +kernel)
            go_simp
            refine hK.out _ _ ?_
            clear hK K
            try simp only [Act.put, List.setIfInBounds_toArray, List.set_cons_zero, List.set_cons_succ]
            refine G_late 10 (o := ?_) ?_ ?_ ?_ (fun K hK => ?_)
            rotate_left 1
            focus (decide +kernel)
            focus rfl
            focus (decide +kernel)
            go_simp
            refine hK.out _ _ ?_
            clear hK K
            try simp only [Act.put, List.setIfInBounds_toArray, List.set_cons_zero, List.set_cons_succ]
            refine G_late 11 (o := ?_) ?_ ?_ ?_ (fun K hK => ?_)
            rotate_left 1
            focus (decide +kernel)
            focus rfl
            focus (decide +kernel)
            go_simp
            refine hK.out _ _ ?_
            clear hK K
            try simp only [Act.put, List.setIfInBounds_toArray, List.set_cons_zero, List.set_cons_succ]
            refine G_done (by kernel_rfl) ?_ _
            go_wp2_with fail
            go_meet
            exact rst_mem hB1 hB2 hx0 hHeld hoS hoT
          exact AllG.nil
        exact AllG.nil
      exact AllG.nil
    exact AllG.nil
  case rest =>
    obtain ⟨A2, c2, A3, c3, hB4, hB5, hg4, ho4, hx4⟩ := hcut
    have hSt : St5 w wc w.heap.size (w.heap.size + 1) A2 nc c2 A3 ns c3 ⟨code, arg, data, at_, stack, gas, false, 0⟩ := ⟨hB4, hB5, hg4, ho4, hx4, Nat.le_refl _, Nat.le_succ _, by omega⟩
    clear hB5 hg4 ho4 hx4 hB1 hB2 k0 k4 hhs hx0 m1 m2 m3 m4
    obtain ⟨k0, k1, k2, k3, k4, k5, k6, k7⟩ := hB4.cells8
    have hatd : decide (nc < at_) = false := by simp; omega
    have hat0 : (0 : Int) ≤ (at_ : Int) := by omega
    have hgd : decide (gas < 1) = false := by simp; omega
    go_upto_region 9 with fail
    have hBL := hSt.bm
    unfold Ms.cells at hBL
    simp only at hBL
    have hBN := Blk.new wc 37 #[.slice none 0 0, .int .i64 0, .int .i64 0, .int .i64 0, .slice none 0 0, .int .i64 0, .bool false, .int .i64 0]
    go_upto_region 10 with (first | (refine wpList_load_blk rfl 37 (.tmp 1) rfl hBL rfl _ Try.underlying37 rfl rmach_size ?_) | (refine wpList_store_blk rfl 37 (.tmp 3) (.tmp 44) rfl hBN rfl rfl rfl rmach_size rfl ?_; intro w8 hB8 hM8))
    have hS6 := St6.new hSt hM8 (by unfold Ms.cells; exact hB8)
    clear hSt hBL hBN hB8 hM8 k0 k1 k2 k3 k4 k5 k6 k7 hB4
    generalize wc.heap.size = q at *
    have i5 : w8.cell? ⟨q, 5, none⟩ = some (.int .i64 gas) := hS6.bx.cell 5
    have f5 := hS6.bx.frozen 5
    go_upto_region 11 with fail
    replace hS6 := hS6.gas_ (gas - 1)
    clear i5 f5
    generalize w8.setCell ⟨q, 5, none⟩ (.int .i64 (gas - 1)) = w9 at *
    have j0 : w9.cell? ⟨w.heap.size, 0, none⟩ = some (.slice A2 nc c2) := hS6.st.bm.cell 0
    have j3 : w9.cell? ⟨w.heap.size, 3, none⟩ = some (.int .i64 (at_ : Int)) := hS6.st.bm.cell 3
    have j4 : w9.cell? ⟨w.heap.size, 4, none⟩ = some (.slice A3 ns c3) := hS6.st.bm.cell 4
    have i3 : w9.cell? ⟨q, 3, none⟩ = some (.int .i64 (at_ : Int)) := hS6.bx.cell 3
    have i4 : w9.cell? ⟨q, 4, none⟩ = some (.slice A3 ns c3) := hS6.bx.cell 4
    have i5 := hS6.bx.frozen 5
    have f3 := hS6.bx.frozen 3
    have f4 := hS6.bx.frozen 4
    have f6 := hS6.bx.frozen 6
    have i6 : w9.cell? ⟨q, 6, none⟩ = some (.bool false) := hS6.bx.cell 6
    obtain ⟨b, o, rfl, hb, hcell⟩ := hS6.st.bg.bytes.at_ at_ (by omega)
    have hati : (at_ : Int) < (nc : Int) := by omega
    have hate : ((at_ : Int) == (nc : Int)) = false := by simp; omega
    have hop0 : code.getD at_ 0 ≠ 0 := Hop.out.1
    generalize hopp : code.getD at_ 0 = op at *
    have Hopp := Lib.hid hopp
    clear hopp
    have hbz : ((op : Int) == 0) = false := by simp; omega
    clear hop0
    go_upto_region 15 with fail
    have h15 : (op : Int) ≤ 15 := by have := Hop.out.2; omega
    go_upto_region 18 with fail
    replace hS6 := hS6.at_ (at_ + 1)
    rw [show ((at_ + 1 : Nat) : Int) = (at_ : Int) + 1 by simp] at hS6
    clear j0 j3 j4 i3 i4 i5 f3 f4 f6 i6
    generalize w9.setCell ⟨q, 3, none⟩ (.int .i64 ((at_ : Int) + 1)) = w10 at *
    clear hcell hate hbz hatd
    have j0 : w10.cell? ⟨w.heap.size, 0, none⟩ = some (.slice (some ⟨b, o, none⟩) nc c2) := hS6.st.bm.cell 0
    have i3 : w10.cell? ⟨q, 3, none⟩ = some (.int .i64 ((at_ : Int) + 1)) := by rw [hS6.bx.cell 3]; simp [Ms.cells]
    have f3 := hS6.bx.frozen 3
    have e1 : ((op : Int) == 1) = false := by have := Hop.out.2; simp; omega
    have e13 : ((op : Int) == 13) = false := by have := Hop.out.2; simp; omega
    have HL := Lib.hid (show Lit code at_ op 0 (at_ + 1) from .none (by have := Hop.out.2; omega) (by have := Hop.out.2; omega))
    go_upto_region 30 with fail
    clear j0 i3 f3 e1 e13
    have hkn : needsV op = 1 := by rcases Hop.out.2 with rfl | rfl <;> rfl
    have hne : ∀ w, Calls Try.prog 31 #[.int .u8 (op : Int)] w fun e w' => e = .returned (.int .i64 1) ∧ w' = w := fun w => by have := needs_any op (by have := Hop.out.2; omega) w; rw [hkn] at this; exact this
    have hpu := fun w => puts_any op (by have := Hop.out.2; omega) w
    have hstk := Hst.out
    rw [hkn, Hls.out] at hstk
    obtain ⟨t, rfl⟩ : ∃ t, ns = t + 1 := ⟨ns - 1, by omega⟩
    have hdone := fun a b => doV_done (m := ⟨code, arg, data, at_ + 1, stack, gas - 1, false, 0⟩) (a := a) (b := b) (Nat.pos_of_ne_zero Hop.out.1) (by have := Hop.out.2; omega) rfl HL.out (by rw [hkn]; show 1 ≤ stack.length; rw [Hls.out]; omega) (by rw [hkn]; show stack.length + _ ≤ _; rw [Hls.out]; exact hstk.2)
    simp only [hkn, Hls.out] at hdone
    have Hdone := Lib.hid hdone
    clear hdone
    generalize hkp : putsV op = kp at *
    have Hkn := Lib.hid hkn
    clear hkn hkp
    have hdeep := hstk.2
    clear hstk
    have j4 : w10.cell? ⟨w.heap.size, 4, none⟩ = some (.slice A3 (t + 1) c3) := hS6.st.bm.cell 4
    go_quiet ((go_at_call 31; exact Calls.quiet_of_same (hne _)))
    rename_i nq
    replace hS6 := hS6.ext ((Ext.refl w10).drewN nq)
    clear j4
    generalize w10.drewN nq = w13 at *
    have j4 : w13.cell? ⟨w.heap.size, 4, none⟩ = some (.slice A3 (t + 1) c3) := hS6.st.bm.cell 4
    have i4 : w13.cell? ⟨q, 4, none⟩ = some (.slice A3 (t + 1) c3) := hS6.bx.cell 4
    have hsd : (0 : Int) ≤ (t : Int) := by omega
    have hsf : decide ((16 : Int) < (t : Int) + (kp : Int)) = false := by simp; omega
    have hsf' : (t : Int) + (kp : Int) ≤ 16 := by omega
    have hle3 := hS6.st.bo.2.1
    have ehi : ∀ w, (Instr.slice 23 (.slice A3 (t + 1) c3) none (some (.int .i64 (t : Int))) none).run Try.prog w = .ok (.slice A3 t c3) w := fun w => int_elem.cut_hi A3 (t + 1) c3 t .i64 _ rfl (by omega) w
    obtain ⟨g9, rfl, -, -, hcs, -⟩ := hS6.st.bo.pos (by omega)
    have hcl9 := hcs t _ (ivals_get stack t (by rw [Hls.out]; omega))
    have htn : (t : Int) < (t : Int) + 1 := by omega
    have Hbb := Lib.hid (show (1 ≤ 1 → stack.getD t 0 = stack.getD (t + 1 - 1) 0) from fun _ => by rw [Nat.add_sub_cancel])
    have Hb64 := Lib.hid (i64_getD Hstk.out t)
    generalize stack.getD t 0 = bb at *
    have Hdo := Lib.hid (Hdone.out 0 bb Hbb.out (fun h => absurd h (by decide)))
    clear hcs
    clear Hdone
    go_upto_block 1 with (first | (go_at_call 32; refine (hpu _).mono ?_; rintro e wq ⟨rfl, rfl⟩) | (go_at_call 31; refine (hne _).mono ?_; rintro e wq ⟨rfl, rfl⟩))
    clear ehi i4 j4 hcl9 hsf hsf'
    go_cut [9] (fun sv wr => ∃ As' ls' cs', sv = .slice As' ls' cs' ∧ St7 w wr (w.heap.size + 1) q (some ⟨b, o, none⟩) nc c2 (some ⟨g9, 0, none⟩) (t + 1) c3 As' ls' cs' y ∧ y.code = code)
    case first =>
      rcases Hop.out.2 with rfl | rfl
      · rcases Hdo.out with ⟨h2, h7, -⟩ | ⟨h13, -⟩ | ⟨-, -, hok⟩
        · exact absurd h7 (by omega)
        · exact absurd h13 (by decide)
        have hyy : y = ⟨code, arg, data, at_ + 1, stack.take t ++ [i32V bb], gas - 1, false, 0⟩ := by
          rw [Hy.out, hok]; simp [newV]
        have hxa := (Ext.refl wq).alloc (.cells #[.int .i64 (i32V bb)] 3)
        have hra : RS (wq.alloc (.cells #[.int .i64 (i32V bb)] 3)) 1 (some ⟨wq.heap.size, 0, none⟩) 1 [.int .i64 (i32V bb)] := box_rs wq 3 1 [.int .i64 (i32V bb)] 1 rfl
        have hSa := hS6.ext hxa
        have hOa := hSa.front (j := t) (by omega)
        have hBs : w.heap.size ≤ (wq.alloc (.cells #[.int .i64 (i32V bb)] 3)).heap.size := hSa.st.be.le
        have m9 : t + 1 ≤ maxLen := by unfold maxLen; omega
        have m8 : (t + 1) * 8 ≤ 140737488355328 := by omega
        go_wp2_with (refine wpList_append_Own rfl (.tmp 239) (.tmp 243) _ rfl w.heap.size int_elem rfl hOa rfl hra (Nums.one [i32V bb]) m9 m8 hBs ?_)
        intro A9 c9 w9 ho9 hg9
        clear hra hOa
        go_wp2_with fail
        go_meet
        exact ⟨A9, _, c9, rfl, hSa.app (j := t) (by omega) hg9 (l := [i32V bb]) ho9 y (by rw [hyy]) (by rw [hyy]) (by rw [hyy]; rfl), by rw [hyy]⟩
      · rcases Hdo.out with ⟨h2, h7, -⟩ | ⟨h13, -⟩ | ⟨-, -, hok⟩
        · exact absurd h7 (by omega)
        · exact absurd h13 (by decide)
        have hyy : y = ⟨code, arg, data, at_ + 1, stack.take t ++ [u8V bb], gas - 1, false, 0⟩ := by
          rw [Hy.out, hok]; simp [newV]
        have hxa := (Ext.refl wq).alloc (.cells #[.int .i64 (u8V bb)] 3)
        have hra : RS (wq.alloc (.cells #[.int .i64 (u8V bb)] 3)) 1 (some ⟨wq.heap.size, 0, none⟩) 1 [.int .i64 (u8V bb)] := box_rs wq 3 1 [.int .i64 (u8V bb)] 1 rfl
        have hSa := hS6.ext hxa
        have hOa := hSa.front (j := t) (by omega)
        have hBs : w.heap.size ≤ (wq.alloc (.cells #[.int .i64 (u8V bb)] 3)).heap.size := hSa.st.be.le
        have m9 : t + 1 ≤ maxLen := by unfold maxLen; omega
        have m8 : (t + 1) * 8 ≤ 140737488355328 := by omega
        go_wp2_with (refine wpList_append_Own rfl (.tmp 247) (.tmp 251) _ rfl w.heap.size int_elem rfl hOa rfl hra (Nums.one [u8V bb]) m9 m8 hBs ?_)
        intro A9 c9 w9 ho9 hg9
        clear hra hOa
        go_wp2_with fail
        go_meet
        exact ⟨A9, _, c9, rfl, hSa.app (j := t) (by omega) hg9 (l := [u8V bb]) ho9 y (by rw [hyy]) (by rw [hyy]) (by rw [hyy]; rfl), by rw [hyy]⟩

    case rest =>
      obtain ⟨As', ls', cs', rfl, hS7, hyc⟩ := hcut
      have f4 := hS7.bx.frozen 4
      have i4 : wc.cell? ⟨q, 4, none⟩ = some (.slice (some ⟨g9, 0, none⟩) (t + 1) c3) := hS7.bx.cell 4
      go_upto_region 70 with fail
      have hS8 := hS7.fin
      clear i4 f4
      generalize wc.setCell ⟨q, 4, none⟩ (.slice As' ls' cs') = w14 at *
      have hBX := hS8.bx
      have hBR := hS8.br
      unfold Ms.cells at hBX
      go_wp2_with (first | (refine wpList_load_blk rfl 37 (.tmp 3) rfl hBX rfl _ Try.underlying37 rfl rmach_size ?_) | (refine wpList_store_blk rfl 37 (.tmp 2) (.tmp 255) rfl hBR rfl rfl rfl rmach_size rfl ?_; intro w8 hB8 hM8))
      obtain ⟨k0, k1, k2, k3, k4, k5, k6, k7⟩ := hB8.cells8
      have hG := Gives.end7 hS8 (by rw [hyc]; exact Hlc.out) hM8
      unfold Ms.cells at hG
      exact bodyPost_ret (v := .agg #[.slice (some ⟨b, o, none⟩) nc c2, .int .i64 y.arg, .int .i64 y.data, .int .i64 (y.at_ : Int), .slice As' ls' cs', .int .i64 y.gas, .bool y.done, .int .i64 y.err]) (by simp [results, Try.results20, go_sem, k0, k1, k2, k3, k4, k5, k6, k7]) rfl hG

end Go.Proofs.Ytlahecofjlaojaa
