/- DiskStops: the plain law, the walk. (printed by wip/gen/dkstop.py) -/
import Derived.Test.YtpgndejmhegklaaDkRoom
namespace Go.Proofs.Ytpgndejmhegklaa
set_option linter.unusedVariables false
open Go.RowKit

/-- A disk that is to stop at the N-th operation, ops of them done, in round k. -/
structure Run4 (d : Dsk) (N ops k : Nat) : Prop where
  room : d.room = 60
  len : d.log.length ≤ k
  snp : d.snap.length ≤ 2
  st : (d.dead = false ∧ d.left + ops = N ∧ ops < N) ∨ (d.dead = true ∧ ops = N)
theorem Run4.next {d : Dsk} {N ops k : Nat} (h : Run4 d N ops k) : Run4 d N ops (k + 1) := ⟨h.room, by have := h.len; omega, h.snp, h.st⟩
/-- What an operation of a disk that lives must leave. -/
def Done4 (d : Dsk) (r : Nat × Dsk) (N ops k : Nat) : Prop := (r.1 = if d.left = 1 then 20 else 0) ∧ Run4 r.2 N (ops + 1) (k + 1) ∧ r.2.dead = decide (d.left = 1)
theorem spend_live {d : Dsk} (h : 0 < d.left) : d.spend = { d with left := d.left - 1, dead := decide (d.left = 1) } := by unfold Dsk.spend; rw [if_pos h]
theorem code_live {d : Dsk} (h : 0 < d.left) : d.spend.code = if d.left = 1 then 20 else 0 := by
  rw [spend_live h]
  unfold Dsk.code
  simp
theorem run_live {d : Dsk} {N ops k : Nat} (hd : d.dead = false) (hst : d.left + ops = N ∧ ops < N) {d' : Dsk} (h1 : d'.room = 60) (h2 : d'.log.length ≤ k + 1) (h3 : d'.snap.length ≤ 2) (h4 : d'.dead = decide (d.left = 1)) (h5 : d'.left = d.left - 1) : Run4 d' N (ops + 1) (k + 1) := by
  refine ⟨h1, h2, h3, ?_⟩
  by_cases hl : d.left = 1
  · exact .inr ⟨by rw [h4]; simp [hl], by omega⟩
  · exact .inl ⟨by rw [h4]; simp [hl], by omega, by omega⟩
theorem done_append {d : Dsk} {N ops k : Nat} (h : Run4 d N ops k) (hd : d.dead = false) (hst : d.left + ops = N ∧ ops < N) (hk : k < 30) : Done4 d (d.append [1]) N ops k := by
  have hl := h.len
  have hs := h.snp
  have he : d.append [1] = ((d.spend).code, { d.spend with log := d.log ++ [1] }) := by
    unfold Dsk.append
    rw [if_neg (by simp [hd]), if_neg (by rw [h.room]; simp; omega)]
  rw [he]
  refine ⟨code_live (by omega), run_live hd hst ?_ ?_ ?_ ?_ ?_, ?_⟩ <;> simp only [spend_live (show 0 < d.left by omega)]
  · exact h.room
  · simp; omega
  · exact hs
theorem done_sync {d : Dsk} {N ops k : Nat} (h : Run4 d N ops k) (hd : d.dead = false) (hst : d.left + ops = N ∧ ops < N) : Done4 d d.sync N ops k := by
  have hl := h.len
  have hp : 0 < d.left := by omega
  unfold Dsk.sync
  rw [if_neg (by simp [hd])]
  by_cases h1 : d.left = 1
  · rw [if_pos (by rw [spend_live hp]; simp [h1])]
    refine ⟨by rw [if_pos h1], run_live hd hst ?_ ?_ ?_ ?_ ?_, ?_⟩ <;> simp only [spend_live hp]
    · exact h.room
    · omega
    · exact h.snp
  · rw [if_neg (by rw [spend_live hp]; simp [h1])]
    refine ⟨by rw [if_neg h1], run_live hd hst ?_ ?_ ?_ ?_ ?_, ?_⟩ <;> simp only [spend_live hp]
    · exact h.room
    · omega
    · exact h.snp
theorem done_cs {d : Dsk} {N ops k : Nat} (h : Run4 d N ops k) (hd : d.dead = false) (hst : d.left + ops = N ∧ ops < N) (d' : Dsk) (c : Prop) [Decidable c] (h1 : d'.room = d.spend.room) (h2 : d'.log = []) (h3 : d'.snap.length ≤ 2) (h4 : d'.dead = d.spend.dead) (h5 : d'.left = d.spend.left) :
    Done4 d ((d.spend).code, if c then d' else d.spend) N ops k := by
  have hl := h.len
  have hp : 0 < d.left := by omega
  have hsp := spend_live hp
  refine ⟨code_live hp, ?_, ?_⟩
  · by_cases hc : c
    · rw [if_pos hc]
      exact run_live hd hst (by rw [h1, hsp]; exact h.room) (by rw [h2]; simp) h3 (by rw [h4, hsp]) (by rw [h5, hsp])
    · rw [if_neg hc]
      exact run_live hd hst (by rw [hsp]; exact h.room) (by rw [hsp]; simp only; omega) (by rw [hsp]; exact h.snp) (by rw [hsp]) (by rw [hsp])
  · by_cases hc : c
    · rw [if_pos hc, h4, hsp]
    · rw [if_neg hc, hsp]
theorem done_swap {d : Dsk} {N ops k : Nat} (h : Run4 d N ops k) (hd : d.dead = false) (hst : d.left + ops = N ∧ ops < N) : Done4 d (d.swap [2, 3]) N ops k := by
  rw [swap_at d [2, 3] hd (by rw [h.room]; decide)]
  exact done_cs h hd hst _ _ rfl rfl (by simp) rfl rfl
theorem done_cut {d : Dsk} {N ops k : Nat} (h : Run4 d N ops k) (hd : d.dead = false) (hst : d.left + ops = N ∧ ops < N) : Done4 d (d.cut 0) N ops k := by
  have := cut_at d 0 hd (Nat.zero_le _)
  rw [show ((0 : Nat) : Int) = 0 from rfl] at this
  rw [this]
  exact done_cs h hd hst _ _ rfl (by simp) (by rw [spend_live (by omega)]; exact h.snp) rfl rfl
theorem dead_append {d : Dsk} (hd : d.dead = true) (b : List Nat) : d.append b = (20, d) := by unfold Dsk.append; rw [if_pos hd]
theorem dead_sync {d : Dsk} (hd : d.dead = true) : d.sync = (20, d) := by unfold Dsk.sync; rw [if_pos hd]
theorem dead_swap {d : Dsk} (hd : d.dead = true) (b : List Nat) : d.swap b = (20, d) := by unfold Dsk.swap; rw [if_pos hd]
theorem dead_cut {d : Dsk} (hd : d.dead = true) (n : Int) : d.cut n = (20, d) := by unfold Dsk.cut; rw [if_pos hd]
theorem full_append {d : Dsk} {N ops k : Nat} (h : Run4 d N ops k) (hd : d.dead = false) : d.append (zeros8 70) = (19, d) := by
  unfold Dsk.append
  rw [if_neg (by simp [hd]), if_pos (by rw [h.room, zeros8_len]; omega)]
theorem far_cut {d : Dsk} {N ops k : Nat} (h : Run4 d N ops k) (hd : d.dead = false) (hk : k < 30) : d.cut 99 = (1, d) := by
  have := h.len
  unfold Dsk.cut
  rw [if_neg (by simp [hd]), if_pos (by omega)]
theorem crash_live (d : Dsk) : (d.crash 0).dead = false ∧ ((d.crash 0).sync).1 = 0 := by
  refine ⟨rfl, ?_⟩
  unfold Dsk.sync
  have hs : (d.crash 0).spend = d.crash 0 := by unfold Dsk.spend; rw [if_neg (by simp [Dsk.crash])]
  rw [hs, if_neg (by simp [Dsk.crash]), if_neg (by simp [Dsk.crash])]
theorem dead_val {g : Nat} {d : Dsk} {w : World} {b : Bool} (hD : DiskAt w g d) (h : d.dead = b) :
    Calls Try.prog 23 #[.pointer (some ⟨g, 0, none⟩)] w fun e w' => e = .returned (.bool b) ∧ w' = w := by
  subst h; exact dead_any g d w hD
theorem lit_rsD (w : World) (cs : Array Value) (l : List Nat) (h : cs.toList = bvals l) {n : Nat} (hn : l.length = n) : Bytes (w.alloc (.cells cs 5)) (some ⟨w.heap.size, 0, none⟩) n l := by
  subst hn
  have := box_rs w 5 1 (bvals l) l.length (by simp [bvals])
  rw [← h, Array.toArray_toList] at this
  exact .of (by rw [← h]; exact this) rfl

set_option maxRecDepth 100000 in
set_option maxHeartbeats 8000000 in
theorem stops_walk (n : Int) (A1 : Option Addr) (n1 c1 : Nat) (zs : List Int) (w : World)
    (hz1 : Nums .i64 w A1 n1 zs) (hnc1 : n1 ≤ c1) (hm1 : c1 ≤ maxLen) (hw : ∀ x ∈ zs, -9223372036854775808 ≤ x ∧ x ≤ 9223372036854775807) :
    Calls Try.prog 6 #[.int .i64 n, .slice A1 n1 c1] w fun e w' => e = .returned (.bool true) ∧ Ext w w' := by
  have hl1 := Lib.hid hz1.1
  unfold maxLen at hm1
  have hwr := fun w => within4 n 12 (by omega) (by omega) w
  obtain ⟨p, hp, hp12⟩ := emod_natW n 12 12 rfl (by omega)
  rw [hp] at hwr
  clear hp
  have hpi : (p : Int) < 12 := by omega
  go_enter Try.func6, Try.ntmps6
  go_wp2_with fail
  refine (known4 w).mono ?_
  rintro e w0 ⟨rfl, hx0⟩
  go_wp2_with fail
  refine (new_any 60 w0 (by omega) (by omega)).mono ?_
  rintro e w2 ⟨rfl, hD2, hx2⟩
  go_wp2_with fail
  refine (hwr _).mono ?_
  rintro e w2' ⟨rfl, rfl⟩
  clear hwr
  have hst := stop_any w0.heap.size (Dsk.mk0 60) (1 + (p : Int)) w2' hD2 (by omega)
  go_wp2_with fail
  refine hst.mono ?_
  rintro e w3 ⟨rfl, hD3, hM3⟩
  have hx3 : Ext w0 w3 := hx2.mut hM3 (Nat.le_refl _)
  have hR3 : Run4 ((Dsk.mk0 60).stop (1 + (p : Int))) (1 + p) 0 0 := ⟨rfl, by simp [Dsk.mk0, Dsk.stop], by simp [Dsk.mk0, Dsk.stop], .inl ⟨rfl, by simp only [Dsk.stop]; omega, by omega⟩⟩
  clear hst hD2 hx2 hM3
  go_wp2_with fail
  go_loopw [7, 8] (fun a i wr => ∃ (k ops : Nat) (d : Dsk), k ≤ 30 ∧ i = .int .i64 (k : Int) ∧ a = .int .i64 (ops : Int) ∧ DiskAt wr w0.heap.size d ∧ Run4 d (1 + p) ops k ∧ Ext w0 wr) (fun _ i _ => 30 - (intOf i).toNat)
  case atStart => exact ⟨0, 0, _, by omega, rfl, rfl, hD3, hR3, hx3⟩
  case round =>
    obtain ⟨k, ops, d, hk, rfl, rfl, hD, hR, her⟩ := hrel
    clear hD3 hx3 hR3
    by_cases hlt : k < n1 ∧ k < 30
    · obtain ⟨g1, g2⟩ := hlt
      obtain ⟨b1, o1, rfl, hb1, hcell⟩ := hz1.at_ k g1
      have hmem : zs.getD k 0 ∈ zs := by
        have : k < zs.length := by rw [hl1.out]; exact g1
        simp [this]
      have hx64 := hw _ hmem
      generalize zs.getD k 0 = x at *
      have hwop := fun w => within4 x 6 (by omega) (by omega) w
      obtain ⟨op, hop, hop6⟩ := emod_natW x 6 6 rfl (by omega)
      rw [hop] at hwop
      have hcr := (hx0.trans her).cell hcell
      have hki : (k : Int) < 30 := by omega
      have hkn : (k : Int) < (n1 : Int) := by omega
      have hmade := run_make8 70 70 rfl (by omega)
      clear hop hx64 hmem
      have ho : op = 0 ∨ op = 1 ∨ op = 2 ∨ op = 3 ∨ op = 4 ∨ op = 5 := by omega
      rcases hR.st with ⟨hd, hst⟩ | ⟨hd, hst⟩
      · rcases ho with rfl | rfl | rfl | rfl | rfl | rfl
        · have hcall := append_any w0.heap.size d (some ⟨wr.heap.size, 0, none⟩) 1 1 [1] _ (hD.ext ((Ext.refl wr).alloc (.cells #[.int .u8 1] 5))) (lit_rsD wr _ [1] rfl rfl) (by decide) (Nat.le_refl _) (by unfold maxLen; omega)
          have hdn := done_append hR hd hst g2
          obtain ⟨q1, q2, q3⟩ := hdn
          generalize d.append [1] = r at *
          obtain ⟨rc, d2⟩ := r
          simp only at q1 q2 q3 hcall
          by_cases hlast : d.left = 1
          · rw [if_pos hlast] at q1
            subst q1
            have hd2 : d2.dead = true := by rw [q3]; simp [hlast]
            have i1 : ((ops : Int) + 1 == 1 + (p : Int)) = true := by rw [beq_iff_eq]; omega
            go_wp2_with fail
            refine (dead_val hD hd).mono ?_
            rintro e w4 ⟨rfl, rfl⟩
            go_wp2_with fail
            refine (hwop _).mono ?_
            rintro e w5 ⟨rfl, rfl⟩
            go_wp2_with fail
            refine hcall.mono ?_
            rintro e w6 ⟨rfl, hD6, hM6⟩
            have hx6 : Ext w0 w6 := (her.alloc _).mut hM6 (Nat.le_refl _)
            clear hcall hM6
            clear q3
            go_wp2_with fail
            refine (dead_val hD6 hd2).mono ?_
            rintro e w7 ⟨rfl, rfl⟩
            go_wp2_with fail
            go_roundw
            case rel => exact ⟨k + 1, ops + 1, d2, by omega, by go_num, by go_num, hD6, q2, hx6⟩
            case measure => simp [intOf]; omega
          · rw [if_neg hlast] at q1
            subst q1
            have hd2 : d2.dead = false := by rw [q3]; simp [hlast]
            have i1 : ((ops : Int) + 1 == 1 + (p : Int)) = false := by rw [beq_eq_false_iff_ne]; omega
            go_wp2_with fail
            refine (dead_val hD hd).mono ?_
            rintro e w4 ⟨rfl, rfl⟩
            go_wp2_with fail
            refine (hwop _).mono ?_
            rintro e w5 ⟨rfl, rfl⟩
            go_wp2_with fail
            refine hcall.mono ?_
            rintro e w6 ⟨rfl, hD6, hM6⟩
            have hx6 : Ext w0 w6 := (her.alloc _).mut hM6 (Nat.le_refl _)
            clear hcall hM6
            clear q3
            go_wp2_with fail
            refine (dead_val hD6 hd2).mono ?_
            rintro e w7 ⟨rfl, rfl⟩
            go_wp2_with fail
            go_roundw
            case rel => exact ⟨k + 1, ops + 1, d2, by omega, by go_num, by go_num, hD6, q2, hx6⟩
            case measure => simp [intOf]; omega
        · have hcall := sync_any w0.heap.size d wr hD
          have hdn := done_sync hR hd hst
          obtain ⟨q1, q2, q3⟩ := hdn
          generalize d.sync = r at *
          obtain ⟨rc, d2⟩ := r
          simp only at q1 q2 q3 hcall
          by_cases hlast : d.left = 1
          · rw [if_pos hlast] at q1
            subst q1
            have hd2 : d2.dead = true := by rw [q3]; simp [hlast]
            have i1 : ((ops : Int) + 1 == 1 + (p : Int)) = true := by rw [beq_iff_eq]; omega
            go_wp2_with fail
            refine (dead_val hD hd).mono ?_
            rintro e w4 ⟨rfl, rfl⟩
            go_wp2_with fail
            refine (hwop _).mono ?_
            rintro e w5 ⟨rfl, rfl⟩
            go_wp2_with fail
            refine hcall.mono ?_
            rintro e w6 ⟨rfl, hD6, hM6⟩
            have hx6 : Ext w0 w6 := her.mut hM6 (Nat.le_refl _)
            clear hcall hM6
            clear q3
            go_wp2_with fail
            refine (dead_val hD6 hd2).mono ?_
            rintro e w7 ⟨rfl, rfl⟩
            go_wp2_with fail
            go_roundw
            case rel => exact ⟨k + 1, ops + 1, d2, by omega, by go_num, by go_num, hD6, q2, hx6⟩
            case measure => simp [intOf]; omega
          · rw [if_neg hlast] at q1
            subst q1
            have hd2 : d2.dead = false := by rw [q3]; simp [hlast]
            have i1 : ((ops : Int) + 1 == 1 + (p : Int)) = false := by rw [beq_eq_false_iff_ne]; omega
            go_wp2_with fail
            refine (dead_val hD hd).mono ?_
            rintro e w4 ⟨rfl, rfl⟩
            go_wp2_with fail
            refine (hwop _).mono ?_
            rintro e w5 ⟨rfl, rfl⟩
            go_wp2_with fail
            refine hcall.mono ?_
            rintro e w6 ⟨rfl, hD6, hM6⟩
            have hx6 : Ext w0 w6 := her.mut hM6 (Nat.le_refl _)
            clear hcall hM6
            clear q3
            go_wp2_with fail
            refine (dead_val hD6 hd2).mono ?_
            rintro e w7 ⟨rfl, rfl⟩
            go_wp2_with fail
            go_roundw
            case rel => exact ⟨k + 1, ops + 1, d2, by omega, by go_num, by go_num, hD6, q2, hx6⟩
            case measure => simp [intOf]; omega
        · have hcall := swap_any w0.heap.size d (some ⟨wr.heap.size, 0, none⟩) 2 2 [2, 3] _ (hD.ext ((Ext.refl wr).alloc (.cells #[.int .u8 2, .int .u8 3] 5))) (lit_rsD wr _ [2, 3] rfl rfl) (by decide)
          have hdn := done_swap hR hd hst
          obtain ⟨q1, q2, q3⟩ := hdn
          generalize d.swap [2, 3] = r at *
          obtain ⟨rc, d2⟩ := r
          simp only at q1 q2 q3 hcall
          by_cases hlast : d.left = 1
          · rw [if_pos hlast] at q1
            subst q1
            have hd2 : d2.dead = true := by rw [q3]; simp [hlast]
            have i1 : ((ops : Int) + 1 == 1 + (p : Int)) = true := by rw [beq_iff_eq]; omega
            go_wp2_with fail
            refine (dead_val hD hd).mono ?_
            rintro e w4 ⟨rfl, rfl⟩
            go_wp2_with fail
            refine (hwop _).mono ?_
            rintro e w5 ⟨rfl, rfl⟩
            go_wp2_with fail
            refine hcall.mono ?_
            rintro e w6 ⟨rfl, hD6, hM6⟩
            have hx6 : Ext w0 w6 := (her.alloc _).mut hM6 (Nat.le_refl _)
            clear hcall hM6
            clear q3
            go_wp2_with fail
            refine (dead_val hD6 hd2).mono ?_
            rintro e w7 ⟨rfl, rfl⟩
            go_wp2_with fail
            go_roundw
            case rel => exact ⟨k + 1, ops + 1, d2, by omega, by go_num, by go_num, hD6, q2, hx6⟩
            case measure => simp [intOf]; omega
          · rw [if_neg hlast] at q1
            subst q1
            have hd2 : d2.dead = false := by rw [q3]; simp [hlast]
            have i1 : ((ops : Int) + 1 == 1 + (p : Int)) = false := by rw [beq_eq_false_iff_ne]; omega
            go_wp2_with fail
            refine (dead_val hD hd).mono ?_
            rintro e w4 ⟨rfl, rfl⟩
            go_wp2_with fail
            refine (hwop _).mono ?_
            rintro e w5 ⟨rfl, rfl⟩
            go_wp2_with fail
            refine hcall.mono ?_
            rintro e w6 ⟨rfl, hD6, hM6⟩
            have hx6 : Ext w0 w6 := (her.alloc _).mut hM6 (Nat.le_refl _)
            clear hcall hM6
            clear q3
            go_wp2_with fail
            refine (dead_val hD6 hd2).mono ?_
            rintro e w7 ⟨rfl, rfl⟩
            go_wp2_with fail
            go_roundw
            case rel => exact ⟨k + 1, ops + 1, d2, by omega, by go_num, by go_num, hD6, q2, hx6⟩
            case measure => simp [intOf]; omega
        · have hcall := cut_any w0.heap.size d 0 wr hD
          have hdn := done_cut hR hd hst
          obtain ⟨q1, q2, q3⟩ := hdn
          generalize d.cut 0 = r at *
          obtain ⟨rc, d2⟩ := r
          simp only at q1 q2 q3 hcall
          by_cases hlast : d.left = 1
          · rw [if_pos hlast] at q1
            subst q1
            have hd2 : d2.dead = true := by rw [q3]; simp [hlast]
            have i1 : ((ops : Int) + 1 == 1 + (p : Int)) = true := by rw [beq_iff_eq]; omega
            go_wp2_with fail
            refine (dead_val hD hd).mono ?_
            rintro e w4 ⟨rfl, rfl⟩
            go_wp2_with fail
            refine (hwop _).mono ?_
            rintro e w5 ⟨rfl, rfl⟩
            go_wp2_with fail
            refine hcall.mono ?_
            rintro e w6 ⟨rfl, hD6, hM6⟩
            have hx6 : Ext w0 w6 := her.mut hM6 (Nat.le_refl _)
            clear hcall hM6
            clear q3
            go_wp2_with fail
            refine (dead_val hD6 hd2).mono ?_
            rintro e w7 ⟨rfl, rfl⟩
            go_wp2_with fail
            go_roundw
            case rel => exact ⟨k + 1, ops + 1, d2, by omega, by go_num, by go_num, hD6, q2, hx6⟩
            case measure => simp [intOf]; omega
          · rw [if_neg hlast] at q1
            subst q1
            have hd2 : d2.dead = false := by rw [q3]; simp [hlast]
            have i1 : ((ops : Int) + 1 == 1 + (p : Int)) = false := by rw [beq_eq_false_iff_ne]; omega
            go_wp2_with fail
            refine (dead_val hD hd).mono ?_
            rintro e w4 ⟨rfl, rfl⟩
            go_wp2_with fail
            refine (hwop _).mono ?_
            rintro e w5 ⟨rfl, rfl⟩
            go_wp2_with fail
            refine hcall.mono ?_
            rintro e w6 ⟨rfl, hD6, hM6⟩
            have hx6 : Ext w0 w6 := her.mut hM6 (Nat.le_refl _)
            clear hcall hM6
            clear q3
            go_wp2_with fail
            refine (dead_val hD6 hd2).mono ?_
            rintro e w7 ⟨rfl, rfl⟩
            go_wp2_with fail
            go_roundw
            case rel => exact ⟨k + 1, ops + 1, d2, by omega, by go_num, by go_num, hD6, q2, hx6⟩
            case measure => simp [intOf]; omega
        · have hcall := append_any w0.heap.size d (some ⟨wr.heap.size, 0, none⟩) 70 70 (zeros8 70) _ (hD.ext ((Ext.refl wr).alloc (.cells (madeB 70) 5))) (made_bytes wr 70 (by omega)) (zeros8_lt 70) (Nat.le_refl _) (by unfold maxLen; omega)
          rw [full_append hR hd] at hcall
          simp only at hcall
          go_wp2_with fail
          refine (dead_val hD hd).mono ?_
          rintro e w4 ⟨rfl, rfl⟩
          go_wp2_with fail
          refine (hwop _).mono ?_
          rintro e w5 ⟨rfl, rfl⟩
          go_wp2_with fail
          refine (hwop _).mono ?_
          rintro e w5' ⟨rfl, rfl⟩
          go_wp2_with fail
          refine hcall.mono ?_
          rintro e w6 ⟨rfl, hD6, hM6⟩
          have hx6 : Ext w0 w6 := (her.alloc _).mut hM6 (Nat.le_refl _)
          clear hcall hM6
          go_wp2_with fail
          refine (dead_val hD6 hd).mono ?_
          rintro e w7 ⟨rfl, rfl⟩
          go_wp2_with fail
          go_roundw
          case rel => exact ⟨k + 1, ops, d, by omega, by go_num, rfl, hD6, hR.next, hx6⟩
          case measure => simp [intOf]; omega
        · have hcall := cut_any w0.heap.size d 99 wr hD
          rw [far_cut hR hd g2] at hcall
          simp only at hcall
          go_wp2_with fail
          refine (dead_val hD hd).mono ?_
          rintro e w4 ⟨rfl, rfl⟩
          go_wp2_with fail
          refine (hwop _).mono ?_
          rintro e w5 ⟨rfl, rfl⟩
          go_wp2_with fail
          refine (hwop _).mono ?_
          rintro e w5' ⟨rfl, rfl⟩
          go_wp2_with fail
          refine hcall.mono ?_
          rintro e w6 ⟨rfl, hD6, hM6⟩
          have hx6 : Ext w0 w6 := her.mut hM6 (Nat.le_refl _)
          clear hcall hM6
          go_wp2_with fail
          refine (dead_val hD6 hd).mono ?_
          rintro e w7 ⟨rfl, rfl⟩
          go_wp2_with fail
          go_roundw
          case rel => exact ⟨k + 1, ops, d, by omega, by go_num, rfl, hD6, hR.next, hx6⟩
          case measure => simp [intOf]; omega
      · clear hst
        rcases ho with rfl | rfl | rfl | rfl | rfl | rfl
        · have hcall := append_any w0.heap.size d (some ⟨wr.heap.size, 0, none⟩) 1 1 [1] _ (hD.ext ((Ext.refl wr).alloc (.cells #[.int .u8 1] 5))) (lit_rsD wr _ [1] rfl rfl) (by decide) (Nat.le_refl _) (by unfold maxLen; omega)
          rw [dead_append hd [1]] at hcall
          simp only at hcall
          go_wp2_with fail
          refine (dead_val hD hd).mono ?_
          rintro e w4 ⟨rfl, rfl⟩
          go_wp2_with fail
          refine (hwop _).mono ?_
          rintro e w5 ⟨rfl, rfl⟩
          go_wp2_with fail
          refine hcall.mono ?_
          rintro e w6 ⟨rfl, hD6, hM6⟩
          have hx6 : Ext w0 w6 := (her.alloc _).mut hM6 (Nat.le_refl _)
          clear hcall hM6
          go_wp2_with fail
          go_roundw
          case rel => exact ⟨k + 1, ops, d, by omega, by go_num, rfl, hD6, hR.next, hx6⟩
          case measure => simp [intOf]; omega
        · have hcall := sync_any w0.heap.size d wr hD
          rw [dead_sync hd] at hcall
          simp only at hcall
          go_wp2_with fail
          refine (dead_val hD hd).mono ?_
          rintro e w4 ⟨rfl, rfl⟩
          go_wp2_with fail
          refine (hwop _).mono ?_
          rintro e w5 ⟨rfl, rfl⟩
          go_wp2_with fail
          refine hcall.mono ?_
          rintro e w6 ⟨rfl, hD6, hM6⟩
          have hx6 : Ext w0 w6 := her.mut hM6 (Nat.le_refl _)
          clear hcall hM6
          go_wp2_with fail
          go_roundw
          case rel => exact ⟨k + 1, ops, d, by omega, by go_num, rfl, hD6, hR.next, hx6⟩
          case measure => simp [intOf]; omega
        · have hcall := swap_any w0.heap.size d (some ⟨wr.heap.size, 0, none⟩) 2 2 [2, 3] _ (hD.ext ((Ext.refl wr).alloc (.cells #[.int .u8 2, .int .u8 3] 5))) (lit_rsD wr _ [2, 3] rfl rfl) (by decide)
          rw [dead_swap hd [2, 3]] at hcall
          simp only at hcall
          go_wp2_with fail
          refine (dead_val hD hd).mono ?_
          rintro e w4 ⟨rfl, rfl⟩
          go_wp2_with fail
          refine (hwop _).mono ?_
          rintro e w5 ⟨rfl, rfl⟩
          go_wp2_with fail
          refine hcall.mono ?_
          rintro e w6 ⟨rfl, hD6, hM6⟩
          have hx6 : Ext w0 w6 := (her.alloc _).mut hM6 (Nat.le_refl _)
          clear hcall hM6
          go_wp2_with fail
          go_roundw
          case rel => exact ⟨k + 1, ops, d, by omega, by go_num, rfl, hD6, hR.next, hx6⟩
          case measure => simp [intOf]; omega
        · have hcall := cut_any w0.heap.size d 0 wr hD
          rw [dead_cut hd 0] at hcall
          simp only at hcall
          go_wp2_with fail
          refine (dead_val hD hd).mono ?_
          rintro e w4 ⟨rfl, rfl⟩
          go_wp2_with fail
          refine (hwop _).mono ?_
          rintro e w5 ⟨rfl, rfl⟩
          go_wp2_with fail
          refine hcall.mono ?_
          rintro e w6 ⟨rfl, hD6, hM6⟩
          have hx6 : Ext w0 w6 := her.mut hM6 (Nat.le_refl _)
          clear hcall hM6
          go_wp2_with fail
          go_roundw
          case rel => exact ⟨k + 1, ops, d, by omega, by go_num, rfl, hD6, hR.next, hx6⟩
          case measure => simp [intOf]; omega
        · have hcall := append_any w0.heap.size d (some ⟨wr.heap.size, 0, none⟩) 70 70 (zeros8 70) _ (hD.ext ((Ext.refl wr).alloc (.cells (madeB 70) 5))) (made_bytes wr 70 (by omega)) (zeros8_lt 70) (Nat.le_refl _) (by unfold maxLen; omega)
          rw [dead_append hd (zeros8 70)] at hcall
          simp only at hcall
          go_wp2_with fail
          refine (dead_val hD hd).mono ?_
          rintro e w4 ⟨rfl, rfl⟩
          go_wp2_with fail
          refine (hwop _).mono ?_
          rintro e w5 ⟨rfl, rfl⟩
          go_wp2_with fail
          refine (hwop _).mono ?_
          rintro e w5' ⟨rfl, rfl⟩
          go_wp2_with fail
          refine hcall.mono ?_
          rintro e w6 ⟨rfl, hD6, hM6⟩
          have hx6 : Ext w0 w6 := (her.alloc _).mut hM6 (Nat.le_refl _)
          clear hcall hM6
          go_wp2_with fail
          go_roundw
          case rel => exact ⟨k + 1, ops, d, by omega, by go_num, rfl, hD6, hR.next, hx6⟩
          case measure => simp [intOf]; omega
        · have hcall := cut_any w0.heap.size d 99 wr hD
          rw [dead_cut hd 99] at hcall
          simp only at hcall
          go_wp2_with fail
          refine (dead_val hD hd).mono ?_
          rintro e w4 ⟨rfl, rfl⟩
          go_wp2_with fail
          refine (hwop _).mono ?_
          rintro e w5 ⟨rfl, rfl⟩
          go_wp2_with fail
          refine (hwop _).mono ?_
          rintro e w5' ⟨rfl, rfl⟩
          go_wp2_with fail
          refine hcall.mono ?_
          rintro e w6 ⟨rfl, hD6, hM6⟩
          have hx6 : Ext w0 w6 := her.mut hM6 (Nat.le_refl _)
          clear hcall hM6
          go_wp2_with fail
          go_roundw
          case rel => exact ⟨k + 1, ops, d, by omega, by go_num, rfl, hD6, hR.next, hx6⟩
          case measure => simp [intOf]; omega
    · have hfin : ∀ (W : World), DiskAt W w0.heap.size d → Ext w0 W → True := fun _ _ _ => trivial
      clear hfin
      have hcr := crash_any w0.heap.size d 0 wr hD
      obtain ⟨cl1, cl2⟩ := crash_live d
      by_cases g1 : k < n1
      · have g2 : ¬ k < 30 := by omega
        have hkd : ¬ (k : Int) < 30 := by omega
        clear hlt
        go_wp2_with fail
        refine hcr.mono ?_
        rintro e w5 ⟨rfl, hD5, hM5⟩
        have hx5 : Ext w0 w5 := her.mut hM5 (Nat.le_refl _)
        have hsy := sync_any w0.heap.size (d.crash 0) w5 hD5
        rw [cl2] at hsy
        clear hcr
        go_wp2_with fail
        refine (dead_val hD5 cl1).mono ?_
        rintro e w6 ⟨rfl, rfl⟩
        go_wp2_with fail
        refine hsy.mono ?_
        rintro e w7 ⟨rfl, hD7, hM7⟩
        go_wp2_with fail
        go_ret
        exact ⟨rfl, hx0.trans (hx5.mut hM7 (Nat.le_refl _))⟩
      · clear hlt
        go_wp2_with fail
        refine hcr.mono ?_
        rintro e w5 ⟨rfl, hD5, hM5⟩
        have hx5 : Ext w0 w5 := her.mut hM5 (Nat.le_refl _)
        have hsy := sync_any w0.heap.size (d.crash 0) w5 hD5
        rw [cl2] at hsy
        clear hcr
        go_wp2_with fail
        refine (dead_val hD5 cl1).mono ?_
        rintro e w6 ⟨rfl, rfl⟩
        go_wp2_with fail
        refine hsy.mono ?_
        rintro e w7 ⟨rfl, hD7, hM7⟩
        go_wp2_with fail
        go_ret
        exact ⟨rfl, hx0.trans (hx5.mut hM7 (Nat.le_refl _))⟩
end Go.Proofs.Ytpgndejmhegklaa
