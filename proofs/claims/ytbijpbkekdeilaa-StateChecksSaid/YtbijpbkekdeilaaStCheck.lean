/- Check of package state, and the document's: the same number, for any accounts. -/
import Derived.Test.YtbijpbkekdeilaaStKnown
import Derived.Test.YtbijpbkekdeilaaMapInt
namespace Go.Proofs.Ytbijpbkekdeilaa
set_option linter.unusedVariables false
open Go.RowKit

def lateB (p : Option Int) (i : Int) : Bool := match p with | none => false | some q => decide (i ≤ q)
/-- What is wrong with accounts behind one whose Id is p (if there is one), of so much money. -/
def chk (p : Option Int) (sum : Int) : List Acc → Int
  | [] => 0
  | a :: r =>
    if a.id < 0 ∨ 256 ≤ a.id then 1
    else if lateB p a.id = true then 7
    else if a.bal < 0 ∨ 1125899906842624 < a.bal ∨ a.non < 0 ∨ 1073741824 < a.non ∨ noneB a.bal a.non a.dat = true then 11
    else if 1125899906842624 < sum + a.bal then 13
    else chk (some a.id) (sum + a.bal) r
def prevOf (l : List Acc) (k : Nat) : Option Int := match k with | 0 => none | j + 1 => (l[j]?).map Acc.id

theorem prevOf_succ (l : List Acc) (k : Nat) (h : k < l.length) : prevOf l (k + 1) = some (l[k]).id := by simp [prevOf, h]
theorem chk_at (l : List Acc) (k : Nat) (h : k < l.length) (p : Option Int) (sum : Int) : chk p sum (l.drop k) =
    if (l[k]).id < 0 ∨ 256 ≤ (l[k]).id then 1
    else if lateB p (l[k]).id = true then 7
    else if (l[k]).bal < 0 ∨ 1125899906842624 < (l[k]).bal ∨ (l[k]).non < 0 ∨ 1073741824 < (l[k]).non ∨ noneB (l[k]).bal (l[k]).non (l[k]).dat = true then 11
    else if 1125899906842624 < sum + (l[k]).bal then 13
    else chk (some (l[k]).id) (sum + (l[k]).bal) (l.drop (k + 1)) := by
  rw [List.drop_eq_getElem_cons h]; rfl

/-- Where a check stands behind k accounts that may be. -/
structure At8 (l : List Acc) (k : Nat) (sum : Int) : Prop where
  le : k ≤ l.length
  lo : 0 ≤ sum
  hi : sum ≤ 1125899906842624
  eq : Hid (chk none 0 l = chk (prevOf l k) sum (l.drop k))
  inc : Hid (∀ (j : Nat) (hj : j < k) (hl : j < l.length), ∀ q, prevOf l k = some q → (l[j]).id ≤ q)
theorem At8.start (l : List Acc) : At8 l 0 0 := ⟨by omega, by omega, by omega, Lib.hid rfl, Lib.hid (fun j hj => absurd hj (by omega))⟩
/-- What one account says. -/
structure Say8 (l : List Acc) (k : Nat) (sum : Int) (a : Acc) : Prop where
  arg : (a.id < 0 ∨ 256 ≤ a.id) → chk none 0 l = 1
  is : 0 ≤ a.id → a.id < 256 → ∀ q, prevOf l k = some q → a.id ≤ q → chk none 0 l = 7
  over : 0 ≤ a.id → a.id < 256 → (∀ q, prevOf l k = some q → q < a.id) → (a.bal < 0 ∨ 1125899906842624 < a.bal ∨ a.non < 0 ∨ 1073741824 < a.non) → chk none 0 l = 11
  no : 0 ≤ a.id → a.id < 256 → (∀ q, prevOf l k = some q → q < a.id) → noneB a.bal a.non a.dat = true → chk none 0 l = 11
  funds : 0 ≤ a.id → a.id < 256 → (∀ q, prevOf l k = some q → q < a.id) → 0 ≤ a.bal → a.bal ≤ 1125899906842624 → 0 ≤ a.non → a.non ≤ 1073741824 → noneB a.bal a.non a.dat = false → 1125899906842624 < sum + a.bal → chk none 0 l = 13
  on : 0 ≤ a.id → a.id < 256 → (∀ q, prevOf l k = some q → q < a.id) → 0 ≤ a.bal → a.bal ≤ 1125899906842624 → 0 ≤ a.non → a.non ≤ 1073741824 → noneB a.bal a.non a.dat = false → sum + a.bal ≤ 1125899906842624 → At8 l (k + 1) (sum + a.bal)
theorem At8.say {l : List Acc} {k : Nat} {sum : Int} (h : At8 l k sum) (hk : k < l.length) : Say8 l k sum l[k] := by
  have e := h.eq.out.trans (chk_at l k hk (prevOf l k) sum)
  have np : (∀ q, prevOf l k = some q → q < (l[k]).id) → ¬ (lateB (prevOf l k) (l[k]).id = true) := fun hq hm => by
    cases hp : prevOf l k with
    | none => rw [hp] at hm; cases hm
    | some q => rw [hp] at hm; have := hq q hp; simp [lateB] at hm; omega
  refine ⟨fun c => ?_, fun h1 h2 q hq hle => ?_, fun h1 h2 hq c => ?_, fun h1 h2 hq c => ?_, fun h1 h2 hq b1 b2 b3 b4 b5 c => ?_, fun h1 h2 hq b1 b2 b3 b4 b5 c => ?_⟩
  · rw [e, if_pos c]
  · rw [e, if_neg (by omega), if_pos (by rw [hq]; simpa [lateB] using hle)]
  · rw [e, if_neg (by omega), if_neg (np hq), if_pos (by rcases c with c | c | c | c <;> simp [c])]
  · rw [e, if_neg (by omega), if_neg (np hq), if_pos (by simp [c])]
  · rw [e, if_neg (by omega), if_neg (np hq), if_neg (by rw [b5]; simp; omega), if_pos c]
  · refine ⟨by omega, by have := h.lo; omega, c, ?_, Lib.hid fun j hj hl q hq' => ?_⟩
    · rw [prevOf_succ l k hk]
      exact Lib.hid (by rw [e, if_neg (by omega), if_neg (np hq), if_neg (by rw [b5]; simp; omega), if_neg (by omega)])
    · rw [prevOf_succ l k hk] at hq'
      injection hq' with hq'
      subst hq'
      rcases Nat.lt_succ_iff_lt_or_eq.1 hj with hj | rfl
      · cases k with
        | zero => omega
        | succ m =>
          have hm : m < l.length := by omega
          have h1 := h.inc.out j hj hl _ (prevOf_succ l m hm)
          have h2 := hq _ (prevOf_succ l m hm)
          omega
      · exact Int.le_refl _

theorem at8_new {l : List Acc} {k : Nat} {sum : Int} (h : At8 l k sum) (hk : k < l.length) (hq : ∀ q, prevOf l k = some q → q < (l[k]).id) {f : Int → Int} (hf : ∀ x, (∀ (j : Nat) (hl : j < l.length), j < k → (l[j]).id < x) → f x = 0) : f (l[k]).id = 0 := by
  refine hf _ fun j hl hj => ?_
  cases k with
  | zero => omega
  | succ m =>
    have hm : m < l.length := by omega
    have h1 := h.inc.out j hj hl _ (prevOf_succ l m hm)
    have h2 := hq _ (prevOf_succ l m hm)
    omega

theorem chk_fine (l : List Acc) (hs : Sorted l) (hi : ∀ a ∈ l, 0 ≤ a.id ∧ a.id < 256) (hn : ∀ a ∈ l, nn a = false) (hb : ∀ a ∈ l, 0 ≤ a.bal ∧ a.bal ≤ 1125899906842624 ∧ 0 ≤ a.non ∧ a.non ≤ 1073741824) (p : Option Int) (sum : Int)
    (hp : ∀ q, p = some q → ∀ a ∈ l, q < a.id) (hsum : sum + totL l ≤ 1125899906842624) : chk p sum l = 0 := by
  induction l generalizing p sum with
  | nil => rfl
  | cons a r ih =>
    have h1 := hi a (by simp)
    have h2 := hn a (by simp)
    have h3 := hb a (by simp)
    have hc := List.pairwise_cons.1 hs
    have ht : 0 ≤ totL r := by
      have : ∀ r : List Acc, (∀ a ∈ r, 0 ≤ a.bal) → 0 ≤ totL r := fun r => by
        induction r with
        | nil => intro; simp [totL]
        | cons b r ih => intro h; have := ih (fun x hx => h x (by simp [hx])); have := h b (by simp); simp only [totL, List.map_cons, List.sum_cons] at *; omega
      exact this r (fun x hx => (hb x (by simp [hx])).1)
    have hl : lateB p a.id = false := by
      cases p with
      | none => rfl
      | some q => have := hp q rfl a (by simp); simp [lateB]; omega
    simp only [totL, List.map_cons, List.sum_cons] at hsum ht
    simp only [nn] at h2
    simp only [chk]
    rw [if_neg (by omega), hl, if_neg (by simp), h2, if_neg (by simp; omega), if_neg (by omega)]
    exact ih hc.2 (fun x hx => hi x (by simp [hx])) (fun x hx => hn x (by simp [hx])) (fun x hx => hb x (by simp [hx])) _ _ (fun q hq x hx => by injection hq with hq; subst hq; exact hc.1 x hx) (by simp only [totL]; omega)

set_option maxRecDepth 100000 in
set_option maxHeartbeats 4000000 in
theorem check_any (A : Option Addr) (n c : Nat) (l : List Acc) (w : World) (hs : St w A n l) (hn : n ≤ 1000000) (hwf : ∀ a ∈ l, (Lit.int .i64 a.id).wf = true) :
    Calls Try.prog 28 #[.slice A n c] w fun e w' => e = .returned (.int .i64 (chk none 0 l)) ∧ Ext w w' := by
  have hp := hs.at_
  obtain ⟨rfl, -⟩ := hs
  have hmm := @run_makeMap Try.prog
  go_enter Try.func28, Try.ntmps28
  go_wp2_with fail
  go_loopw [4, 10] (fun s i wr => ∃ (k : Nat) (sum : Int) (f : Int → Int), i = .int .i64 k ∧ s = .int .i64 sum ∧ At8 l k sum ∧ Ext w wr ∧ Cnt wr w.heap.size k f ∧ Hid (∀ x, (0 ≤ f x ∧ f x ≤ k) ∧ ((∀ (j : Nat) (hl : j < l.length), j < k → (l[j]).id < x) → f x = 0))) (fun _ i _ => l.length - (intOf i).toNat)
  case atStart => exact ⟨0, 0, _, rfl, rfl, At8.start l, (Ext.refl w).alloc _, Cnt.made w, Lib.hid (fun _ => ⟨by simp, fun _ => rfl⟩)⟩
  case round =>
    obtain ⟨k, sum, f, rfl, rfl, hA, he, hC, hF⟩ := hrel
    have hle := hA.le
    have hs0 := hA.lo
    have hs1 := hA.hi
    by_cases hlt : k < l.length
    · obtain ⟨bb, oo, rfl, hbb, c0, c1, c2, c3⟩ := hp k hlt
      have hSay := hA.say hlt
      have hw := hwf l[k] (List.getElem_mem hlt)
      have hnew := fun hq => at8_new hA hlt hq (fun x hx => (hF.out x).2 hx)
      have hfb := (hF.out l[k].id).1
      have hprev : Hid (∀ j, k = j + 1 → ∃ (hj : j < l.length), prevOf l k = some (l[j]).id) := Lib.hid fun j hj => ⟨by omega, by subst hj; exact prevOf_succ l j (by omega)⟩
      have d0 := he.cell c0
      have d1 := he.cell c1
      have d2 := he.cell c2
      have d3 := he.cell c3
      have hbr := he.lt hbb
      have hBlt : w.heap.size < wr.heap.size := hC.lt
      have hgrow : Hid (∀ f' : Int → Int, (∀ x, f' x = if x = l[k].id then f l[k].id + 1 else f x) → ∀ x, (0 ≤ f' x ∧ f' x ≤ ((k + 1 : Nat) : Int)) ∧ ((∀ (j : Nat) (hl : j < l.length), j < k + 1 → (l[j]).id < x) → f' x = 0)) := Lib.hid fun f' hf' x => by
        have h1 := hF.out x
        have h2 := hF.out l[k].id
        rw [hf' x]
        by_cases hx : x = l[k].id
        · rw [if_pos hx]
          exact ⟨by omega, fun h => by have := h k hlt (by omega); omega⟩
        · rw [if_neg hx]
          exact ⟨by omega, fun h => h1.2 (fun j hl hj => h j hl (by omega))⟩
      have Hp := Lib.hid hp
      clear hp hF hwf c0 c1 c2 c3 hA
      generalize l[k] = a at *
      obtain ⟨ai, ab, an, ad⟩ := a
      simp only at d0 d1 d2 d3 hw hnew hfb hgrow hSay
      obtain ⟨hf0, hf1⟩ := hfb
      have hC2 := hC.ext ((Ext.refl wr).alloc (.cells #[.int .i64 ai, .int .i64 ab, .int .i64 an, .int .i64 ad] 29))
      have hlk := hC2.look ai hw
      have hw2 : (Lit.int .i64 (f ai + 1)).wf = true := WalkArith.wf_i64 (by omega)
      have hkm : k < maxLen := by unfold maxLen; omega
      have Hnew := Lib.hid hnew
      clear hnew
      go_wp2_with (at_mapUpdate; refine wpList_cnt_store rfl (.tmp 15) (.tmp 17) (.tmp 19) rfl rfl hC2 hkm _ _ rfl rfl hw hw2 ?_)
      intro w2 hC3 hg3
      have he3 : Ext w w2 := (he.alloc _).grown hg3 (fun j h => by injection h with h; omega)
      have hne : ∀ j : Nat, some (⟨wr.heap.size, j, none⟩ : Addr).block ≠ some w.heap.size := fun j h => by injection h with h; simp only at h; omega
      have e0 := hg3.cell (box_cell wr #[.int .i64 ai, .int .i64 ab, .int .i64 an, .int .i64 ad] 29 0 _ rfl) (hne 0)
      have e1 := hg3.cell (box_cell wr #[.int .i64 ai, .int .i64 ab, .int .i64 an, .int .i64 ad] 29 1 _ rfl) (hne 1)
      have e2 := hg3.cell (box_cell wr #[.int .i64 ai, .int .i64 ab, .int .i64 an, .int .i64 ad] 29 2 _ rfl) (hne 2)
      have e3 := hg3.cell (box_cell wr #[.int .i64 ai, .int .i64 ab, .int .i64 an, .int .i64 ad] 29 3 _ rfl) (hne 3)
      have hF3 := Lib.hid (hgrow.out _ (fun _ => rfl))
      have hlk3 := hC3.looks ai hw
      simp only [if_true] at hlk3
      have Hlk3 := Lib.hid hlk3
      clear hlk3 hlk hne d0 d1 d2 d3 hC2 hC hgrow hg3
      by_cases harg : ai < 0 ∨ 256 ≤ ai
      · rcases harg with harg | harg
        · go_wp2_with fail
          go_ret
          exact ⟨ret_int (hSay.arg (.inl harg)).symm, he3⟩
        · have h0 : ¬ ai < 0 := by omega
          go_wp2_with fail
          go_ret
          exact ⟨ret_int (hSay.arg (.inr harg)).symm, he3⟩
      have h1 : 0 ≤ ai := by omega
      have h2 : ai < 256 := by omega
      clear harg
      rcases Nat.eq_zero_or_pos k with hk0 | hk0
      · subst hk0
        have hq : Hid (∀ q, prevOf l 0 = some q → q < ai) := Lib.hid (fun q h => by cases h)
        have hf9 := Hnew.out hq.out
        have hlk9 := Hlk3.out
        rw [hf9] at hlk9
        simp only [Int.zero_add] at hlk9
        have hd9 : decide ((1 : Int) > 1) = false := rfl
        have hd8 : decide ((0 : Int) > 0) = false := rfl
        clear hprev
        go_wp2_with fail
        go_quiet (fail)
        have hnn := fun w' => none_any ai ab an ad w'
        by_cases hfine : 0 ≤ ab ∧ ab ≤ 1125899906842624 ∧ 0 ≤ an ∧ an ≤ 1073741824
        · obtain ⟨n1, n2, n3, n4⟩ := hfine
          cases hnb : noneB ab an ad
          · have Hnb := Lib.hid hnb
            rw [hnb] at hnn
            clear hnb
            by_cases hsum : 1125899906842624 < sum + ab
            · go_wp2_with (go_at_call 42; refine (hnn _).mono ?_; rintro e w5 ⟨rfl, he5⟩; have k1 : w5.cell? ⟨wr.heap.size, 1, none⟩ = some (.int .i64 ab) := Ext.cell he5 e1)
              go_ret
              exact ⟨ret_int (Eq.symm (hSay.funds h1 h2 hq.out n1 n2 n3 n4 Hnb.out hsum)), (he3.drewN _).trans he5⟩
            · have hsum' : sum + ab ≤ 1125899906842624 := by omega
              go_wp2_with (go_at_call 42; refine (hnn _).mono ?_; rintro e w5 ⟨rfl, he5⟩; have k1 : w5.cell? ⟨wr.heap.size, 1, none⟩ = some (.int .i64 ab) := Ext.cell he5 e1)
              go_roundw
              case rel => exact ⟨0 + 1, _, _, by go_num, rfl, hSay.on h1 h2 hq.out n1 n2 n3 n4 Hnb.out hsum', (he3.drewN _).trans he5, hC3.ext (((Ext.refl _).drewN _).trans he5), hF3⟩
              case measure => simp [intOf]; omega
          · have Hnb := Lib.hid hnb
            rw [hnb] at hnn
            clear hnb
            go_wp2_with (go_at_call 42; refine (hnn _).mono ?_; rintro e w5 ⟨rfl, he5⟩; have k1 : w5.cell? ⟨wr.heap.size, 1, none⟩ = some (.int .i64 ab) := Ext.cell he5 e1)
            go_ret
            exact ⟨ret_int (Eq.symm (hSay.no h1 h2 hq.out Hnb.out)), (he3.drewN _).trans he5⟩
        · have hov : ab < 0 ∨ 1125899906842624 < ab ∨ an < 0 ∨ 1073741824 < an := by omega
          have Hov := Lib.hid (hSay.over h1 h2 hq.out hov)
          clear hfine hnn
          rcases hov with hov | hov | hov | hov
          · go_wp2_with fail
            go_ret
            exact ⟨ret_int Hov.out.symm, he3.drewN _⟩
          · have g1 : 0 ≤ ab := by omega
            go_wp2_with fail
            go_ret
            exact ⟨ret_int Hov.out.symm, he3.drewN _⟩
          · by_cases g1 : ab < 0
            · go_wp2_with fail
              go_ret
              exact ⟨ret_int Hov.out.symm, he3.drewN _⟩
            · by_cases g2 : 1125899906842624 < ab
              · go_wp2_with fail
                go_ret
                exact ⟨ret_int Hov.out.symm, he3.drewN _⟩
              · go_wp2_with fail
                go_ret
                exact ⟨ret_int Hov.out.symm, he3.drewN _⟩
          · by_cases g1 : ab < 0
            · go_wp2_with fail
              go_ret
              exact ⟨ret_int Hov.out.symm, he3.drewN _⟩
            · by_cases g2 : 1125899906842624 < ab
              · go_wp2_with fail
                go_ret
                exact ⟨ret_int Hov.out.symm, he3.drewN _⟩
              · have g3 : 0 ≤ an := by omega
                go_wp2_with fail
                go_ret
                exact ⟨ret_int Hov.out.symm, he3.drewN _⟩
      · obtain ⟨j, rfl⟩ : ∃ j, k = j + 1 := ⟨k - 1, by omega⟩
        obtain ⟨hj, hpv⟩ := hprev.out j rfl
        obtain ⟨b2, o2, hA2, _, f0, _, _, _⟩ := Hp.out j hj
        simp only [Option.some.injEq, Addr.mk.injEq, and_true] at hA2
        obtain ⟨rfl, rfl⟩ := hA2
        have g0 := he3.cell f0
        have hbr3 := he3.lt hbb
        have hd1 : IntKind.i64.wrap ((j : Int) + 1 - 1) = (j : Int) := by rw [IntWalk.i64_in _ (by omega)]; omega
        clear f0 hprev hk0
        by_cases hle2 : ai ≤ l[j].id
        · have h7 := hSay.is h1 h2 _ hpv hle2
          have H7 := Lib.hid h7
          have hge : decide (l[j].id ≥ ai) = true := by simpa using hle2
          have hd : decide ((0 : Int) < ((j : Int) + 1)) = true := by simp only [decide_eq_true_eq]; omega
          clear h7 hpv
          go_wp2_with fail
          go_quiet (fail)
          go_wp2_with fail
          go_ret
          exact ⟨ret_int H7.out.symm, he3.drewN _⟩
        · have hq : Hid (∀ q, prevOf l (j + 1) = some q → q < ai) := Lib.hid (fun q h => by rw [hpv] at h; injection h with h; omega)
          have hf9 := Hnew.out hq.out
          have hlk9 := Hlk3.out
          rw [hf9] at hlk9
          simp only [Int.zero_add] at hlk9
          have hge : decide (l[j].id ≥ ai) = false := by simp; omega
          have hd9 : decide ((1 : Int) > 1) = false := rfl
          have hd : decide ((0 : Int) < ((j : Int) + 1)) = true := by simp only [decide_eq_true_eq]; omega
          clear hpv
          go_wp2_with fail
          go_quiet (fail)
          have hnn := fun w' => none_any ai ab an ad w'
          by_cases hfine : 0 ≤ ab ∧ ab ≤ 1125899906842624 ∧ 0 ≤ an ∧ an ≤ 1073741824
          · obtain ⟨n1, n2, n3, n4⟩ := hfine
            cases hnb : noneB ab an ad
            · have Hnb := Lib.hid hnb
              rw [hnb] at hnn
              clear hnb
              by_cases hsum : 1125899906842624 < sum + ab
              · go_wp2_with (go_at_call 42; refine (hnn _).mono ?_; rintro e w5 ⟨rfl, he5⟩; have k1 : w5.cell? ⟨wr.heap.size, 1, none⟩ = some (.int .i64 ab) := Ext.cell he5 e1)
                go_ret
                exact ⟨ret_int (Eq.symm (hSay.funds h1 h2 hq.out n1 n2 n3 n4 Hnb.out hsum)), (he3.drewN _).trans he5⟩
              · have hsum' : sum + ab ≤ 1125899906842624 := by omega
                go_wp2_with (go_at_call 42; refine (hnn _).mono ?_; rintro e w5 ⟨rfl, he5⟩; have k1 : w5.cell? ⟨wr.heap.size, 1, none⟩ = some (.int .i64 ab) := Ext.cell he5 e1)
                go_roundw
                case rel => exact ⟨j + 1 + 1, _, _, by go_num, rfl, hSay.on h1 h2 hq.out n1 n2 n3 n4 Hnb.out hsum', (he3.drewN _).trans he5, hC3.ext (((Ext.refl _).drewN _).trans he5), hF3⟩
                case measure => simp [intOf]; omega
            · have Hnb := Lib.hid hnb
              rw [hnb] at hnn
              clear hnb
              go_wp2_with (go_at_call 42; refine (hnn _).mono ?_; rintro e w5 ⟨rfl, he5⟩; have k1 : w5.cell? ⟨wr.heap.size, 1, none⟩ = some (.int .i64 ab) := Ext.cell he5 e1)
              go_ret
              exact ⟨ret_int (Eq.symm (hSay.no h1 h2 hq.out Hnb.out)), (he3.drewN _).trans he5⟩
          · have hov : ab < 0 ∨ 1125899906842624 < ab ∨ an < 0 ∨ 1073741824 < an := by omega
            have Hov := Lib.hid (hSay.over h1 h2 hq.out hov)
            clear hfine hnn
            rcases hov with hov | hov | hov | hov
            · go_wp2_with fail
              go_ret
              exact ⟨ret_int Hov.out.symm, he3.drewN _⟩
            · have g1 : 0 ≤ ab := by omega
              go_wp2_with fail
              go_ret
              exact ⟨ret_int Hov.out.symm, he3.drewN _⟩
            · by_cases g1 : ab < 0
              · go_wp2_with fail
                go_ret
                exact ⟨ret_int Hov.out.symm, he3.drewN _⟩
              · by_cases g2 : 1125899906842624 < ab
                · go_wp2_with fail
                  go_ret
                  exact ⟨ret_int Hov.out.symm, he3.drewN _⟩
                · go_wp2_with fail
                  go_ret
                  exact ⟨ret_int Hov.out.symm, he3.drewN _⟩
            · by_cases g1 : ab < 0
              · go_wp2_with fail
                go_ret
                exact ⟨ret_int Hov.out.symm, he3.drewN _⟩
              · by_cases g2 : 1125899906842624 < ab
                · go_wp2_with fail
                  go_ret
                  exact ⟨ret_int Hov.out.symm, he3.drewN _⟩
                · have g3 : 0 ≤ an := by omega
                  go_wp2_with fail
                  go_ret
                  exact ⟨ret_int Hov.out.symm, he3.drewN _⟩
    · clear hp
      have hk : k = l.length := by omega
      have heq := hA.eq.out
      rw [hk, List.drop_length] at heq
      have Heq := Lib.hid heq
      clear hk heq
      go_wp2_with fail
      go_ret
      exact ⟨ret_int Heq.out.symm, he⟩
end Go.Proofs.Ytbijpbkekdeilaa
