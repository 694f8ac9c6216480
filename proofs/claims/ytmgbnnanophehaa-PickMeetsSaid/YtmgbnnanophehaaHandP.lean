/- Contracts of pick.upto and its closure, over seat a. -/
import Derived.Test.YtmgbnnanophehaaDelP
import Derived.Test.YtmgbnnanophehaaPx2
import Derived.Test.YtmgbnnanophehaaPx5
import Derived.Laws.EntriesVeiled
import Derived.Lib.Hide
import Derived.Deep.LoopGhost
import Derived.Shelf.Abstract
open Go.Proofs Go.Proofs.Ytmgbnnanophehaa.Two
namespace Go.Proofs.Ytmgbnnanophehaa.P
open Go.RowKit Go.Proofs.YtmgbnnanophehaaW.PrintWords Go.Proofs.YtmgbnnanophehaaW.PrintLast Go.Proofs.YtmgbnnanophehaaW.PrintMore
set_option linter.unusedVariables false
set_option linter.unusedSimpArgs false

set_option maxHeartbeats 1000000 in
theorem upto_clo (bl bt : Nat) (A : Option Addr) (c : Nat) (l : List S29) (t : Int) (i : Int) (W : World) (h0 : 0 ≤ i) (hi : i < l.length)
    (hl : W.cell? ⟨bl, 0, none⟩ = some (.slice A l.length c)) (ht : W.cell? ⟨bt, 0, none⟩ = some (.int .i64 t)) (hC : Kd.C k29 W A l.length l) :
    Calls Try.prog 44 #[.int .i64 i, .pointer (some ⟨bl, 0, none⟩), .pointer (some ⟨bt, 0, none⟩)] W fun e w' =>
      e = .returned (.bool (decide (t < (rd_T29 l i).f0))) ∧ ∃ q, w' = W.drewN q := by
  obtain ⟨ad, rfl, hx0, hx1⟩ := at_T29 hC i h0 hi
  clear hC
  go_enter Try.func44, Try.ntmps44
  go_wp2
  go_quiet (fail)
  go_wp2
  go_ret
  exact ⟨rfl, _, rfl⟩

/-- How many of the points have times that are at most t. -/
def upN (l : List S29) (t : Int) : Nat := l.countP (fun x => decide (x.f0 ≤ t))
theorem rdP_at (l : List S29) (i : Nat) (h : i < l.length) : rd_T29 l (i : Int) = l[i] := by
  simp [rd_T29, List.getD_eq_getElem?_getD, List.getElem?_eq_getElem h]
theorem countP_at {α : Type} (p : α → Bool) (l : List α) (k : Nat) (hk : k ≤ l.length) (h1 : ∀ i (h : i < l.length), i < k → p l[i] = true) (h2 : ∀ i (h : i < l.length), k ≤ i → p l[i] = false) : l.countP p = k := by
  have e := List.take_append_drop k l
  rw [← e, List.countP_append]
  have a : (l.take k).countP p = (l.take k).length := by
    rw [List.countP_eq_length]
    intro x hx
    obtain ⟨i, hi, rfl⟩ := List.mem_iff_getElem.1 hx
    rw [List.length_take] at hi
    rw [List.getElem_take]
    exact h1 i (by omega) (by omega)
  have b : (l.drop k).countP p = 0 := by
    rw [List.countP_eq_zero]
    intro x hx
    obtain ⟨i, hi, rfl⟩ := List.mem_iff_getElem.1 hx
    rw [List.length_drop] at hi
    rw [List.getElem_drop, h2 (k + i) (by omega) (by omega)]
    simp
  rw [a, b, List.length_take]
  omega
/-- Times that rise. -/
def Rise (l : List S29) : Prop := l.Pairwise (fun a b => a.f0 < b.f0)
instance (l : List S29) : Decidable (Rise l) := inferInstanceAs (Decidable (l.Pairwise _))
theorem Rise.at_ {l : List S29} (h : Rise l) (i j : Nat) (hi : i < l.length) (hj : j < l.length) (hij : i < j) : l[i].f0 < l[j].f0 := List.pairwise_iff_getElem.1 h i j hi hj hij
theorem upN_of (l : List S29) (t : Int) (k : Nat) (hk : k ≤ l.length) (h1 : ∀ i : Nat, i < k → (rd_T29 l i).f0 ≤ t) (h2 : ∀ i : Nat, k ≤ i → i < l.length → t < (rd_T29 l i).f0) : upN l t = k := by
  refine countP_at _ l k hk (fun i h hi => ?_) (fun i h hi => ?_)
  · have := h1 i hi; rw [rdP_at l i h] at this; simpa using this
  · have := h2 i hi h; rw [rdP_at l i h] at this; simpa using this

set_option maxHeartbeats 1000000 in
theorem search_clo (bl bt : Nat) (A : Option Addr) (c : Nat) (l : List S29) (t : Int) (w : World) (hR : Rise l) (hsz : l.length < 4611686018427387904)
    (hl : w.cell? ⟨bl, 0, none⟩ = some (.slice A l.length c)) (ht : w.cell? ⟨bt, 0, none⟩ = some (.int .i64 t)) (hC : Kd.C k29 w A l.length l) :
    Calls Try.prog 43 #[.int .i64 l.length, .func (.func 44) #[] #[.pointer (some ⟨bl, 0, none⟩), .pointer (some ⟨bt, 0, none⟩)]] w fun e w' =>
      e = .returned (.int .i64 (upN l t : Nat)) ∧ ∃ q, w' = w.drewN q := by
  have eg : ∀ args w, (callFunc 44 args).run Try.prog w = .ok (.enter 44 args) w := enters_of Try.func44 (by kernel_rfl) rfl
  have HR : Aside0 (Rise l) := ⟨hR⟩
  have HL : Aside0 (w.cell? ⟨bl, 0, none⟩ = some (.slice A l.length c)) := ⟨hl⟩
  have HT : Aside0 (w.cell? ⟨bt, 0, none⟩ = some (.int .i64 t)) := ⟨ht⟩
  have HC : Aside0 (Kd.C k29 w A l.length l) := ⟨hC⟩
  clear hR hl ht hC
  go_enter Try.func43, Try.ntmps43
  go_wp2
  go_loopg [5, 6] l.length (fun kx s5 s6 wr => ∃ (lo hi q : Nat), s5 = .int .i64 lo ∧ s6 = .int .i64 hi ∧ lo ≤ hi ∧ hi ≤ l.length ∧ hi - lo ≤ kx ∧ wr = w.drewN q ∧
    Aside0 ((∀ i : Nat, i < lo → (rd_T29 l i).f0 ≤ t) ∧ (∀ i : Nat, hi ≤ i → i < l.length → t < (rd_T29 l i).f0)))
  case atStart => exact ⟨0, l.length, 0, rfl, rfl, Nat.zero_le _, Nat.le_refl _, by omega, rfl, ⟨fun i hi => by omega, fun i h1 h2 => by omega⟩⟩
  case round =>
    obtain ⟨lo, hi, q, rfl, rfl, hlh, hin, hg, rfl, I⟩ := hrel
    by_cases hlt : lo < hi
    · have hm : Aside0 ((lo + hi) / 2 < l.length) := ⟨by omega⟩
      obtain ⟨m, hmm⟩ : ∃ m, m = (lo + hi) / 2 := ⟨_, rfl⟩
      have hb : lo ≤ m ∧ m < hi := by omega
      have hc := upto_clo bl bt A c l t m (w.drewN q) (by omega) (by omega) HL.out HT.out (Kd.C_drewN HC.out q)
      rw [show (m : Int) = ((lo : Int) + (hi : Int)) / 2 by omega] at hc
      have hr : rd_T29 l (((lo : Int) + (hi : Int)) / 2) = rd_T29 l m := by rw [show (m : Int) = ((lo : Int) + (hi : Int)) / 2 by omega]
      rw [hr] at hc
      have MM : Aside0 (m = (lo + hi) / 2) := ⟨hmm⟩
      clear hr hmm
      by_cases hp : t < (rd_T29 l m).f0
      · rw [decide_eq_true hp] at hc
        have HP : Aside0 (t < (rd_T29 l m).f0) := ⟨hp⟩
        clear hp
        go_wp2_with (go_at_call 44; refine hc.mono ?_; rintro e w' ⟨rfl, nq, rfl⟩)
        go_roundg (m - lo)
        case measure => omega
        case rel =>
          have em := MM.out
          have I2 : Aside0 ((∀ i : Nat, i < lo → (rd_T29 l i).f0 ≤ t) ∧ (∀ i : Nat, m ≤ i → i < l.length → t < (rd_T29 l i).f0)) := ⟨I.out.1, fun i h1 h2 => by
            have h3 := HP.out
            rcases Nat.lt_or_ge m i with h | h
            · have := HR.out.at_ m i (by omega) h2 h
              rw [rdP_at l i h2]; rw [rdP_at l m (by omega)] at h3; omega
            · obtain rfl : i = m := by omega
              exact h3⟩
          exact ⟨lo, m, q + nq, rfl, by rw [show ((lo : Int) + (hi : Int)) / 2 = ((m : Nat) : Int) by omega], by omega, by omega, Nat.le_refl _, rfl, I2⟩
      · rw [decide_eq_false hp] at hc
        have HP : Aside0 (¬ t < (rd_T29 l m).f0) := ⟨hp⟩
        clear hp
        go_wp2_with (go_at_call 44; refine hc.mono ?_; rintro e w' ⟨rfl, nq, rfl⟩)
        go_roundg (hi - (m + 1))
        case measure => omega
        case rel =>
          have em := MM.out
          have I2 : Aside0 ((∀ i : Nat, i < m + 1 → (rd_T29 l i).f0 ≤ t) ∧ (∀ i : Nat, hi ≤ i → i < l.length → t < (rd_T29 l i).f0)) := ⟨fun i h1 => by
            have h3 := HP.out
            rcases Nat.lt_or_ge i m with h | h
            · have := HR.out.at_ i m (by omega) (by omega) h
              rw [rdP_at l i (by omega)]; rw [rdP_at l m (by omega)] at h3; omega
            · obtain rfl : i = m := by omega
              omega, I.out.2⟩
          exact ⟨m + 1, hi, q + nq, by rw [show ((lo : Int) + (hi : Int)) / 2 + 1 = ((m + 1 : Nat) : Int) by omega], rfl, by omega, hin, Nat.le_refl _, rfl, I2⟩
    · obtain rfl : hi = lo := by omega
      have E : Aside0 (upN l t = hi) := ⟨upN_of l t hi hin I.out.1 I.out.2⟩
      go_wp2
      go_ret
      exact ⟨congrArg (fun n : Nat => Ending.returned (.int .i64 n)) E.out.symm, q, rfl⟩

set_option maxHeartbeats 1000000 in
theorem upto_calls (A : Option Addr) (c : Nat) (l : List S29) (t : Int) (w : World) (hR : Rise l) (hsz : l.length < 4611686018427387904) (hC : Kd.C k29 w A l.length l) :
    Calls Try.prog 35 #[.slice A l.length c, .int .i64 t] w fun e w' => e = .returned (.int .i64 (upN l t : Nat)) ∧ Below w.heap.size w w' := by
  have HS := search_clo w.heap.size (w.heap.size + 1) A c l t ((w.alloc (.cells #[.slice A l.length c] 22)).alloc (.cells #[.int .i64 t] 2)) hR hsz (by simp) (by simp)
    (Kd.C_below hC (below_alloc (below_alloc (Below.refl _ _) _) _))
  clear hR hsz hC
  go_enter Try.func35, Try.ntmps35
  go_wp2_with (go_at_call 43; refine HS.mono ?_; rintro e w' ⟨rfl, nq, rfl⟩)
  go_ret
  exact ⟨rfl, pw_below_drewN (below_alloc (below_alloc (Below.refl _ _) _) _) _⟩

/-! ### in the print's shape -/
def pick_upto.f (l0 : List S29) (a1 : Int) : Option Int := if Rise l0 ∧ l0.length < 4611686018427387904 then some (upN l0 a1 : Nat) else none
theorem pick_upto.calls (A0 : Option Addr) (c0 : Nat) (l0 : List S29) (a1 : Int) (r : Int) (w : World) (hr0 : Kd.C k29 w A0 l0.length l0) (hc0 : l0.length ≤ c0) (h : pick_upto.f l0 a1 = some r) :
    Calls Try.prog 35 #[.slice A0 l0.length c0, .int .i64 a1] w fun e w' => e = .returned (.int .i64 r) ∧ Below w.heap.size w w' := by
  unfold pick_upto.f at h
  split at h
  · rename_i h1
    obtain rfl := Option.some.inj h
    exact upto_calls A0 c0 l0 a1 w h1.1 h1.2 hr0
  · cases h

def stale (x : S29) : Bool := x.f1 == 9218868437227405314
set_option maxHeartbeats 1000000 in
theorem win_clo (b : Nat) (x : S29) (W : World) (hb : W.cell? ⟨b, 0, none⟩ = some (.func (.func 36) #[] #[])) :
    Calls Try.prog 39 #[.agg #[.int .i64 x.f0, .int .u64 x.f1], .pointer (some ⟨b, 0, none⟩)] W fun e w' => e = .returned (.bool (stale x)) ∧ Below W.heap.size W w' := by
  have hc := pick_sample_stale.calls x.f0 x.f1 _ (W.alloc (.cells #[.int .i64 x.f0, .int .u64 x.f1] 29)) rfl
  have hlt : b < W.heap.size := World.block_lt_of_cell? W _ hb
  have hb2 : (W.alloc (.cells #[.int .i64 x.f0, .int .u64 x.f1] 29)).cell? ⟨b, 0, none⟩ = some (.func (.func 36) #[] #[]) := by
    rw [World.cell?_alloc_lt _ _ ⟨b, 0, none⟩ hlt]; exact hb
  have HC := Aside0.mk hc
  clear hc hlt hb
  go_enter Try.func39, Try.ntmps39
  go_wp2_with (go_at_call 36; refine HC.out.mono ?_; rintro e w' ⟨rfl, hb3⟩)
  go_ret
  exact ⟨rfl, below_then (below_alloc (Below.refl _ _) _) (by simp) hb3⟩
end Go.Proofs.Ytmgbnnanophehaa.P
