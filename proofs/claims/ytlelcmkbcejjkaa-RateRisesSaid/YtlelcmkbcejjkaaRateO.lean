/- rate.Grow: what it comes to on counts; the law RateRises by its walk. -/
import Derived.Test.YtlelcmkbcejjkaaRateN
import Derived.Test.YtlelcmkbcejjkaaFx13
namespace Go.Proofs.Ytlelcmkbcejjkaa.F
open Go.Proofs Go.RowKit Go.Proofs.YtlelcmkbcejjkaaW.PrintWords Go.Proofs.YtlelcmkbcejjkaaW.PrintLast Go.Proofs.YtlelcmkbcejjkaaW.PrintMore
set_option linter.unusedVariables false
set_option linter.unusedSimpArgs false
attribute [local go_sem ↓] Go.wp_at_zero Go.wp_at_succ
set_option maxHeartbeats 4000000 in
theorem grow_no (nm : ByteArray) (rt ic dc : Bool) (h1 : (nm.toList == [114, 97, 116, 101]) = rt) (h2 : (nm.toList == [105, 110, 99, 114, 101, 97, 115, 101]) = ic) (h3 : (nm.toList == [100, 101, 108, 116, 97]) = dc) (hv : (rt = true ∧ ic = false) ∨ (rt = false ∧ ic = true) ∨ (rt = false ∧ ic = false ∧ dc = true))
    (A : Option Addr) (c : Nat) (l : List Pt) (s e : Int) (k : Nat) (hm : rate_may.f k l s e = some false) (w : World) (hC : Kd.C k28 w A l.length l) (hc : l.length ≤ c) :
    Calls Try.prog 8 #[.string nm, .slice A l.length c, .int .i64 s, .int .i64 e] w fun en w' => en = .returned (.tuple #[.int .u64 0, .bool false]) ∧ Below w.heap.size w w' := by
  have HM := Aside0.mk (rate_may.calls k A c l s e _ w hC hc hm)
  clear hC hc hm
  go_enter Try.func8, Try.ntmps8
  rcases hv with ⟨rfl, rfl⟩ | ⟨rfl, rfl⟩ | ⟨rfl, rfl, rfl⟩ <;>
  · go_wp2_with (go_at_call 12; refine HM.out.mono ?_; rintro en w1 ⟨rfl, hb1⟩; have HB1 : Aside0 (Below w.heap.size w w1) := ⟨hb1.below⟩; clear hb1)
    go_ret2
    exact ⟨rfl, HB1.out⟩
open Ieee in
/-- The whole chain, on counts. -/
theorem chain_ok (rt : Bool) (n f g dB dR dS dT : Nat) (hn0 : 1 ≤ n) (hn1 : n ≤ 2 ^ 54) (hf : f < 9218868437227405312) (hg : g ≤ 9218868437227405312) (hB : 1 ≤ dB ∧ dB ≤ 2 ^ 54) (hR : dR ≤ 2 ^ 54) (hS : 1 ≤ dS ∧ dS ≤ 2 ^ 54) (hT : 1 ≤ dT ∧ dT ≤ 2 ^ 54) :
    ∃ begin rest span total mean d t begin' half most l1 l2 p q r, Chain true rt n f g dB dR dS dT begin rest span total mean d t begin' half most l1 l2 p q r := by
  obtain ⟨begin, b1, b2⟩ := Flt.sec_bd dB hB.1 hB.2
  obtain ⟨span, s1, s2⟩ := Flt.sec_bd dS hS.1 hS.2
  obtain ⟨total, t1, t2⟩ := Flt.sec_bd dT hT.1 hT.2
  obtain ⟨rest, r1, r2⟩ : ∃ rest, Flt.secO dR = some rest ∧ Flt.Up rest 45 := by
    rcases Nat.eq_zero_or_pos dR with rfl | h
    · exact ⟨0, Flt.sec_zero, Flt.up_zero _⟩
    · obtain ⟨r, h1, h2⟩ := Flt.sec_bd dR h hR
      exact ⟨r, h1, h2.1⟩
  obtain ⟨d, t, begin', hd, ht, htb, hb', hup⟩ : ∃ d t begin', (0 < g → double.div f g = some d) ∧ (0 < g → double.mul span d = some t) ∧ t ≤ 9218868437227405312 ∧ (begin' = if (true = true) ∧ 0 < g then (if t < begin then t else begin) else begin) ∧ Flt.Up begin' 45 := by
    rcases Nat.eq_zero_or_pos g with rfl | h
    · exact ⟨0, 0, begin, fun h => by omega, fun h => by omega, by decide, by simp, b2.1⟩
    · obtain ⟨d, t, e1, e2, e3, e4⟩ := Flt.begin_bd b2.1 s2 hf hg (by omega)
      exact ⟨d, t, _, fun _ => e1, fun _ => e2, e3, by simp [h], e4⟩
  obtain ⟨mean, half, most, l1, l2, p, q, e1, e2, e3, e4, e5, e6, e7, e8, _, _, _, _, c5, c6⟩ := Flt.part_bd s2 hup r2 t2 hn0 hn1
  have hin : ∀ {x : Nat} {b : Int}, Flt.Up x b → x ≤ 9218868437227405312 := fun h => Nat.le_of_lt h.1
  obtain ⟨r, f1, f2⟩ : ∃ r, double.mul g (if rt = true then q else p) = some r ∧ r ≤ 9218868437227405312 := by
    cases rt with
    | true => exact Flt.grown hg c6
    | false => exact Flt.grown hg c5
  exact ⟨begin, rest, span, total, mean, d, t, begin', half, most, l1, l2, p, q, r, b1, r1, s1, t1, e1, hd, ht, hb', e2, e3, e5, e6, e7, e8, f1, Nat.le_of_lt hf, hg, hin b2.1, hin hup, hin r2, htb, e4, f2⟩
/-- Grow on counts: no growth, or a number that isn't below 0. -/
theorem grow_counts (nm : ByteArray) (rt ic : Bool) (h1 : (nm.toList == [114, 97, 116, 101]) = rt) (h2 : (nm.toList == [105, 110, 99, 114, 101, 97, 115, 101]) = ic) (hv : (rt = true ∧ ic = false) ∨ (rt = false ∧ ic = true))
    (A : Option Addr) (c : Nat) (l : List Pt) (s e : Int) (hl : ∀ x ∈ l, 0 ≤ x.f1 ∧ x.f1 < 9218868437227405312) (hsz : l.length ≤ 400) (hc : l.length ≤ c) :
    ∃ (b : Bool) (r : Nat), (∃ k, rate_may.f k l s e = some b) ∧ r ≤ 9218868437227405312 ∧ ∀ w, Kd.C k28 w A l.length l →
      Calls Try.prog 8 #[.string nm, .slice A l.length c, .int .i64 s, .int .i64 e] w fun en w' => en = .returned (.tuple #[.int .u64 r, .bool b]) ∧ Below w.heap.size w w' := by
  obtain ⟨k, b, hm, hM⟩ := may_ok l s e (by omega)
  have hv3 : (rt = true ∧ ic = false) ∨ (rt = false ∧ ic = true) ∨ (rt = false ∧ ic = false ∧ (nm.toList == [100, 101, 108, 116, 97]) = true) := by
    rcases hv with h | h
    · exact Or.inl h
    · exact Or.inr (Or.inl h)
  cases b with
  | false => exact ⟨false, 0, ⟨k, hm⟩, by decide, fun w hC => grow_no nm rt ic _ h1 h2 rfl hv3 A c l s e k hm w hC hc⟩
  | true =>
    have M := hM rfl
    have h2l := M.1
    have bS := M.2.1
    have bS2 := M.2.2.1
    have bE := M.2.2.2.1
    have bE2 := M.2.2.2.2.1
    have bF := M.2.2.2.2.2.1
    have bL := M.2.2.2.2.2.2.1
    have bFL := rise_first M (l.length - 1) (by omega) (by omega)
    rw [show (0 : Int) = ((0 : Nat) : Int) from rfl, rdp_at l 0 (by omega)] at bF bFL
    rw [rdp_at l _ (by omega)] at bL bFL
    have hcnt : (rt || ic) = true := by rcases hv with ⟨rfl, rfl⟩ | ⟨rfl, rfl⟩ <;> rfl
    have hvl : (vals l).length = l.length := by simp [vals]
    have hvn : vals l ≠ [] := fun h => by rw [h] at hvl; simp at hvl; omega
    have hva : ∀ x ∈ vals l, x < 9218868437227405312 := by
      intro x hx
      obtain ⟨y, hy, rfl⟩ := List.mem_map.1 hx
      have := hl y hy; omega
    obtain ⟨a, r, har⟩ := List.exists_cons_of_ne_nil hvn
    rw [har] at hva
    obtain ⟨g0, g, hs, hg, hgi⟩ := Flt.gain_ok a r hva
    rw [← har] at hg
    have ha : a = (l[0]'(by omega)).f1.toNat := by
      have : (vals l)[0]'(by omega) = a := by simp only [har, List.getElem_cons_zero]
      rw [← this]; simp [vals]
    have hlast : (a :: r).getLast (by simp) = (l[l.length - 1]'(by omega)).f1.toNat := by
      have e : (vals l).getLast hvn = (a :: r).getLast (by simp) := by simp only [har]
      rw [← e, List.getLast_eq_getElem]
      simp [vals]
    rw [hlast, ha] at hs
    have hf := hl (l[0]'(by omega)) (List.getElem_mem _)
    obtain ⟨dB, eB⟩ : ∃ n : Nat, (l[0]'(by omega)).f0 - s = (n : Int) := ⟨((l[0]'(by omega)).f0 - s).toNat, by omega⟩
    obtain ⟨dR, eR⟩ : ∃ n : Nat, e - (l[l.length - 1]'(by omega)).f0 = (n : Int) := ⟨(e - (l[l.length - 1]'(by omega)).f0).toNat, by omega⟩
    obtain ⟨dS, eS⟩ : ∃ n : Nat, (l[l.length - 1]'(by omega)).f0 - (l[0]'(by omega)).f0 = (n : Int) := ⟨((l[l.length - 1]'(by omega)).f0 - (l[0]'(by omega)).f0).toNat, by omega⟩
    obtain ⟨dT, eT⟩ : ∃ n : Nat, e - s = (n : Int) := ⟨(e - s).toNat, by omega⟩
    obtain ⟨begin, rest, span, total, mean, d, t, begin', half, most, l1, l2, p, q, r, hK⟩ := chain_ok rt (l.length - 1) (l[0]'(by omega)).f1.toNat g dB dR dS dT
      (by omega) (by omega) (by omega) hgi ⟨by omega, by omega⟩ (by omega) ⟨by omega, by omega⟩ ⟨by omega, by omega⟩
    refine ⟨true, r, ⟨k, hm⟩, hK.rb, fun w hC => ?_⟩
    exact grow_yes nm rt ic _ h1 h2 rfl hv3 A c l s e k hm M hl (by omega) w hC hc g0 g _ _ _ _ begin rest span total mean d t begin' half most l1 l2 p q r hs (by rw [if_pos hcnt]; exact hg) eB eR eS eT (by rw [hcnt]; exact hK)
end Go.Proofs.Ytlelcmkbcejjkaa.F
