/- Contracts of span.number, span.named, span.Parse. -/
import Derived.Test.YtmgbnnanophehaaDoorSpanP
import Derived.Test.YtmgbnnanophehaaDoorProg
import Derived.Test.YtmgbnnanophehaaDoorWWords
import Derived.Test.YtmgbnnanophehaaDoorWLast
import Derived.Test.YtmgbnnanophehaaDoorShelf
import Derived.WalkKit
import Derived.Laws.EntriesVeiled
import Derived.Lib.Hide
import Derived.Deep.LoopGhost
import Derived.BigQuiet
import Derived.WalkMore
import Derived.OwnWalk
import Derived.Deep.QuietTactic
namespace Go.Proofs.YtmgbnnanophehaaDoor.Span
open Go.Proofs Go.RowKit Go.Proofs.YtmgbnnanophehaaDoorW.PrintWords Go.Proofs.YtmgbnnanophehaaDoorW.PrintLast
set_option linter.unusedVariables false
set_option linter.unusedSimpArgs false

theorem numL_digit (n : Int) (k : Nat) (c : UInt8) (r : List UInt8) (h : isDig c = true) (hn : n ≤ M) : numL n k (c :: r) = numL (10 * n + ((c.toNat : Int) - 48)) (k + 1) r := by
  simp only [numL]; rw [if_pos h, if_neg (by omega)]
theorem numL_over (n : Int) (k : Nat) (c : UInt8) (r : List UInt8) (h : isDig c = true) (hn : n > M) : numL n k (c :: r) = (0, [], false) := by
  simp only [numL]; rw [if_pos h, if_pos hn]
theorem numL_other (n : Int) (k : Nat) (c : UInt8) (r : List UInt8) (h : ¬ isDig c = true) : numL n k (c :: r) = (n, c :: r, decide (0 < k) && decide (n ≤ M)) := by
  simp only [numL]; rw [if_neg h]

/-- A text of bytes. -/
abbrev B (l : List UInt8) : ByteArray := ⟨l.toArray⟩

theorem ext_drop (s : ByteArray) (k : Nat) : s.extract k s.size = B (s.data.toList.drop k) := by
  apply ByteArray.ext
  simp [ByteArray.data_extract, B]
  apply Array.toList_inj.1
  simp [List.extract_eq_take_drop]
  exact List.take_of_length_le (by simp)
set_option maxHeartbeats 4000000 in
theorem number_calls (s : ByteArray) (hs : s.size < 4611686018427387904) (w : World) :
    Calls Tryd.prog 24 #[.string s, .int .i64 35184372088832] w fun e w' => e = .returned (.tuple #[.int .i64 (numL 0 0 s.data.toList).1, .string (B (numL 0 0 s.data.toList).2.1), .bool (numL 0 0 s.data.toList).2.2]) ∧ Below w.heap.size w w' := by
  obtain ⟨R, hR⟩ : ∃ R, R = numL 0 0 s.data.toList := ⟨_, rfl⟩
  rw [← hR]
  have HR := Aside0.mk hR
  have HS := Aside0.mk hs
  clear hR hs
  go_enter Tryd.func24, Tryd.ntmps24
  go_wp2
  go_step3
  go_wp2
  go_step3
  go_wp2
  go_loopg [7, 8, 9] s.size (fun g v7 v8 v9 wr => ∃ (n : Int) (k : Nat) (q : Nat), v7 = .int .i64 n ∧ v8 = .int .i64 k ∧ g = s.size - k ∧ Aside0 (k ≤ s.size ∧ 0 ≤ n ∧ n ≤ 10 * M + 9 ∧ R = numL n k (s.data.toList.drop k)) ∧ wr = w.drewN q)
  case atStart => exact ⟨0, 0, 0, rfl, rfl, rfl, ⟨Nat.zero_le _, by omega, by decide, HR.out⟩, rfl⟩
  case round =>
    obtain ⟨n, k, q, rfl, rfl, rfl, I, rfl⟩ := hrel
    obtain ⟨hk0, hn0, hn1, hRk⟩ := I.out
    have hle : (k ≤ s.size) = True := eq_true hk0
    have hG : Aside0 (s.size - k = s.size - k ∧ n ≤ 10 * M + 9 ∧ 0 ≤ n) := ⟨rfl, hn1, hn0⟩
    obtain ⟨b0, hb0⟩ : ∃ b0 : Bool, b0 = decide (0 < k) := ⟨_, rfl⟩
    have h0 : (0 < k) = (b0 = true) := by rw [hb0]; simp
    by_cases hk : k < s.size
    · have hd : s.data.toList.drop k = (s[k]'hk) :: s.data.toList.drop (k + 1) := List.drop_eq_getElem_cons (by simpa using hk)
      have hex : s.extract k s.size = B (s.data.toList.drop k) := ext_drop s k
      obtain ⟨c, hc⟩ : ∃ c : UInt8, c = s[k]'hk := ⟨_, rfl⟩
      rw [← hc] at hd
      have hx : ∀ h : k < s.size, ((s[k]'h).toNat : Int) = (c.toNat : Int) := fun h => by rw [hc]
      have hq : (k < s.size) = True := eq_true hk
      rw [hd] at hRk
      have HE : Aside0 (R = numL n k (c :: s.data.toList.drop (k + 1)) ∧ s.extract k s.size = B (c :: s.data.toList.drop (k + 1)) ∧ k < s.size) := ⟨hRk, by rw [hex, hd], hk⟩
      have hb8 : (c.toNat : Int) < 256 := by have := c.toNat_lt; omega
      have H8 := Aside0.mk hb8
      clear hk0 hn0 hn1 hRk hk hd hex hc hb8
      have Q0 := Aside0.mk hb0
      clear hb0
      by_cases h1 : (c.toNat : Int) < 48
      · have hR2 := numL_other n k c (s.data.toList.drop (k + 1)) (by unfold isDig; simp; omega)
        have D := Aside0.mk hR2
        have d1 : decide ((c.toNat : Int) < 48) = true := decide_eq_true h1
        clear hR2 h1
        cases b0 <;> (simp only [Bool.false_eq_true] at h0; go_wp2; go_quiet (fail); go_wp2)
        all_goals
          simp only [Exit.noGoto]
          go_ret3
          exact ⟨by rw [HE.out.1.trans (D.out.trans (by rw [← Q0.out])), HE.out.2.1]; rfl, by repeat (first | exact Below.refl _ _ | apply pw_below_drewN)⟩
      · have d1 : decide ((c.toNat : Int) < 48) = false := decide_eq_false h1
        by_cases h2 : 57 < (c.toNat : Int)
        · have hR2 := numL_other n k c (s.data.toList.drop (k + 1)) (by unfold isDig; simp; omega)
          have D := Aside0.mk hR2
          have d2 : decide (57 < (c.toNat : Int)) = true := decide_eq_true h2
          clear hR2 h1 h2
          cases b0 <;> (simp only [Bool.false_eq_true] at h0; go_wp2; go_quiet (fail); go_wp2)
          all_goals
            simp only [Exit.noGoto]
            go_ret3
            exact ⟨by rw [HE.out.1.trans (D.out.trans (by rw [← Q0.out])), HE.out.2.1]; rfl, by repeat (first | exact Below.refl _ _ | apply pw_below_drewN)⟩
        · have hdig : isDig c = true := by unfold isDig; simp; omega
          have d2 : decide (57 < (c.toNat : Int)) = false := decide_eq_false h2
          by_cases h3 : 35184372088832 < n
          · have hR2 := numL_over n k c (s.data.toList.drop (k + 1)) hdig h3
            have D := Aside0.mk hR2
            have d3 : decide (35184372088832 < n) = true := decide_eq_true h3
            clear hR2 h1 h2 h3 hdig
            go_wp2
            go_ret3
            exact ⟨by rw [HE.out.1, D.out]; rfl, by repeat (first | exact Below.refl _ _ | apply pw_below_drewN)⟩
          · have hR2 := numL_digit n k c (s.data.toList.drop (k + 1)) hdig (by unfold M; omega)
            have D := Aside0.mk hR2
            have d3 : decide (35184372088832 < n) = false := decide_eq_false h3
            have W1 : Aside0 (wrap64 (wrap64 (10 * n) + ((c.toNat : Int) - 48) % 256) = 10 * n + ((c.toNat : Int) - 48) ∧ 0 ≤ 10 * n + ((c.toNat : Int) - 48) ∧ 10 * n + ((c.toNat : Int) - 48) ≤ 10 * M + 9) := by
              have := H8.out; have := hG.out.2.2
              exact ⟨by unfold wrap64; omega, by omega, by unfold M; omega⟩
            have W2 : Aside0 (wrap64 ((k : Int) + 1) = ((k + 1 : Nat) : Int)) := ⟨by have := HS.out; have := HE.out.2.2; unfold wrap64; omega⟩
            clear hR2 h1 h2 h3 hdig
            go_wp2
            go_roundg (s.size - (k + 1))
            case measure => have := HE.out.2.2; omega
            case rel => exact ⟨_, k + 1, q, by rw [W1.out.1], by rw [W2.out], rfl, ⟨by have := HE.out.2.2; omega, W1.out.2.1, W1.out.2.2, by rw [HE.out.1, D.out]⟩, rfl⟩
    · have hd : s.data.toList.drop k = [] := List.drop_eq_nil_of_le (by simp; omega)
      rw [hd] at hRk
      have hex : s.extract k s.size = B (s.data.toList.drop k) := ext_drop s k
      have HE : Aside0 (R = numL n k [] ∧ s.extract k s.size = B [] ∧ True) := ⟨hRk, by rw [hex, hd], trivial⟩
      have D : Aside0 (numL n k [] = (n, [], decide (0 < k) && decide (n ≤ M))) := ⟨rfl⟩
      have hq : (k < s.size) = False := eq_false hk
      clear hk0 hn0 hn1 hRk hd hex hk
      have Q0 := Aside0.mk hb0
      clear hb0
      cases b0 <;> (simp only [Bool.false_eq_true] at h0; go_wp2; go_quiet (fail); go_wp2)
      all_goals
        simp only [Exit.noGoto]
        go_ret3
        exact ⟨by rw [HE.out.1.trans (D.out.trans (by rw [← Q0.out])), HE.out.2.1]; rfl, by repeat (first | exact Below.refl _ _ | apply pw_below_drewN)⟩

def UCell (w : World) (j : Nat) (v : Value) : Prop := w.cell? ⟨0, j, none⟩ = some v
/-- What the variable span.units holds. -/
structure UTab (w : World) : Prop where
  c0 : w.cell? ⟨0, 0, none⟩ = some (.string (B [121]))
  c1 : w.cell? ⟨0, 1, none⟩ = some (.int .i64 31536000000)
  c2 : w.cell? ⟨0, 2, none⟩ = some (.string (B [119]))
  c3 : w.cell? ⟨0, 3, none⟩ = some (.int .i64 604800000)
  c4 : w.cell? ⟨0, 4, none⟩ = some (.string (B [100]))
  c5 : w.cell? ⟨0, 5, none⟩ = some (.int .i64 86400000)
  c6 : w.cell? ⟨0, 6, none⟩ = some (.string (B [104]))
  c7 : w.cell? ⟨0, 7, none⟩ = some (.int .i64 3600000)
  c8 : w.cell? ⟨0, 8, none⟩ = some (.string (B [109]))
  c9 : w.cell? ⟨0, 9, none⟩ = some (.int .i64 60000)
  c10 : w.cell? ⟨0, 10, none⟩ = some (.string (B [115]))
  c11 : w.cell? ⟨0, 11, none⟩ = some (.int .i64 1000)
  c12 : w.cell? ⟨0, 12, none⟩ = some (.string (B [109, 115]))
  c13 : w.cell? ⟨0, 13, none⟩ = some (.int .i64 1)
theorem UTab.below {w w' : World} (h : UTab w) (hb : Below w.heap.size w w') : UTab w' := by
  have hlt := World.block_lt_of_cell? w _ h.c0
  exact ⟨(hb.cell (p := ⟨0, 0, none⟩) hlt).trans h.c0, (hb.cell (p := ⟨0, 1, none⟩) hlt).trans h.c1, (hb.cell (p := ⟨0, 2, none⟩) hlt).trans h.c2, (hb.cell (p := ⟨0, 3, none⟩) hlt).trans h.c3, (hb.cell (p := ⟨0, 4, none⟩) hlt).trans h.c4, (hb.cell (p := ⟨0, 5, none⟩) hlt).trans h.c5, (hb.cell (p := ⟨0, 6, none⟩) hlt).trans h.c6, (hb.cell (p := ⟨0, 7, none⟩) hlt).trans h.c7, (hb.cell (p := ⟨0, 8, none⟩) hlt).trans h.c8, (hb.cell (p := ⟨0, 9, none⟩) hlt).trans h.c9, (hb.cell (p := ⟨0, 10, none⟩) hlt).trans h.c10, (hb.cell (p := ⟨0, 11, none⟩) hlt).trans h.c11, (hb.cell (p := ⟨0, 12, none⟩) hlt).trans h.c12, (hb.cell (p := ⟨0, 13, none⟩) hlt).trans h.c13⟩

theorem ext_take (s : ByteArray) (k : Nat) : s.extract 0 k = B (s.data.toList.take k) := by
  apply ByteArray.ext
  simp [ByteArray.data_extract, B]
  apply Array.toList_inj.1
  simp [List.extract_eq_take_drop]
theorem trim_size {s TR : ByteArray} {NM : List UInt8} (hs : s.size < 4611686018427387904) (h : TR = ⟨(Lib.trimLeftS s.data.toList cuts).toArray⟩) (hN : NM = s.data.toList.takeWhile (cuts.contains ·)) :
    wrap64 ((s.size : Int) - (TR.size : Int)) = (NM.length : Int) := by
  have e1 : TR.size = (s.data.toList.dropWhile (cuts.contains ·)).length := by rw [h]; rfl
  have e2 : s.size = s.data.toList.length := by simp
  have e3 := congrArg List.length (List.takeWhile_append_dropWhile (p := (cuts.contains ·)) (l := s.data.toList))
  rw [List.length_append] at e3
  rw [hN]
  have e4 : (s.size : Int) - (TR.size : Int) = ((s.data.toList.takeWhile (cuts.contains ·)).length : Int) := by omega
  rw [e4]
  unfold wrap64
  omega
theorem take_takeWhile {α : Type} (p : α → Bool) (l : List α) : l.take (l.takeWhile p).length = l.takeWhile p := List.prefix_iff_eq_take.1 (List.takeWhile_prefix p) |>.symm
theorem trim_take {s : ByteArray} {NM : List UInt8} (hN : NM = s.data.toList.takeWhile (cuts.contains ·)) : s.extract 0 NM.length = B NM := by
  rw [ext_take, hN, take_takeWhile]
theorem ix0 (W : World) : (Instr.index 75 (.agg #[.string (B [121]), .int .i64 31536000000, .string (B [119]), .int .i64 604800000, .string (B [100]), .int .i64 86400000, .string (B [104]), .int .i64 3600000, .string (B [109]), .int .i64 60000, .string (B [115]), .int .i64 1000, .string (B [109, 115]), .int .i64 1]) (.int .i64 0)).run Tryd.prog W = .ok (.agg #[.string (B [121]), .int .i64 31536000000]) W := by kernel_rfl
theorem ix1 (W : World) : (Instr.index 75 (.agg #[.string (B [121]), .int .i64 31536000000, .string (B [119]), .int .i64 604800000, .string (B [100]), .int .i64 86400000, .string (B [104]), .int .i64 3600000, .string (B [109]), .int .i64 60000, .string (B [115]), .int .i64 1000, .string (B [109, 115]), .int .i64 1]) (.int .i64 1)).run Tryd.prog W = .ok (.agg #[.string (B [119]), .int .i64 604800000]) W := by kernel_rfl
theorem ix2 (W : World) : (Instr.index 75 (.agg #[.string (B [121]), .int .i64 31536000000, .string (B [119]), .int .i64 604800000, .string (B [100]), .int .i64 86400000, .string (B [104]), .int .i64 3600000, .string (B [109]), .int .i64 60000, .string (B [115]), .int .i64 1000, .string (B [109, 115]), .int .i64 1]) (.int .i64 2)).run Tryd.prog W = .ok (.agg #[.string (B [100]), .int .i64 86400000]) W := by kernel_rfl
theorem ix3 (W : World) : (Instr.index 75 (.agg #[.string (B [121]), .int .i64 31536000000, .string (B [119]), .int .i64 604800000, .string (B [100]), .int .i64 86400000, .string (B [104]), .int .i64 3600000, .string (B [109]), .int .i64 60000, .string (B [115]), .int .i64 1000, .string (B [109, 115]), .int .i64 1]) (.int .i64 3)).run Tryd.prog W = .ok (.agg #[.string (B [104]), .int .i64 3600000]) W := by kernel_rfl
theorem ix4 (W : World) : (Instr.index 75 (.agg #[.string (B [121]), .int .i64 31536000000, .string (B [119]), .int .i64 604800000, .string (B [100]), .int .i64 86400000, .string (B [104]), .int .i64 3600000, .string (B [109]), .int .i64 60000, .string (B [115]), .int .i64 1000, .string (B [109, 115]), .int .i64 1]) (.int .i64 4)).run Tryd.prog W = .ok (.agg #[.string (B [109]), .int .i64 60000]) W := by kernel_rfl
theorem ix5 (W : World) : (Instr.index 75 (.agg #[.string (B [121]), .int .i64 31536000000, .string (B [119]), .int .i64 604800000, .string (B [100]), .int .i64 86400000, .string (B [104]), .int .i64 3600000, .string (B [109]), .int .i64 60000, .string (B [115]), .int .i64 1000, .string (B [109, 115]), .int .i64 1]) (.int .i64 5)).run Tryd.prog W = .ok (.agg #[.string (B [115]), .int .i64 1000]) W := by kernel_rfl
theorem ix6 (W : World) : (Instr.index 75 (.agg #[.string (B [121]), .int .i64 31536000000, .string (B [119]), .int .i64 604800000, .string (B [100]), .int .i64 86400000, .string (B [104]), .int .i64 3600000, .string (B [109]), .int .i64 60000, .string (B [115]), .int .i64 1000, .string (B [109, 115]), .int .i64 1]) (.int .i64 6)).run Tryd.prog W = .ok (.agg #[.string (B [109, 115]), .int .i64 1]) W := by kernel_rfl
def finU (l : List UInt8) (m : Nat) : Option Nat → Int × List UInt8
  | some k => ((k : Int), l.drop m)
  | none => (-1, [])
theorem namedL_eq (l : List UInt8) : namedL l = finU l (l.takeWhile (cuts.contains ·)).length (findU (l.takeWhile (cuts.contains ·)) units 0) := by
  unfold namedL finU; cases findU (l.takeWhile (cuts.contains ·)) units 0 <;> rfl
theorem findU_hit {NM : List UInt8} {k : Nat} (u : List UInt8 × Int) (us : List (List UInt8 × Int)) (hu : units.drop k = u :: us) (h : (u.1 == NM) = true) : findU NM (units.drop k) k = some k := by
  rw [hu]; simp only [findU]; rw [if_pos (by simpa using h)]
theorem findU_miss {NM : List UInt8} {k : Nat} (u : List UInt8 × Int) (us : List (List UInt8 × Int)) (hu : units.drop k = u :: us) (h : (u.1 == NM) = false) : findU NM (units.drop k) k = findU NM (units.drop (k + 1)) (k + 1) := by
  have : units.drop (k + 1) = us := by rw [← List.drop_drop, hu]; rfl
  rw [hu, this]; simp only [findU]; rw [if_neg (by simpa using h)]
set_option maxRecDepth 100000 in
set_option maxHeartbeats 4000000 in
theorem named_calls (s : ByteArray) (hs : s.size < 4611686018427387904) (w : World) (hU : UTab w) :
    Calls Tryd.prog 25 #[.string s] w fun e w' => e = .returned (.tuple #[.int .i64 (namedL s.data.toList).1, .string (B (namedL s.data.toList).2)]) ∧ Below w.heap.size w w' := by
  have hcon := Any.strings_TrimLeft_laid Tryd.lays161 (by kernel_rfl) s ⟨#[121, 119, 100, 104, 109, 115]⟩ w (by decide) (ascii_of_all (by decide))
  change Calls Tryd.prog 43 _ _ (fun e w' => e = .returned (.string ⟨(Lib.trimLeftS s.data.toList cuts).toArray⟩) ∧ Below w.heap.size w w') at hcon
  obtain ⟨TR, hTR⟩ : ∃ TR : ByteArray, TR = ⟨(Lib.trimLeftS s.data.toList cuts).toArray⟩ := ⟨_, rfl⟩
  rw [← hTR] at hcon
  obtain ⟨R, hR⟩ : ∃ R, R = namedL s.data.toList := ⟨_, rfl⟩
  rw [← hR]
  have HR := Aside0.mk hR
  have HS := Aside0.mk hs
  have HU := Aside0.mk hU
  obtain ⟨NM, hNM⟩ : ∃ NM, NM = s.data.toList.takeWhile (cuts.contains ·) := ⟨_, rfl⟩
  have hsz : wrap64 ((s.size : Int) - (TR.size : Int)) = (NM.length : Int) := trim_size hs hTR hNM
  have hle : (NM.length ≤ s.size) = True := eq_true (by rw [hNM]; exact (List.takeWhile_prefix _).length_le)
  have hex : s.extract 0 NM.length = B NM := trim_take hNM
  have HN := Aside0.mk hNM
  have HC := Aside0.mk hcon
  clear hR hs hU hTR hcon hNM
  go_enter Tryd.func25, Tryd.ntmps25
  go_wp2_with (go_at_call 43; refine HC.out.mono ?_; rintro e w1 ⟨rfl, hB⟩; obtain ⟨c0, c1, c2, c3, c4, c5, c6, c7, c8, c9, c10, c11, c12, c13⟩ := HU.out.below hB)
  clear c0 c1 c2 c3 c4 c5 c6 c7 c8 c9 c10 c11 c12 c13 hsz hex
  go_loopg [16] 7 (fun g v16 wr => ∃ x : Int, v16 = .int .i64 x ∧ g = 7 - x.toNat ∧ 0 ≤ x ∧ x ≤ 7 ∧ Aside0 (finU s.data.toList NM.length (findU NM (units.drop x.toNat) x.toNat) = R) ∧ Aside0 (Below w.heap.size w wr))
  case atStart => exact ⟨0, rfl, rfl, by omega, by omega, ⟨by rw [HR.out, HN.out, namedL_eq]; rfl⟩, ⟨hB⟩⟩
  case round =>
    clear hB
    obtain ⟨x, rfl, rfl, hx0, hx7, I, HB⟩ := hrel
    have hcases : x = 0 ∨ x = 1 ∨ x = 2 ∨ x = 3 ∨ x = 4 ∨ x = 5 ∨ x = 6 ∨ x = 7 := by omega
    clear hx0 hx7
    rcases hcases with rfl | rfl | rfl | rfl | rfl | rfl | rfl | rfl
    · have hix := ix0
      cases hn : ([121] == NM)
      · have E : Aside0 (finU s.data.toList NM.length (findU NM (units.drop 1) 1) = R) := ⟨by have := I.out; rwa [show (Int.toNat 0) = 0 from rfl, findU_miss _ _ rfl hn] at this⟩
        go_wp2
        go_roundg (6)
        case measure => decide
        case rel => exact ⟨1, rfl, rfl, by omega, by omega, E, ⟨below_alloc HB.out _⟩⟩
      · have E : Aside0 (R = (0, s.data.toList.drop NM.length)) := ⟨by have := I.out; rw [show (Int.toNat 0) = 0 from rfl, findU_hit _ _ rfl hn] at this; exact this.symm⟩
        have hxd : s.extract NM.length s.size = B (s.data.toList.drop NM.length) := ext_drop s NM.length
        clear I
        go_wp2
        go_quiet (fail)
        go_wp2
        go_ret2
        exact ⟨by rw [E.out]; rfl, pw_below_drewN (below_alloc HB.out _) _⟩
    · have hix := ix1
      cases hn : ([119] == NM)
      · have E : Aside0 (finU s.data.toList NM.length (findU NM (units.drop 2) 2) = R) := ⟨by have := I.out; rwa [show (Int.toNat 1) = 1 from rfl, findU_miss _ _ rfl hn] at this⟩
        go_wp2
        go_roundg (5)
        case measure => decide
        case rel => exact ⟨2, rfl, rfl, by omega, by omega, E, ⟨below_alloc HB.out _⟩⟩
      · have E : Aside0 (R = (1, s.data.toList.drop NM.length)) := ⟨by have := I.out; rw [show (Int.toNat 1) = 1 from rfl, findU_hit _ _ rfl hn] at this; exact this.symm⟩
        have hxd : s.extract NM.length s.size = B (s.data.toList.drop NM.length) := ext_drop s NM.length
        clear I
        go_wp2
        go_quiet (fail)
        go_wp2
        go_ret2
        exact ⟨by rw [E.out]; rfl, pw_below_drewN (below_alloc HB.out _) _⟩
    · have hix := ix2
      cases hn : ([100] == NM)
      · have E : Aside0 (finU s.data.toList NM.length (findU NM (units.drop 3) 3) = R) := ⟨by have := I.out; rwa [show (Int.toNat 2) = 2 from rfl, findU_miss _ _ rfl hn] at this⟩
        go_wp2
        go_roundg (4)
        case measure => decide
        case rel => exact ⟨3, rfl, rfl, by omega, by omega, E, ⟨below_alloc HB.out _⟩⟩
      · have E : Aside0 (R = (2, s.data.toList.drop NM.length)) := ⟨by have := I.out; rw [show (Int.toNat 2) = 2 from rfl, findU_hit _ _ rfl hn] at this; exact this.symm⟩
        have hxd : s.extract NM.length s.size = B (s.data.toList.drop NM.length) := ext_drop s NM.length
        clear I
        go_wp2
        go_quiet (fail)
        go_wp2
        go_ret2
        exact ⟨by rw [E.out]; rfl, pw_below_drewN (below_alloc HB.out _) _⟩
    · have hix := ix3
      cases hn : ([104] == NM)
      · have E : Aside0 (finU s.data.toList NM.length (findU NM (units.drop 4) 4) = R) := ⟨by have := I.out; rwa [show (Int.toNat 3) = 3 from rfl, findU_miss _ _ rfl hn] at this⟩
        go_wp2
        go_roundg (3)
        case measure => decide
        case rel => exact ⟨4, rfl, rfl, by omega, by omega, E, ⟨below_alloc HB.out _⟩⟩
      · have E : Aside0 (R = (3, s.data.toList.drop NM.length)) := ⟨by have := I.out; rw [show (Int.toNat 3) = 3 from rfl, findU_hit _ _ rfl hn] at this; exact this.symm⟩
        have hxd : s.extract NM.length s.size = B (s.data.toList.drop NM.length) := ext_drop s NM.length
        clear I
        go_wp2
        go_quiet (fail)
        go_wp2
        go_ret2
        exact ⟨by rw [E.out]; rfl, pw_below_drewN (below_alloc HB.out _) _⟩
    · have hix := ix4
      cases hn : ([109] == NM)
      · have E : Aside0 (finU s.data.toList NM.length (findU NM (units.drop 5) 5) = R) := ⟨by have := I.out; rwa [show (Int.toNat 4) = 4 from rfl, findU_miss _ _ rfl hn] at this⟩
        go_wp2
        go_roundg (2)
        case measure => decide
        case rel => exact ⟨5, rfl, rfl, by omega, by omega, E, ⟨below_alloc HB.out _⟩⟩
      · have E : Aside0 (R = (4, s.data.toList.drop NM.length)) := ⟨by have := I.out; rw [show (Int.toNat 4) = 4 from rfl, findU_hit _ _ rfl hn] at this; exact this.symm⟩
        have hxd : s.extract NM.length s.size = B (s.data.toList.drop NM.length) := ext_drop s NM.length
        clear I
        go_wp2
        go_quiet (fail)
        go_wp2
        go_ret2
        exact ⟨by rw [E.out]; rfl, pw_below_drewN (below_alloc HB.out _) _⟩
    · have hix := ix5
      cases hn : ([115] == NM)
      · have E : Aside0 (finU s.data.toList NM.length (findU NM (units.drop 6) 6) = R) := ⟨by have := I.out; rwa [show (Int.toNat 5) = 5 from rfl, findU_miss _ _ rfl hn] at this⟩
        go_wp2
        go_roundg (1)
        case measure => decide
        case rel => exact ⟨6, rfl, rfl, by omega, by omega, E, ⟨below_alloc HB.out _⟩⟩
      · have E : Aside0 (R = (5, s.data.toList.drop NM.length)) := ⟨by have := I.out; rw [show (Int.toNat 5) = 5 from rfl, findU_hit _ _ rfl hn] at this; exact this.symm⟩
        have hxd : s.extract NM.length s.size = B (s.data.toList.drop NM.length) := ext_drop s NM.length
        clear I
        go_wp2
        go_quiet (fail)
        go_wp2
        go_ret2
        exact ⟨by rw [E.out]; rfl, pw_below_drewN (below_alloc HB.out _) _⟩
    · have hix := ix6
      cases hn : ([109, 115] == NM)
      · have E : Aside0 (finU s.data.toList NM.length (findU NM (units.drop 7) 7) = R) := ⟨by have := I.out; rwa [show (Int.toNat 6) = 6 from rfl, findU_miss _ _ rfl hn] at this⟩
        go_wp2
        go_roundg (0)
        case measure => decide
        case rel => exact ⟨7, rfl, rfl, by omega, by omega, E, ⟨below_alloc HB.out _⟩⟩
      · have E : Aside0 (R = (6, s.data.toList.drop NM.length)) := ⟨by have := I.out; rw [show (Int.toNat 6) = 6 from rfl, findU_hit _ _ rfl hn] at this; exact this.symm⟩
        have hxd : s.extract NM.length s.size = B (s.data.toList.drop NM.length) := ext_drop s NM.length
        clear I
        go_wp2
        go_quiet (fail)
        go_wp2
        go_ret2
        exact ⟨by rw [E.out]; rfl, pw_below_drewN (below_alloc HB.out _) _⟩
    · have E : Aside0 (R = (-1, [])) := ⟨I.out.symm⟩
      clear I
      go_wp2
      go_ret2
      exact ⟨by rw [E.out]; rfl, HB.out⟩

end Go.Proofs.YtmgbnnanophehaaDoor.Span
