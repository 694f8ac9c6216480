/- The contract of span.Text. -/
import Derived.Test.YtmgbnnanophehaaDoorSpanX
import Derived.Lib.AppendIntMem
import Derived.Lib.ItoaNum
import Derived.Deep.RegionHeld3
import Derived.Test.YtmgbnnanophehaaDoorProg
import Derived.Test.YtmgbnnanophehaaDoorWWords
import Derived.Test.YtmgbnnanophehaaDoorWLast
import Derived.Test.YtmgbnnanophehaaDoorShelf
import Derived.WalkKit
import Derived.Laws.EntriesVeiled
import Derived.Lib.Hide
import Derived.Deep.LoopGhost
import Derived.BigQuiet
import Derived.WalkMore
import Derived.OwnWalk
import Derived.Deep.QuietTactic
namespace Go.Proofs.YtmgbnnanophehaaDoor.Span
open Go.Proofs Go.RowKit Go.Proofs.YtmgbnnanophehaaDoorW.PrintWords Go.Proofs.YtmgbnnanophehaaDoorW.PrintLast
set_option linter.unusedVariables false
set_option linter.unusedSimpArgs false


/-- The parts of a number. -/
def texL : List (List UInt8 × Int) → Int → List UInt8
  | [], _ => []
  | u :: us, v => (if 0 < v / u.2 then Lib.decDigits (v / u.2).toNat ++ u.1 else []) ++ texL us (v % u.2)
def textL (v : Int) : List UInt8 × Option Int := if v < 0 ∨ M < v then ([], some 13) else if v = 0 then ([48, 115], none) else (texL units v, none)
/-- What the table of FormatInt holds. -/
def PTab (w : World) : Prop := Lib.TabIs Tryd.prog w "internal/strconv.uint64pow10" .u64 Lib.pow10Tab
theorem PTab.below {w w' : World} (h : PTab w) (hb : Below w.heap.size w w') : PTab w' := by
  have hg : Tryd.prog.globalNamed "internal/strconv.uint64pow10" = some 2 := by kernel_rfl
  unfold PTab Lib.TabIs World.var? at h ⊢
  rw [hg] at h ⊢
  simp only [Option.bind_some] at h ⊢
  have hlt : 2 < w.heap.size := by
    rcases Nat.lt_or_ge 2 w.heap.size with h' | h'
    · exact h'
    · rw [Array.getElem?_eq_none h'] at h; cases h
  rw [hb.block _ hlt]
  exact h
theorem format_calls (n : Int) (h0 : 0 ≤ n) (h1 : n ≤ M) (w : World) (hP : PTab w) :
    Calls Tryd.prog 28 #[.int .i64 n, .int .i64 10] w fun e w' => e = .returned (.string (B (Lib.decDigits n.toNat))) ∧ Below w.heap.size w w' := by
  refine (Any.strconv_FormatInt_10 Tryd.lays173 n (by omega) (by unfold M at h1; omega) w hP).mono ?_
  rintro e w' ⟨rfl, k, os, rfl⟩
  refine ⟨?_, Lib.below_grow _ _ (Nat.le_refl _) k os⟩
  rw [show Lib.itoa n = Lib.decDigits n.toNat by unfold Lib.itoa; rw [if_neg (by omega)]]
theorem dec_len (u : Nat) : (Lib.decDigits u).length ≤ u + 1 := by
  induction u using Nat.strongRecOn with
  | _ u ih =>
    rw [Lib.decDigits]
    split
    · simp
    · rename_i h
      have := ih (u / 10) (by omega)
      rw [List.length_append]
      simp only [List.length_cons, List.length_nil]
      omega
theorem B_app (a b : List UInt8) : B a ++ B b = B (a ++ b) := by
  apply ByteArray.ext
  simp [B]
theorem texL_step (k : Nat) (u : List UInt8 × Int) (us : List (List UInt8 × Int)) (h : units.drop k = u :: us) (y : Int) :
    texL (units.drop k) y = (if 0 < y / u.2 then Lib.decDigits (y / u.2).toNat ++ u.1 else []) ++ texL (units.drop (k + 1)) (y % u.2) := by
  have h2 : units.drop (k + 1) = us := by rw [← List.drop_drop, h]; rfl
  rw [h, h2]; rfl
theorem keepU {w W w' : World} {b : Nat} {u v : Value} (h : W.cell? ⟨b, 0, none⟩ = some u ∧ Aside0 (W.cell? ⟨b, 1, none⟩ = some v) ∧ Aside0 (Below w.heap.size w W)) (hb : Below W.heap.size W w') :
    w'.cell? ⟨b, 0, none⟩ = some u ∧ Aside0 (w'.cell? ⟨b, 1, none⟩ = some v) ∧ Aside0 (Below w.heap.size w w') := by
  have hlt : b < W.heap.size := World.block_lt_of_cell? W _ h.1
  exact ⟨(hb.cell (p := ⟨b, 0, none⟩) hlt).trans h.1, ⟨(hb.cell (p := ⟨b, 1, none⟩) hlt).trans h.2.1.out⟩, ⟨below_then h.2.2.out h.2.2.out.size hb⟩⟩
theorem keepD {w W : World} {b : Nat} {u v : Value} (h : W.cell? ⟨b, 0, none⟩ = some u ∧ Aside0 (W.cell? ⟨b, 1, none⟩ = some v) ∧ Aside0 (Below w.heap.size w W)) :
    W.drew.cell? ⟨b, 0, none⟩ = some u ∧ Aside0 (W.drew.cell? ⟨b, 1, none⟩ = some v) ∧ Aside0 (Below w.heap.size w W.drew) := ⟨h.1, h.2.1, ⟨below_drew1 h.2.2.out⟩⟩
set_option maxRecDepth 100000 in
set_option maxHeartbeats 8000000 in
theorem text_calls (v : Int) (w : World) (hU : UTab w) (hP : PTab w) :
    Calls Tryd.prog 15 #[.int .i64 v] w fun e w' => e = .returned (.tuple #[.string (B (textL v).1), errS (textL v).2]) ∧ Below w.heap.size w w' := by
  obtain ⟨R, hR⟩ : ∃ R, R = textL v := ⟨_, rfl⟩
  rw [← hR]
  have HU := Aside0.mk hU
  have HP := Aside0.mk hP
  clear hU hP
  by_cases h1 : v < 0
  · have HR : Aside0 (R = ([], some 13)) := ⟨by rw [hR]; unfold textL; rw [if_pos (Or.inl h1)]⟩
    have d1 : (v < 0) = True := eq_true h1
    clear hR h1
    go_enter Tryd.func15, Tryd.ntmps15
    go_wp2
    go_ret2
    exact ⟨by rw [HR.out]; rfl, Below.refl _ _⟩
  have d1 : (v < 0) = False := eq_false h1
  by_cases h2 : 35184372088832 < v
  · have HR : Aside0 (R = ([], some 13)) := ⟨by rw [hR]; unfold textL; rw [if_pos (Or.inr h2)]⟩
    have d2 : (35184372088832 < v) = True := eq_true h2
    clear hR h1 h2
    go_enter Tryd.func15, Tryd.ntmps15
    go_wp2
    go_ret2
    exact ⟨by rw [HR.out]; rfl, Below.refl _ _⟩
  have d2 : (35184372088832 < v) = False := eq_false h2
  by_cases h3 : v = 0
  · subst h3
    have HR : Aside0 (R = ([48, 115], none)) := ⟨by rw [hR]; rfl⟩
    clear hR h1 h2 d1 d2
    go_enter Tryd.func15, Tryd.ntmps15
    go_wp2
    go_ret2
    exact ⟨by rw [HR.out]; rfl, Below.refl _ _⟩
  have d3 : (v == 0) = false := by simpa using h3
  have HR : Aside0 (R = (texL units v, none) ∧ 0 ≤ v ∧ v ≤ 35184372088832) := ⟨by rw [hR]; unfold textL; rw [if_neg (by unfold M; omega), if_neg h3], by omega, by omega⟩
  clear hR h1 h2 h3
  obtain ⟨c0, c1, c2, c3, c4, c5, c6, c7, c8, c9, c10, c11, c12, c13⟩ := HU.out
  go_enter Tryd.func15, Tryd.ntmps15
  go_wp2
  clear c0 c1 c2 c3 c4 c5 c6 c7 c8 c9 c10 c11 c12 c13 d1 d2 d3
  go_loopg [0, 4, 18] 7 (fun g v0 v4 v18 wr => ∃ (x y : Int) (acc : List UInt8), v0 = .int .i64 y ∧ v4 = .string (B acc) ∧ v18 = .int .i64 x ∧ g = 7 - x.toNat ∧ 0 ≤ x ∧ x ≤ 7 ∧
    Aside0 (R = (acc ++ texL (units.drop x.toNat) y, none) ∧ 0 ≤ y ∧ y ≤ 35184372088832 ∧ (acc.length : Int) ≤ 40000000000000 * x) ∧ Aside0 (Below w.heap.size w wr))
  case atStart => exact ⟨0, v, [], rfl, rfl, rfl, rfl, by omega, by omega, ⟨HR.out.1, HR.out.2.1, HR.out.2.2, by decide⟩, ⟨Below.refl _ _⟩⟩
  case round =>
    clear HR
    obtain ⟨x, y, acc, rfl, rfl, rfl, rfl, hx0, hx7, I, HB⟩ := hrel
    have hcases : x = 0 ∨ x = 1 ∨ x = 2 ∨ x = 3 ∨ x = 4 ∨ x = 5 ∨ x = 6 ∨ x = 7 := by omega
    clear hx0 hx7
    rcases hcases with rfl | rfl | rfl | rfl | rfl | rfl | rfl | rfl
    · have hix := ix0
      have w1 : wrap64 (y.tdiv 31536000000) = y / 31536000000 := by obtain ⟨_, h1, h2, _⟩ := I.out; rw [Int.tdiv_eq_ediv_of_nonneg h1]; unfold wrap64; omega
      have w2 : y.tmod 31536000000 = y % 31536000000 := by obtain ⟨_, h1, h2, _⟩ := I.out; rw [Int.tmod_eq_emod_of_nonneg h1]
      have hst := texL_step 0 ([121], 31536000000) _ rfl y
      have ST : Aside0 (texL (units.drop 0) y = (if 0 < y / 31536000000 then Lib.decDigits (y / 31536000000).toNat ++ [121] else []) ++ texL (units.drop 1) (y % 31536000000)) := ⟨by exact hst⟩
      clear hst
      by_cases hn : 0 < y / 31536000000
      · have d1 : (0 < y / 31536000000) = True := eq_true hn
        have hC : ∀ W, Aside0 (Below w.heap.size w W) → Calls Tryd.prog 28 #[.int .i64 (y / 31536000000), .int .i64 10] W fun e w' => e = .returned (.string (B (Lib.decDigits (y / 31536000000).toNat))) ∧ Below W.heap.size W w' := by
          intro W hW
          exact format_calls _ (by omega) (by obtain ⟨_, h1, h2, _⟩ := I.out; unfold M; omega) W (PTab.below HP.out hW.out)
        have C := Aside0.mk hC
        obtain ⟨D, hD⟩ : ∃ D, D = Lib.decDigits (y / 31536000000).toNat := ⟨_, rfl⟩
        rw [← hD] at C
        have hl : D.length ≤ (y / 31536000000).toNat + 1 ∧ (acc.length : Int) ≤ 40000000000000 * 0 ∧ y / 31536000000 ≤ 35184372088832 := ⟨by rw [hD]; exact dec_len _, I.out.2.2.2, by obtain ⟨_, h1, h2, _⟩ := I.out; omega⟩
        have e2 : (9223372036854775807 < D.length + 1) = False := eq_false (by omega)
        have e3 : (9223372036854775807 < acc.length + (D.length + 1)) = False := eq_false (by omega)
        have N : Aside0 (R = ((acc ++ (D ++ [121])) ++ texL (units.drop 1) (y % 31536000000), none) ∧ 0 ≤ y % 31536000000 ∧ y % 31536000000 ≤ 35184372088832 ∧ ((acc ++ (D ++ [121])).length : Int) ≤ 40000000000000 * 1) := by
          obtain ⟨h0, h1, h2, h3⟩ := I.out
          refine ⟨?_, by omega, by omega, ?_⟩
          · rw [h0, show (Int.toNat 0) = 0 from rfl, ST.out, if_pos hn, hD]
            simp only [List.append_assoc]
          · simp only [List.length_append, List.length_cons, List.length_nil]
            omega
        clear hC hn hD hl
        go_wp2
        go_region_held3 (fun w' => w'.cell? ⟨wr.heap.size, 0, none⟩ = some (.string (B [121])) ∧ Aside0 (w'.cell? ⟨wr.heap.size, 1, none⟩ = some (.int .i64 31536000000)) ∧ Aside0 (Below w.heap.size w w'))
          (first | exact keepU (by assumption) (by assumption) | exact keepD (by assumption) | exact ⟨by simp, ⟨by simp⟩, ⟨below_drew1 (below_alloc HB.out _)⟩⟩)
          (first | (go_at_call 28; refine (C.out _ ?_).mono ?_; exact (‹_ ∧ Aside0 _ ∧ Aside0 (Below _ _ _)›).2.2; rintro e w2 ⟨rfl, hb2⟩))
        have hS := (‹_ ∧ Aside0 (w2.cell? _ = _) ∧ Aside0 (Below w.heap.size w w2)›)
        have hc := hS.2.1.out
        have HB2 := hS.2.2
        clear hS
        go_wp2
        go_roundg (7 - 1)
        case measure => decide
        case rel => exact ⟨1, y % 31536000000, acc ++ (D ++ [121]), by first | rfl | rw [w2], by rw [B_app, B_app], rfl, rfl, by omega, by omega, N, HB2⟩
      · have d1 : (0 < y / 31536000000) = False := eq_false hn
        have N : Aside0 (R = (acc ++ texL (units.drop 1) (y % 31536000000), none) ∧ 0 ≤ y % 31536000000 ∧ y % 31536000000 ≤ 35184372088832 ∧ (acc.length : Int) ≤ 40000000000000 * 1) := by
          obtain ⟨h0, h1, h2, h3⟩ := I.out
          refine ⟨?_, by omega, by omega, by omega⟩
          rw [h0, show (Int.toNat 0) = 0 from rfl, ST.out, if_neg hn, List.nil_append]
        clear hn
        go_wp2
        go_roundg (7 - 1)
        case measure => decide
        case rel => exact ⟨1, y % 31536000000, acc, by first | rfl | rw [w2], rfl, rfl, rfl, by omega, by omega, N, ⟨below_alloc HB.out _⟩⟩
    · have hix := ix1
      have w1 : wrap64 (y.tdiv 604800000) = y / 604800000 := by obtain ⟨_, h1, h2, _⟩ := I.out; rw [Int.tdiv_eq_ediv_of_nonneg h1]; unfold wrap64; omega
      have w2 : y.tmod 604800000 = y % 604800000 := by obtain ⟨_, h1, h2, _⟩ := I.out; rw [Int.tmod_eq_emod_of_nonneg h1]
      have hst := texL_step 1 ([119], 604800000) _ rfl y
      have ST : Aside0 (texL (units.drop 1) y = (if 0 < y / 604800000 then Lib.decDigits (y / 604800000).toNat ++ [119] else []) ++ texL (units.drop 2) (y % 604800000)) := ⟨by exact hst⟩
      clear hst
      by_cases hn : 0 < y / 604800000
      · have d1 : (0 < y / 604800000) = True := eq_true hn
        have hC : ∀ W, Aside0 (Below w.heap.size w W) → Calls Tryd.prog 28 #[.int .i64 (y / 604800000), .int .i64 10] W fun e w' => e = .returned (.string (B (Lib.decDigits (y / 604800000).toNat))) ∧ Below W.heap.size W w' := by
          intro W hW
          exact format_calls _ (by omega) (by obtain ⟨_, h1, h2, _⟩ := I.out; unfold M; omega) W (PTab.below HP.out hW.out)
        have C := Aside0.mk hC
        obtain ⟨D, hD⟩ : ∃ D, D = Lib.decDigits (y / 604800000).toNat := ⟨_, rfl⟩
        rw [← hD] at C
        have hl : D.length ≤ (y / 604800000).toNat + 1 ∧ (acc.length : Int) ≤ 40000000000000 * 1 ∧ y / 604800000 ≤ 35184372088832 := ⟨by rw [hD]; exact dec_len _, I.out.2.2.2, by obtain ⟨_, h1, h2, _⟩ := I.out; omega⟩
        have e2 : (9223372036854775807 < D.length + 1) = False := eq_false (by omega)
        have e3 : (9223372036854775807 < acc.length + (D.length + 1)) = False := eq_false (by omega)
        have N : Aside0 (R = ((acc ++ (D ++ [119])) ++ texL (units.drop 2) (y % 604800000), none) ∧ 0 ≤ y % 604800000 ∧ y % 604800000 ≤ 35184372088832 ∧ ((acc ++ (D ++ [119])).length : Int) ≤ 40000000000000 * 2) := by
          obtain ⟨h0, h1, h2, h3⟩ := I.out
          refine ⟨?_, by omega, by omega, ?_⟩
          · rw [h0, show (Int.toNat 1) = 1 from rfl, ST.out, if_pos hn, hD]
            simp only [List.append_assoc]
          · simp only [List.length_append, List.length_cons, List.length_nil]
            omega
        clear hC hn hD hl
        go_wp2
        go_region_held3 (fun w' => w'.cell? ⟨wr.heap.size, 0, none⟩ = some (.string (B [119])) ∧ Aside0 (w'.cell? ⟨wr.heap.size, 1, none⟩ = some (.int .i64 604800000)) ∧ Aside0 (Below w.heap.size w w'))
          (first | exact keepU (by assumption) (by assumption) | exact keepD (by assumption) | exact ⟨by simp, ⟨by simp⟩, ⟨below_drew1 (below_alloc HB.out _)⟩⟩)
          (first | (go_at_call 28; refine (C.out _ ?_).mono ?_; exact (‹_ ∧ Aside0 _ ∧ Aside0 (Below _ _ _)›).2.2; rintro e w2 ⟨rfl, hb2⟩))
        have hS := (‹_ ∧ Aside0 (w2.cell? _ = _) ∧ Aside0 (Below w.heap.size w w2)›)
        have hc := hS.2.1.out
        have HB2 := hS.2.2
        clear hS
        go_wp2
        go_roundg (7 - 2)
        case measure => decide
        case rel => exact ⟨2, y % 604800000, acc ++ (D ++ [119]), by first | rfl | rw [w2], by rw [B_app, B_app], rfl, rfl, by omega, by omega, N, HB2⟩
      · have d1 : (0 < y / 604800000) = False := eq_false hn
        have N : Aside0 (R = (acc ++ texL (units.drop 2) (y % 604800000), none) ∧ 0 ≤ y % 604800000 ∧ y % 604800000 ≤ 35184372088832 ∧ (acc.length : Int) ≤ 40000000000000 * 2) := by
          obtain ⟨h0, h1, h2, h3⟩ := I.out
          refine ⟨?_, by omega, by omega, by omega⟩
          rw [h0, show (Int.toNat 1) = 1 from rfl, ST.out, if_neg hn, List.nil_append]
        clear hn
        go_wp2
        go_roundg (7 - 2)
        case measure => decide
        case rel => exact ⟨2, y % 604800000, acc, by first | rfl | rw [w2], rfl, rfl, rfl, by omega, by omega, N, ⟨below_alloc HB.out _⟩⟩
    · have hix := ix2
      have w1 : wrap64 (y.tdiv 86400000) = y / 86400000 := by obtain ⟨_, h1, h2, _⟩ := I.out; rw [Int.tdiv_eq_ediv_of_nonneg h1]; unfold wrap64; omega
      have w2 : y.tmod 86400000 = y % 86400000 := by obtain ⟨_, h1, h2, _⟩ := I.out; rw [Int.tmod_eq_emod_of_nonneg h1]
      have hst := texL_step 2 ([100], 86400000) _ rfl y
      have ST : Aside0 (texL (units.drop 2) y = (if 0 < y / 86400000 then Lib.decDigits (y / 86400000).toNat ++ [100] else []) ++ texL (units.drop 3) (y % 86400000)) := ⟨by exact hst⟩
      clear hst
      by_cases hn : 0 < y / 86400000
      · have d1 : (0 < y / 86400000) = True := eq_true hn
        have hC : ∀ W, Aside0 (Below w.heap.size w W) → Calls Tryd.prog 28 #[.int .i64 (y / 86400000), .int .i64 10] W fun e w' => e = .returned (.string (B (Lib.decDigits (y / 86400000).toNat))) ∧ Below W.heap.size W w' := by
          intro W hW
          exact format_calls _ (by omega) (by obtain ⟨_, h1, h2, _⟩ := I.out; unfold M; omega) W (PTab.below HP.out hW.out)
        have C := Aside0.mk hC
        obtain ⟨D, hD⟩ : ∃ D, D = Lib.decDigits (y / 86400000).toNat := ⟨_, rfl⟩
        rw [← hD] at C
        have hl : D.length ≤ (y / 86400000).toNat + 1 ∧ (acc.length : Int) ≤ 40000000000000 * 2 ∧ y / 86400000 ≤ 35184372088832 := ⟨by rw [hD]; exact dec_len _, I.out.2.2.2, by obtain ⟨_, h1, h2, _⟩ := I.out; omega⟩
        have e2 : (9223372036854775807 < D.length + 1) = False := eq_false (by omega)
        have e3 : (9223372036854775807 < acc.length + (D.length + 1)) = False := eq_false (by omega)
        have N : Aside0 (R = ((acc ++ (D ++ [100])) ++ texL (units.drop 3) (y % 86400000), none) ∧ 0 ≤ y % 86400000 ∧ y % 86400000 ≤ 35184372088832 ∧ ((acc ++ (D ++ [100])).length : Int) ≤ 40000000000000 * 3) := by
          obtain ⟨h0, h1, h2, h3⟩ := I.out
          refine ⟨?_, by omega, by omega, ?_⟩
          · rw [h0, show (Int.toNat 2) = 2 from rfl, ST.out, if_pos hn, hD]
            simp only [List.append_assoc]
          · simp only [List.length_append, List.length_cons, List.length_nil]
            omega
        clear hC hn hD hl
        go_wp2
        go_region_held3 (fun w' => w'.cell? ⟨wr.heap.size, 0, none⟩ = some (.string (B [100])) ∧ Aside0 (w'.cell? ⟨wr.heap.size, 1, none⟩ = some (.int .i64 86400000)) ∧ Aside0 (Below w.heap.size w w'))
          (first | exact keepU (by assumption) (by assumption) | exact keepD (by assumption) | exact ⟨by simp, ⟨by simp⟩, ⟨below_drew1 (below_alloc HB.out _)⟩⟩)
          (first | (go_at_call 28; refine (C.out _ ?_).mono ?_; exact (‹_ ∧ Aside0 _ ∧ Aside0 (Below _ _ _)›).2.2; rintro e w2 ⟨rfl, hb2⟩))
        have hS := (‹_ ∧ Aside0 (w2.cell? _ = _) ∧ Aside0 (Below w.heap.size w w2)›)
        have hc := hS.2.1.out
        have HB2 := hS.2.2
        clear hS
        go_wp2
        go_roundg (7 - 3)
        case measure => decide
        case rel => exact ⟨3, y % 86400000, acc ++ (D ++ [100]), by first | rfl | rw [w2], by rw [B_app, B_app], rfl, rfl, by omega, by omega, N, HB2⟩
      · have d1 : (0 < y / 86400000) = False := eq_false hn
        have N : Aside0 (R = (acc ++ texL (units.drop 3) (y % 86400000), none) ∧ 0 ≤ y % 86400000 ∧ y % 86400000 ≤ 35184372088832 ∧ (acc.length : Int) ≤ 40000000000000 * 3) := by
          obtain ⟨h0, h1, h2, h3⟩ := I.out
          refine ⟨?_, by omega, by omega, by omega⟩
          rw [h0, show (Int.toNat 2) = 2 from rfl, ST.out, if_neg hn, List.nil_append]
        clear hn
        go_wp2
        go_roundg (7 - 3)
        case measure => decide
        case rel => exact ⟨3, y % 86400000, acc, by first | rfl | rw [w2], rfl, rfl, rfl, by omega, by omega, N, ⟨below_alloc HB.out _⟩⟩
    · have hix := ix3
      have w1 : wrap64 (y.tdiv 3600000) = y / 3600000 := by obtain ⟨_, h1, h2, _⟩ := I.out; rw [Int.tdiv_eq_ediv_of_nonneg h1]; unfold wrap64; omega
      have w2 : y.tmod 3600000 = y % 3600000 := by obtain ⟨_, h1, h2, _⟩ := I.out; rw [Int.tmod_eq_emod_of_nonneg h1]
      have hst := texL_step 3 ([104], 3600000) _ rfl y
      have ST : Aside0 (texL (units.drop 3) y = (if 0 < y / 3600000 then Lib.decDigits (y / 3600000).toNat ++ [104] else []) ++ texL (units.drop 4) (y % 3600000)) := ⟨by exact hst⟩
      clear hst
      by_cases hn : 0 < y / 3600000
      · have d1 : (0 < y / 3600000) = True := eq_true hn
        have hC : ∀ W, Aside0 (Below w.heap.size w W) → Calls Tryd.prog 28 #[.int .i64 (y / 3600000), .int .i64 10] W fun e w' => e = .returned (.string (B (Lib.decDigits (y / 3600000).toNat))) ∧ Below W.heap.size W w' := by
          intro W hW
          exact format_calls _ (by omega) (by obtain ⟨_, h1, h2, _⟩ := I.out; unfold M; omega) W (PTab.below HP.out hW.out)
        have C := Aside0.mk hC
        obtain ⟨D, hD⟩ : ∃ D, D = Lib.decDigits (y / 3600000).toNat := ⟨_, rfl⟩
        rw [← hD] at C
        have hl : D.length ≤ (y / 3600000).toNat + 1 ∧ (acc.length : Int) ≤ 40000000000000 * 3 ∧ y / 3600000 ≤ 35184372088832 := ⟨by rw [hD]; exact dec_len _, I.out.2.2.2, by obtain ⟨_, h1, h2, _⟩ := I.out; omega⟩
        have e2 : (9223372036854775807 < D.length + 1) = False := eq_false (by omega)
        have e3 : (9223372036854775807 < acc.length + (D.length + 1)) = False := eq_false (by omega)
        have N : Aside0 (R = ((acc ++ (D ++ [104])) ++ texL (units.drop 4) (y % 3600000), none) ∧ 0 ≤ y % 3600000 ∧ y % 3600000 ≤ 35184372088832 ∧ ((acc ++ (D ++ [104])).length : Int) ≤ 40000000000000 * 4) := by
          obtain ⟨h0, h1, h2, h3⟩ := I.out
          refine ⟨?_, by omega, by omega, ?_⟩
          · rw [h0, show (Int.toNat 3) = 3 from rfl, ST.out, if_pos hn, hD]
            simp only [List.append_assoc]
          · simp only [List.length_append, List.length_cons, List.length_nil]
            omega
        clear hC hn hD hl
        go_wp2
        go_region_held3 (fun w' => w'.cell? ⟨wr.heap.size, 0, none⟩ = some (.string (B [104])) ∧ Aside0 (w'.cell? ⟨wr.heap.size, 1, none⟩ = some (.int .i64 3600000)) ∧ Aside0 (Below w.heap.size w w'))
          (first | exact keepU (by assumption) (by assumption) | exact keepD (by assumption) | exact ⟨by simp, ⟨by simp⟩, ⟨below_drew1 (below_alloc HB.out _)⟩⟩)
          (first | (go_at_call 28; refine (C.out _ ?_).mono ?_; exact (‹_ ∧ Aside0 _ ∧ Aside0 (Below _ _ _)›).2.2; rintro e w2 ⟨rfl, hb2⟩))
        have hS := (‹_ ∧ Aside0 (w2.cell? _ = _) ∧ Aside0 (Below w.heap.size w w2)›)
        have hc := hS.2.1.out
        have HB2 := hS.2.2
        clear hS
        go_wp2
        go_roundg (7 - 4)
        case measure => decide
        case rel => exact ⟨4, y % 3600000, acc ++ (D ++ [104]), by first | rfl | rw [w2], by rw [B_app, B_app], rfl, rfl, by omega, by omega, N, HB2⟩
      · have d1 : (0 < y / 3600000) = False := eq_false hn
        have N : Aside0 (R = (acc ++ texL (units.drop 4) (y % 3600000), none) ∧ 0 ≤ y % 3600000 ∧ y % 3600000 ≤ 35184372088832 ∧ (acc.length : Int) ≤ 40000000000000 * 4) := by
          obtain ⟨h0, h1, h2, h3⟩ := I.out
          refine ⟨?_, by omega, by omega, by omega⟩
          rw [h0, show (Int.toNat 3) = 3 from rfl, ST.out, if_neg hn, List.nil_append]
        clear hn
        go_wp2
        go_roundg (7 - 4)
        case measure => decide
        case rel => exact ⟨4, y % 3600000, acc, by first | rfl | rw [w2], rfl, rfl, rfl, by omega, by omega, N, ⟨below_alloc HB.out _⟩⟩
    · have hix := ix4
      have w1 : wrap64 (y.tdiv 60000) = y / 60000 := by obtain ⟨_, h1, h2, _⟩ := I.out; rw [Int.tdiv_eq_ediv_of_nonneg h1]; unfold wrap64; omega
      have w2 : y.tmod 60000 = y % 60000 := by obtain ⟨_, h1, h2, _⟩ := I.out; rw [Int.tmod_eq_emod_of_nonneg h1]
      have hst := texL_step 4 ([109], 60000) _ rfl y
      have ST : Aside0 (texL (units.drop 4) y = (if 0 < y / 60000 then Lib.decDigits (y / 60000).toNat ++ [109] else []) ++ texL (units.drop 5) (y % 60000)) := ⟨by exact hst⟩
      clear hst
      by_cases hn : 0 < y / 60000
      · have d1 : (0 < y / 60000) = True := eq_true hn
        have hC : ∀ W, Aside0 (Below w.heap.size w W) → Calls Tryd.prog 28 #[.int .i64 (y / 60000), .int .i64 10] W fun e w' => e = .returned (.string (B (Lib.decDigits (y / 60000).toNat))) ∧ Below W.heap.size W w' := by
          intro W hW
          exact format_calls _ (by omega) (by obtain ⟨_, h1, h2, _⟩ := I.out; unfold M; omega) W (PTab.below HP.out hW.out)
        have C := Aside0.mk hC
        obtain ⟨D, hD⟩ : ∃ D, D = Lib.decDigits (y / 60000).toNat := ⟨_, rfl⟩
        rw [← hD] at C
        have hl : D.length ≤ (y / 60000).toNat + 1 ∧ (acc.length : Int) ≤ 40000000000000 * 4 ∧ y / 60000 ≤ 35184372088832 := ⟨by rw [hD]; exact dec_len _, I.out.2.2.2, by obtain ⟨_, h1, h2, _⟩ := I.out; omega⟩
        have e2 : (9223372036854775807 < D.length + 1) = False := eq_false (by omega)
        have e3 : (9223372036854775807 < acc.length + (D.length + 1)) = False := eq_false (by omega)
        have N : Aside0 (R = ((acc ++ (D ++ [109])) ++ texL (units.drop 5) (y % 60000), none) ∧ 0 ≤ y % 60000 ∧ y % 60000 ≤ 35184372088832 ∧ ((acc ++ (D ++ [109])).length : Int) ≤ 40000000000000 * 5) := by
          obtain ⟨h0, h1, h2, h3⟩ := I.out
          refine ⟨?_, by omega, by omega, ?_⟩
          · rw [h0, show (Int.toNat 4) = 4 from rfl, ST.out, if_pos hn, hD]
            simp only [List.append_assoc]
          · simp only [List.length_append, List.length_cons, List.length_nil]
            omega
        clear hC hn hD hl
        go_wp2
        go_region_held3 (fun w' => w'.cell? ⟨wr.heap.size, 0, none⟩ = some (.string (B [109])) ∧ Aside0 (w'.cell? ⟨wr.heap.size, 1, none⟩ = some (.int .i64 60000)) ∧ Aside0 (Below w.heap.size w w'))
          (first | exact keepU (by assumption) (by assumption) | exact keepD (by assumption) | exact ⟨by simp, ⟨by simp⟩, ⟨below_drew1 (below_alloc HB.out _)⟩⟩)
          (first | (go_at_call 28; refine (C.out _ ?_).mono ?_; exact (‹_ ∧ Aside0 _ ∧ Aside0 (Below _ _ _)›).2.2; rintro e w2 ⟨rfl, hb2⟩))
        have hS := (‹_ ∧ Aside0 (w2.cell? _ = _) ∧ Aside0 (Below w.heap.size w w2)›)
        have hc := hS.2.1.out
        have HB2 := hS.2.2
        clear hS
        go_wp2
        go_roundg (7 - 5)
        case measure => decide
        case rel => exact ⟨5, y % 60000, acc ++ (D ++ [109]), by first | rfl | rw [w2], by rw [B_app, B_app], rfl, rfl, by omega, by omega, N, HB2⟩
      · have d1 : (0 < y / 60000) = False := eq_false hn
        have N : Aside0 (R = (acc ++ texL (units.drop 5) (y % 60000), none) ∧ 0 ≤ y % 60000 ∧ y % 60000 ≤ 35184372088832 ∧ (acc.length : Int) ≤ 40000000000000 * 5) := by
          obtain ⟨h0, h1, h2, h3⟩ := I.out
          refine ⟨?_, by omega, by omega, by omega⟩
          rw [h0, show (Int.toNat 4) = 4 from rfl, ST.out, if_neg hn, List.nil_append]
        clear hn
        go_wp2
        go_roundg (7 - 5)
        case measure => decide
        case rel => exact ⟨5, y % 60000, acc, by first | rfl | rw [w2], rfl, rfl, rfl, by omega, by omega, N, ⟨below_alloc HB.out _⟩⟩
    · have hix := ix5
      have w1 : wrap64 (y.tdiv 1000) = y / 1000 := by obtain ⟨_, h1, h2, _⟩ := I.out; rw [Int.tdiv_eq_ediv_of_nonneg h1]; unfold wrap64; omega
      have w2 : y.tmod 1000 = y % 1000 := by obtain ⟨_, h1, h2, _⟩ := I.out; rw [Int.tmod_eq_emod_of_nonneg h1]
      have hst := texL_step 5 ([115], 1000) _ rfl y
      have ST : Aside0 (texL (units.drop 5) y = (if 0 < y / 1000 then Lib.decDigits (y / 1000).toNat ++ [115] else []) ++ texL (units.drop 6) (y % 1000)) := ⟨by exact hst⟩
      clear hst
      by_cases hn : 0 < y / 1000
      · have d1 : (0 < y / 1000) = True := eq_true hn
        have hC : ∀ W, Aside0 (Below w.heap.size w W) → Calls Tryd.prog 28 #[.int .i64 (y / 1000), .int .i64 10] W fun e w' => e = .returned (.string (B (Lib.decDigits (y / 1000).toNat))) ∧ Below W.heap.size W w' := by
          intro W hW
          exact format_calls _ (by omega) (by obtain ⟨_, h1, h2, _⟩ := I.out; unfold M; omega) W (PTab.below HP.out hW.out)
        have C := Aside0.mk hC
        obtain ⟨D, hD⟩ : ∃ D, D = Lib.decDigits (y / 1000).toNat := ⟨_, rfl⟩
        rw [← hD] at C
        have hl : D.length ≤ (y / 1000).toNat + 1 ∧ (acc.length : Int) ≤ 40000000000000 * 5 ∧ y / 1000 ≤ 35184372088832 := ⟨by rw [hD]; exact dec_len _, I.out.2.2.2, by obtain ⟨_, h1, h2, _⟩ := I.out; omega⟩
        have e2 : (9223372036854775807 < D.length + 1) = False := eq_false (by omega)
        have e3 : (9223372036854775807 < acc.length + (D.length + 1)) = False := eq_false (by omega)
        have N : Aside0 (R = ((acc ++ (D ++ [115])) ++ texL (units.drop 6) (y % 1000), none) ∧ 0 ≤ y % 1000 ∧ y % 1000 ≤ 35184372088832 ∧ ((acc ++ (D ++ [115])).length : Int) ≤ 40000000000000 * 6) := by
          obtain ⟨h0, h1, h2, h3⟩ := I.out
          refine ⟨?_, by omega, by omega, ?_⟩
          · rw [h0, show (Int.toNat 5) = 5 from rfl, ST.out, if_pos hn, hD]
            simp only [List.append_assoc]
          · simp only [List.length_append, List.length_cons, List.length_nil]
            omega
        clear hC hn hD hl
        go_wp2
        go_region_held3 (fun w' => w'.cell? ⟨wr.heap.size, 0, none⟩ = some (.string (B [115])) ∧ Aside0 (w'.cell? ⟨wr.heap.size, 1, none⟩ = some (.int .i64 1000)) ∧ Aside0 (Below w.heap.size w w'))
          (first | exact keepU (by assumption) (by assumption) | exact keepD (by assumption) | exact ⟨by simp, ⟨by simp⟩, ⟨below_drew1 (below_alloc HB.out _)⟩⟩)
          (first | (go_at_call 28; refine (C.out _ ?_).mono ?_; exact (‹_ ∧ Aside0 _ ∧ Aside0 (Below _ _ _)›).2.2; rintro e w2 ⟨rfl, hb2⟩))
        have hS := (‹_ ∧ Aside0 (w2.cell? _ = _) ∧ Aside0 (Below w.heap.size w w2)›)
        have hc := hS.2.1.out
        have HB2 := hS.2.2
        clear hS
        go_wp2
        go_roundg (7 - 6)
        case measure => decide
        case rel => exact ⟨6, y % 1000, acc ++ (D ++ [115]), by first | rfl | rw [w2], by rw [B_app, B_app], rfl, rfl, by omega, by omega, N, HB2⟩
      · have d1 : (0 < y / 1000) = False := eq_false hn
        have N : Aside0 (R = (acc ++ texL (units.drop 6) (y % 1000), none) ∧ 0 ≤ y % 1000 ∧ y % 1000 ≤ 35184372088832 ∧ (acc.length : Int) ≤ 40000000000000 * 6) := by
          obtain ⟨h0, h1, h2, h3⟩ := I.out
          refine ⟨?_, by omega, by omega, by omega⟩
          rw [h0, show (Int.toNat 5) = 5 from rfl, ST.out, if_neg hn, List.nil_append]
        clear hn
        go_wp2
        go_roundg (7 - 6)
        case measure => decide
        case rel => exact ⟨6, y % 1000, acc, by first | rfl | rw [w2], rfl, rfl, rfl, by omega, by omega, N, ⟨below_alloc HB.out _⟩⟩
    · have hix := ix6
      have w1 : wrap64 (y) = y := by obtain ⟨_, h1, h2, _⟩ := I.out; unfold wrap64; omega
      have w2 : True := trivial
      have hst := texL_step 6 ([109, 115], 1) _ rfl y
      have ST : Aside0 (texL (units.drop 6) y = (if 0 < y then Lib.decDigits (y).toNat ++ [109, 115] else []) ++ texL (units.drop 7) (0)) := ⟨by simp only [Int.ediv_one, Int.emod_one] at hst; exact hst⟩
      clear hst
      by_cases hn : 0 < y
      · have d1 : (0 < y) = True := eq_true hn
        have hC : ∀ W, Aside0 (Below w.heap.size w W) → Calls Tryd.prog 28 #[.int .i64 (y), .int .i64 10] W fun e w' => e = .returned (.string (B (Lib.decDigits (y).toNat))) ∧ Below W.heap.size W w' := by
          intro W hW
          exact format_calls _ (by omega) (by obtain ⟨_, h1, h2, _⟩ := I.out; unfold M; omega) W (PTab.below HP.out hW.out)
        have C := Aside0.mk hC
        obtain ⟨D, hD⟩ : ∃ D, D = Lib.decDigits (y).toNat := ⟨_, rfl⟩
        rw [← hD] at C
        have hl : D.length ≤ (y).toNat + 1 ∧ (acc.length : Int) ≤ 40000000000000 * 6 ∧ y ≤ 35184372088832 := ⟨by rw [hD]; exact dec_len _, I.out.2.2.2, by obtain ⟨_, h1, h2, _⟩ := I.out; omega⟩
        have e2 : (9223372036854775807 < D.length + 2) = False := eq_false (by omega)
        have e3 : (9223372036854775807 < acc.length + (D.length + 2)) = False := eq_false (by omega)
        have N : Aside0 (R = ((acc ++ (D ++ [109, 115])) ++ texL (units.drop 7) (0), none) ∧ (0 : Int) ≤ 0 ∧ (0 : Int) ≤ 35184372088832 ∧ ((acc ++ (D ++ [109, 115])).length : Int) ≤ 40000000000000 * 7) := by
          obtain ⟨h0, h1, h2, h3⟩ := I.out
          refine ⟨?_, by omega, by omega, ?_⟩
          · rw [h0, show (Int.toNat 6) = 6 from rfl, ST.out, if_pos hn, hD]
            simp only [List.append_assoc]
          · simp only [List.length_append, List.length_cons, List.length_nil]
            omega
        clear hC hn hD hl
        go_wp2
        go_region_held3 (fun w' => w'.cell? ⟨wr.heap.size, 0, none⟩ = some (.string (B [109, 115])) ∧ Aside0 (w'.cell? ⟨wr.heap.size, 1, none⟩ = some (.int .i64 1)) ∧ Aside0 (Below w.heap.size w w'))
          (first | exact keepU (by assumption) (by assumption) | exact keepD (by assumption) | exact ⟨by simp, ⟨by simp⟩, ⟨below_drew1 (below_alloc HB.out _)⟩⟩)
          (first | (go_at_call 28; refine (C.out _ ?_).mono ?_; exact (‹_ ∧ Aside0 _ ∧ Aside0 (Below _ _ _)›).2.2; rintro e w2 ⟨rfl, hb2⟩))
        have hS := (‹_ ∧ Aside0 (w2.cell? _ = _) ∧ Aside0 (Below w.heap.size w w2)›)
        have hc := hS.2.1.out
        have HB2 := hS.2.2
        clear hS
        go_wp2
        go_roundg (7 - 7)
        case measure => decide
        case rel => exact ⟨7, 0, acc ++ (D ++ [109, 115]), by first | rfl | rw [w2], by rw [B_app, B_app], rfl, rfl, by omega, by omega, N, HB2⟩
      · have d1 : (0 < y) = False := eq_false hn
        have N : Aside0 (R = (acc ++ texL (units.drop 7) (0), none) ∧ (0 : Int) ≤ 0 ∧ (0 : Int) ≤ 35184372088832 ∧ (acc.length : Int) ≤ 40000000000000 * 7) := by
          obtain ⟨h0, h1, h2, h3⟩ := I.out
          refine ⟨?_, by omega, by omega, by omega⟩
          rw [h0, show (Int.toNat 6) = 6 from rfl, ST.out, if_neg hn, List.nil_append]
        clear hn
        go_wp2
        go_roundg (7 - 7)
        case measure => decide
        case rel => exact ⟨7, 0, acc, by first | rfl | rw [w2], rfl, rfl, rfl, by omega, by omega, N, ⟨below_alloc HB.out _⟩⟩
    · have E : Aside0 (R = (acc, none)) := ⟨by rw [I.out.1]; simp [texL, units]⟩
      clear I
      go_wp2
      go_ret2
      exact ⟨by rw [E.out]; rfl, HB.out⟩
end Go.Proofs.YtmgbnnanophehaaDoor.Span
