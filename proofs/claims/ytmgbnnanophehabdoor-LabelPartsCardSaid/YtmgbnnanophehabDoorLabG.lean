/- Get and Part, the program's and the reference's; the law LabelParts in plain words. -/
import Derived.Test.YtmgbnnanophehabDoorLabGe
import Derived.Test.YtmgbnnanophehabDoorLabRt
import Derived.Test.YtmgbnnanophehabDoorLx61
namespace Go.Proofs.YtmgbnnanophehabDoor.Lab
open Go.Proofs Go.RowKit Go.Proofs.YtmgbnnanophehabDoor.Cmp Go.Proofs.YtmgbnnanophehabDoorW.PrintWords Go.Proofs.YtmgbnnanophehabDoorW.PrintLast Go.Proofs.YtmgbnnanophehabDoor.L
set_option linter.unusedVariables false
set_option linter.unusedSimpArgs false
theorem refget_l0 (l : List Lb) (n : ByteArray) (hl : l.length ≤ 9223372036854775807) (r : List Lb) : ∀ j : Nat, l.drop j = r → Lab.Ev (fun k => soundingsref01_Get.l0 k l n (j : Int)) (getL r n) := by
  induction r with
  | nil =>
    intro j h
    have hj := List.drop_eq_nil_iff.1 h
    refine Lab.Ev.done fun k => ?_
    simp only [soundingsref01_Get.l0]
    rw [if_neg (by omega)]; rfl
  | cons x r ih =>
    intro j h
    obtain ⟨hj, h2, hx, _⟩ := drop_cons h
    simp only [getL]
    by_cases he : x.f0 = n
    · rw [if_pos he]
      refine Lab.Ev.done fun k => ?_
      simp only [soundingsref01_Get.l0]
      rw [if_pos (by omega), if_pos (by omega), hx, if_pos ((toList_eq _ _).2 he)]
    · rw [if_neg he]
      refine (ih (j + 1) h2).step fun k => ?_
      simp only [soundingsref01_Get.l0]
      rw [if_pos (by omega), if_pos (by omega), hx, if_neg (fun e => he ((toList_eq _ _).1 e)), wrap_succ2 hj hl]
theorem refget_ev (l : List Lb) (n : ByteArray) (hl : l.length ≤ 9223372036854775807) : Lab.Ev (fun k => soundingsref01_Get.f k l n) (getL l n) := refget_l0 l n hl l 0 rfl
def hasR (names : List ByteArray) (s : ByteArray) : Bool := names.any fun y => y.toList == s.toList
theorem hasR_is (names : List ByteArray) (s : ByteArray) : hasR names s = hasB names s := by
  unfold hasR hasB
  congr 1
  funext y
  exact Bool.beq_comm ..
theorem names_drop {l : List ByteArray} {j : Nat} {x : ByteArray} {r : List ByteArray} (h : l.drop j = x :: r) : j < l.length ∧ l.drop (j + 1) = r ∧ rdOf ByteArray.empty l (j : Int) = x := by
  have hj : j < l.length := by
    rcases Nat.lt_or_ge j l.length with h1 | h1
    · exact h1
    · rw [List.drop_eq_nil_of_le h1] at h; cases h
  have he := List.drop_eq_getElem_cons hj
  rw [h] at he
  refine ⟨hj, (List.cons.inj he).2.symm, ?_⟩
  rw [(List.cons.inj he).1]
  simp [rdOf, List.getD_eq_getElem?_getD, List.getElem?_eq_getElem hj]
theorem part_l1 (l : List Lb) (names : List ByteArray) (am : Bool) (out : List Lb) (i : Nat) (hi : i < l.length) (hl : l.length ≤ 900) (hn : names.length ≤ 900) (ho : out.length ≤ 900) (X : List Lb) (r : List ByteArray) : ∀ (j : Nat) (fl : Bool), names.drop j = r →
    Lab.Ev (fun k => soundingsref01_Part.l0 k l names am (if ((fl || r.any fun y => y.toList == l[i].f0.toList) == am) = true then out ++ [l[i]] else out) ((i + 1 : Nat) : Int)) X → Lab.Ev (fun k => soundingsref01_Part.l1 k l names am out (i : Int) fl (j : Int)) X := by
  have hx : rd_T36 l (i : Int) = l[i] := lb_rd l i hi
  induction r with
  | nil =>
    intro j fl h hE
    have hj := List.drop_eq_nil_iff.1 h
    rw [List.any_nil, Bool.or_false] at hE
    refine hE.step fun k => ?_
    simp only [soundingsref01_Part.l1]
    rw [if_neg (by omega)]
    by_cases hc : (fl == am) = true
    · rw [if_pos hc, if_pos hc, if_pos (by omega), if_pos (by omega), if_pos (by omega), hx, wrap_succ2 hi (by omega)]
    · rw [if_neg hc, if_neg hc, wrap_succ2 hi (by omega)]
  | cons y r ih =>
    intro j fl h hE
    obtain ⟨hj, h2, hy⟩ := names_drop h
    cases fl with
    | true =>
      rw [Bool.true_or] at hE
      have h3 := ih (j + 1) true h2 (by rw [Bool.true_or]; exact hE)
      refine h3.step fun k => ?_
      simp only [soundingsref01_Part.l1]
      rw [if_pos (by omega), if_pos trivial, wrap_succ2 hj (by omega)]
    | false =>
      rw [List.any_cons, Bool.false_or] at hE
      have h3 := ih (j + 1) (y.toList == l[i].f0.toList) h2 hE
      refine h3.step fun k => ?_
      simp only [soundingsref01_Part.l1]
      rw [if_pos (by omega), if_neg (by decide), if_pos (by omega), if_pos (by omega), if_pos (by omega), hx, hy, wrap_succ2 hj (by omega)]
theorem part_l0 (l : List Lb) (names : List ByteArray) (am : Bool) (hl : l.length ≤ 900) (hn : names.length ≤ 900) (r : List Lb) : ∀ (i : Nat) (out : List Lb), l.drop i = r → out.length ≤ i → Lab.Ev (fun k => soundingsref01_Part.l0 k l names am out (i : Int)) (out ++ r.filter fun x => hasR names x.f0 == am) := by
  induction r with
  | nil =>
    intro i out h ho
    have hj := List.drop_eq_nil_iff.1 h
    refine Lab.Ev.done fun k => ?_
    simp only [soundingsref01_Part.l0]
    rw [if_neg (by omega)]
    simp
  | cons x r ih =>
    intro i out h ho
    obtain ⟨hj, h2, hx, hg⟩ := drop_cons h
    have hgi : l[i] = x := by rw [List.getElem?_eq_getElem hj] at hg; exact Option.some.inj hg
    have h1 : Lab.Ev (fun k => soundingsref01_Part.l1 k l names am out (i : Int) false (0 : Nat)) (out ++ (x :: r).filter fun x => hasR names x.f0 == am) := by
      refine part_l1 l names am out i hj hl hn (by omega) _ names 0 false (List.drop_zero) ?_
      rw [hgi, Bool.false_or]
      have h3 := ih (i + 1) (if (hasR names x.f0 == am) = true then out ++ [x] else out) h2 (by split <;> (try simp only [List.length_append, List.length_cons, List.length_nil]) <;> omega)
      rw [List.filter_cons]
      by_cases hc : (hasR names x.f0 == am) = true
      · rw [if_pos hc] at h3 ⊢
        rw [if_pos (show ((names.any fun y => y.toList == x.f0.toList) == am) = true from hc)]
        rw [List.append_assoc, List.singleton_append] at h3
        exact h3
      · rw [if_neg hc] at h3 ⊢
        rw [if_neg (show ¬ ((names.any fun y => y.toList == x.f0.toList) == am) = true from hc)]
        exact h3
    refine h1.step fun k => ?_
    simp only [soundingsref01_Part.l0]
    rw [if_pos (by omega)]
    rfl
theorem part_ev (l : List Lb) (names : List ByteArray) (am : Bool) (hl : l.length ≤ 900) (hn : names.length ≤ 900) : Lab.Ev (fun k => soundingsref01_Part.f k l names am) (if am = true then keepL l names else dropL l names) := by
  have := part_l0 l names am hl hn l 0 [] rfl (by simp)
  rw [List.nil_append] at this
  have e : (l.filter fun x => hasR names x.f0 == am) = (if am = true then keepL l names else dropL l names) := by
    unfold keepL dropL
    cases am <;> simp [hasR_is]
  rw [e] at this
  exact this
theorem keep_drop_len (l : List Lb) (names : List ByteArray) : (keepL l names).length + (dropL l names).length = l.length := by
  unfold keepL dropL
  induction l with
  | nil => rfl
  | cons x r ih =>
    rw [List.filter_cons, List.filter_cons]
    cases hasB names x.f0 <;> simp <;> omega
theorem right_filter {l : List Lb} (p : Lb → Bool) (h : rightB mayB l = true) : rightB mayB (l.filter p) = true := by
  rw [rightB_iff] at h ⊢
  exact ⟨List.Pairwise.filter _ h.1, fun y hy => h.2.1 y (List.mem_filter.1 hy).1, Nat.le_trans (List.length_filter_le _ _) h.2.2⟩
theorem sum_wrap (p q n : Nat) (h : p + q = n) (hn : n ≤ 900) : (wrap64 ((p : Int) + (q : Int)) != (n : Int)) = false := by
  rw [bne_eq_false_iff_eq]
  unfold wrap64; omega
theorem parts_j2 (a kp dp : List Lb) (ha : a.length ≤ 40) (hz : ∀ x ∈ a, x.f0.size ≤ 400 ∧ x.f1.size ≤ 400) (hk : kp.length ≤ 40) (hd : dp.length ≤ 40) (rk : rightB mayB a = true → rightB mayB kp = true) (rd : rightB mayB a = true → rightB mayB dp = true) :
    Lab.Ev (fun k => soundingslaw01_LabelParts.j2 k a kp dp false) true := by
  have h6 := refright_ev a (by omega) hz
  have h7 := right_ev kp (by omega)
  have h8 := right_ev dp (by omega)
  cases hr : rightB mayB a with
  | false =>
    rw [hr] at h6
    exact Lab.Ev.ask (g := fun t k => if t = true then ((label_Right.f k kp).bind fun t286 => (if t286 = true then ((label_Right.f k dp).bind fun t287 => (some t287)) else (some false))) else (some true)) h6 Lab.Ev.const (fun k => by simp only [soundingslaw01_LabelParts.j2]; rw [if_neg (by decide)]) (fun k => rfl)
  | true =>
    rw [hr] at h6
    rw [rk hr] at h7
    rw [rd hr] at h8
    have h9 : Lab.Ev (fun k => (label_Right.f k dp).bind fun t287 => (some t287)) true := Lab.Ev.ask0 (g := fun t _ => some t) h8 Lab.Ev.const (fun k => rfl) (fun k => rfl)
    have h10 : Lab.Ev (fun k => (label_Right.f k kp).bind fun t286 => (if t286 = true then ((label_Right.f k dp).bind fun t287 => (some t287)) else (some false))) true :=
      Lab.Ev.ask0 (g := fun t k => (if t = true then ((label_Right.f k dp).bind fun t287 => (some t287)) else (some false))) h7 h9 (fun k => rfl) (fun k => if_pos rfl)
    exact Lab.Ev.ask (g := fun t k => if t = true then ((label_Right.f k kp).bind fun t286 => (if t286 = true then ((label_Right.f k dp).bind fun t287 => (some t287)) else (some false))) else (some true)) h6 h10 (fun k => by simp only [soundingslaw01_LabelParts.j2]; rw [if_neg (by decide)]) (fun k => if_pos rfl)
theorem parts_end (a b kp dp : List Lb) (names : List ByteArray) (j : Nat) (hj : names.length ≤ j) (ha : a.length ≤ 40) (hk : kp.length + dp.length = a.length) (e1 : label_Keep.f a names = some kp) (e2 : label_Drop.f a names = some dp)
    (p1 : Lab.Ev (fun k => soundingsref01_Part.f k a names true) kp) (p2 : Lab.Ev (fun k => soundingsref01_Part.f k a names false) dp) (hE : Lab.Ev (fun k => soundingslaw01_LabelParts.j2 k a kp dp false) true) :
    Lab.Ev (fun k => soundingslaw01_LabelParts.l0 k a b names (j : Int)) true := by
  have h1 := refcmp_ev a b (by omega)
  have h3 := refcmp_ev kp kp (by omega)
  have h5 := refcmp_ev dp dp (by omega)
  rw [ord_ls.refl] at h3 h5
  have hs := sum_wrap _ _ _ hk (by omega)
  have s5 : Lab.Ev (fun k => (soundingsref01_Cmp.f k dp dp).bind fun t284 => (if t284 = 0 then (soundingslaw01_LabelParts.j2 k a kp dp ((wrap64 ((kp.length : Int) + (dp.length : Int))) != (a.length : Int))) else (soundingslaw01_LabelParts.j2 k a kp dp true))) true :=
    Lab.Ev.ask0 (g := fun t k => (if t = 0 then (soundingslaw01_LabelParts.j2 k a kp dp ((wrap64 ((kp.length : Int) + (dp.length : Int))) != (a.length : Int))) else (soundingslaw01_LabelParts.j2 k a kp dp true))) h5 hE (fun k => rfl) (fun k => (if_pos rfl).trans (by rw [hs]))
  have s4 : Lab.Ev (fun k => (soundingsref01_Part.f k a names false).bind fun t281 => ((soundingsref01_Cmp.f k dp t281).bind fun t284 => (if t284 = 0 then (soundingslaw01_LabelParts.j2 k a kp dp ((wrap64 ((kp.length : Int) + (dp.length : Int))) != (a.length : Int))) else (soundingslaw01_LabelParts.j2 k a kp dp true)))) true :=
    Lab.Ev.ask0 (g := fun t k => ((soundingsref01_Cmp.f k dp t).bind fun t284 => (if t284 = 0 then (soundingslaw01_LabelParts.j2 k a kp dp ((wrap64 ((kp.length : Int) + (dp.length : Int))) != (a.length : Int))) else (soundingslaw01_LabelParts.j2 k a kp dp true)))) p2 s5 (fun k => rfl) (fun k => rfl)
  have s3 : Lab.Ev (fun k => (soundingsref01_Cmp.f k kp kp).bind fun t280 => (if t280 = 0 then ((soundingsref01_Part.f k a names false).bind fun t281 => ((soundingsref01_Cmp.f k dp t281).bind fun t284 => (if t284 = 0 then (soundingslaw01_LabelParts.j2 k a kp dp ((wrap64 ((kp.length : Int) + (dp.length : Int))) != (a.length : Int))) else (soundingslaw01_LabelParts.j2 k a kp dp true)))) else (soundingslaw01_LabelParts.j2 k a kp dp true))) true :=
    Lab.Ev.ask0 (g := fun t k => (if t = 0 then ((soundingsref01_Part.f k a names false).bind fun t281 => ((soundingsref01_Cmp.f k dp t281).bind fun t284 => (if t284 = 0 then (soundingslaw01_LabelParts.j2 k a kp dp ((wrap64 ((kp.length : Int) + (dp.length : Int))) != (a.length : Int))) else (soundingslaw01_LabelParts.j2 k a kp dp true)))) else (soundingslaw01_LabelParts.j2 k a kp dp true))) h3 s4 (fun k => rfl) (fun k => if_pos rfl)
  have s2 : Lab.Ev (fun k => (soundingsref01_Part.f k a names true).bind fun t277 => ((soundingsref01_Cmp.f k kp t277).bind fun t280 => (if t280 = 0 then ((soundingsref01_Part.f k a names false).bind fun t281 => ((soundingsref01_Cmp.f k dp t281).bind fun t284 => (if t284 = 0 then (soundingslaw01_LabelParts.j2 k a kp dp ((wrap64 ((kp.length : Int) + (dp.length : Int))) != (a.length : Int))) else (soundingslaw01_LabelParts.j2 k a kp dp true)))) else (soundingslaw01_LabelParts.j2 k a kp dp true)))) true :=
    Lab.Ev.ask0 (g := fun t k => ((soundingsref01_Cmp.f k kp t).bind fun t280 => (if t280 = 0 then ((soundingsref01_Part.f k a names false).bind fun t281 => ((soundingsref01_Cmp.f k dp t281).bind fun t284 => (if t284 = 0 then (soundingslaw01_LabelParts.j2 k a kp dp ((wrap64 ((kp.length : Int) + (dp.length : Int))) != (a.length : Int))) else (soundingslaw01_LabelParts.j2 k a kp dp true)))) else (soundingslaw01_LabelParts.j2 k a kp dp true)))) p1 s3 (fun k => rfl) (fun k => rfl)
  refine Lab.Ev.ask (g := fun t k => (if cmpLs ordL a b = t then ((soundingsref01_Part.f k a names true).bind fun t277 => ((soundingsref01_Cmp.f k kp t277).bind fun t280 => (if t280 = 0 then ((soundingsref01_Part.f k a names false).bind fun t281 => ((soundingsref01_Cmp.f k dp t281).bind fun t284 => (if t284 = 0 then (soundingslaw01_LabelParts.j2 k a kp dp ((wrap64 ((kp.length : Int) + (dp.length : Int))) != (a.length : Int))) else (soundingslaw01_LabelParts.j2 k a kp dp true)))) else (soundingslaw01_LabelParts.j2 k a kp dp true)))) else (soundingslaw01_LabelParts.j2 k a kp dp true))) h1 s2 (fun k => ?_) (fun k => if_pos rfl)
  simp only [soundingslaw01_LabelParts.l0]
  rw [if_neg (by omega), e1, e2]
  rfl
theorem parts_l0 (a b : List Lb) (names : List ByteArray) (ha : a.length ≤ 40) (hz : ∀ x ∈ a, x.f0.size ≤ 400 ∧ x.f1.size ≤ 400) (hn : names.length ≤ 40) (r : List ByteArray) : ∀ j : Nat, names.drop j = r → Lab.Ev (fun k => soundingslaw01_LabelParts.l0 k a b names (j : Int)) true := by
  induction r with
  | nil =>
    intro j h
    have hk := keep_drop_len a names
    have p1 := part_ev a names true (by omega) (by omega)
    have p2 := part_ev a names false (by omega) (by omega)
    exact parts_end a b _ _ names j (List.drop_eq_nil_iff.1 h) ha hk (keep_is a names (by omega)) (drop_is a names (by omega)) p1 p2 (parts_j2 a _ _ ha hz (by omega) (by omega) (fun hr => right_filter _ hr) (fun hr => right_filter _ hr))
  | cons y r ih =>
    intro j h
    obtain ⟨hj, h2, hy⟩ := names_drop h
    by_cases hsz : y.size ≤ 400
    · obtain ⟨K1, h1⟩ := get_ev a y (by omega)
      obtain ⟨K2, h3⟩ := refget_ev a y (by omega)
      obtain ⟨K3, h4⟩ := ih (j + 1) h2
      refine ⟨K1 + K2 + K3 + 1, fun k hk => ?_⟩
      obtain ⟨k, rfl⟩ : ∃ m, k = m + 1 := ⟨k - 1, by omega⟩
      simp only [soundingslaw01_LabelParts.l0]
      rw [if_pos (by omega), if_pos (by omega), hy, if_neg (by omega), show label_Get.f k a y = some (getL a y) from h1 _ (by omega)]
      simp only [Option.bind_some]
      rw [show soundingsref01_Get.f k a y = some (getL a y) from h3 _ (by omega)]
      simp only [Option.bind_some]
      rw [if_pos trivial, wrap_succ2 hj (by omega)]
      exact h4 k (by omega)
    · refine Lab.Ev.done fun k => ?_
      simp only [soundingslaw01_LabelParts.l0]
      rw [if_pos (by omega), if_pos (by omega), hy, if_pos (by omega)]
theorem labelParts_pure (a b : List S36) (names : List ByteArray) (ha : a.length ≤ 9223372036854775807) (hb : b.length ≤ 9223372036854775807) : ∃ k, soundingslaw01_LabelParts.f k a b names = some true := by
  obtain ⟨K0, h0⟩ := awake_ev
  obtain ⟨K1, h1⟩ := short_ev a ha
  obtain ⟨K2, h2⟩ := short_ev b hb
  have hj : ∀ k, soundingslaw01_LabelParts.j0 (k + 1) a b names true = some true := fun k => by simp only [soundingslaw01_LabelParts.j0]; rw [if_pos trivial]
  have front : ∀ K3 : Nat, (shortB a = true → names.length ≤ 40 → ∀ k, K3 ≤ k → soundingslaw01_LabelParts.l0 k a b names 0 = some true) → soundingslaw01_LabelParts.f (K0 + K1 + K2 + K3 + 1) a b names = some true := by
    intro K3 h3
    unfold soundingslaw01_LabelParts.f
    rw [show soundingslaw01_awake.f (K0 + K1 + K2 + K3 + 1) = some true from h0 _ (by omega)]
    simp only [Option.bind_some, if_true]
    rw [show soundingsref01_Short.f (K0 + K1 + K2 + K3 + 1) a = some (shortB a) from h1 _ (by omega)]
    simp only [Option.bind_some]
    by_cases hsa : shortB a = true
    · rw [if_pos hsa, show soundingsref01_Short.f (K0 + K1 + K2 + K3 + 1) b = some (shortB b) from h2 _ (by omega)]
      simp only [Option.bind_some]
      by_cases hsb : shortB b = true
      · rw [if_pos hsb]
        by_cases hn : names.length ≤ 40
        · rw [decide_eq_false (by omega)]
          simp only [soundingslaw01_LabelParts.j0]
          rw [if_neg (by decide)]
          exact h3 hsa hn _ (by omega)
        · rw [decide_eq_true (by omega)]; exact hj _
      · rw [if_neg hsb]; exact hj _
    · rw [if_neg hsa]; exact hj _
  by_cases hs : shortB a = true ∧ names.length ≤ 40
  · obtain ⟨hl, hz⟩ := short_spec hs.1
    obtain ⟨K3, h3⟩ := parts_l0 a b names hl hz hs.2 names 0 rfl
    exact ⟨_, front K3 fun _ _ => h3⟩
  · exact ⟨_, front 0 fun h4 h5 => absurd ⟨h4, h5⟩ hs⟩
end Go.Proofs.YtmgbnnanophehabDoor.Lab
