/- value.Norm in the print's shape: any bits. Stores in plain Lean: what is right, a point more; in what order points come. -/
import Derived.Test.YtlelcmkbcejjkaaDoorProg
import Derived.Test.YtlelcmkbcejjkaaDoorLx0
import Derived.Laws.Externs
import Derived.Laws.EntriesVeiled
import Derived.Lib.Hide
import Derived.Laws.FloatArith
import Derived.Test.YtlelcmkbcejjkaaDoorLabN
namespace Go.Proofs.YtlelcmkbcejjkaaDoor.L
open Go.Proofs Go.RowKit Go.Proofs.YtlelcmkbcejjkaaDoorW.PrintWords Go.Proofs.YtlelcmkbcejjkaaDoorW.PrintLast
set_option linter.unusedVariables false
set_option linter.unusedSimpArgs false
@[go_sem] theorem frombits_call (n : Int) (w : World) : (callFunc 76 #[.int .u64 n]).run Tryd.prog w = .ok (.value (.float .f64 n.toNat)) w := by
  rw [run_callFunc_extern Tryd.func76 (e := Extern.MathFloatBits.float64frombits) (by kernel_rfl) (by kernel_rfl) (by kernel_rfl) (by kernel_rfl)]; rfl
/-- Are bits no number's? -/
def noneB (v : Int) : Bool := decide (v.toNat / 4503599627370496 % 2048 = 2047) && decide (v.toNat % 4503599627370496 ≠ 0)
def normV (v : Int) : Int := if (noneB v && decide (v ≠ 9218868437227405314)) = true then 9221120237041090561 else v
theorem nan_order (v : Int) : (FloatKind.f64.format.order v.toNat v.toNat == some Ordering.eq) = !noneB v := by
  unfold noneB
  generalize v.toNat = n
  show (Ieee.double.order n n == some Ordering.eq) = _
  have hs : Ieee.double.signWeight = 9223372036854775808 := by decide
  have hb : Ieee.double.binade = 4503599627370496 := by decide
  have hi : Ieee.double.infRung = 9218868437227405312 := by decide
  unfold Ieee.Format.order Ieee.Format.read
  simp only [hs, hb, hi]
  by_cases c : (decide (n / 4503599627370496 % 2048 = 2047) && decide (n % 4503599627370496 ≠ 0)) = true
  · rw [c]
    simp only [Bool.and_eq_true, decide_eq_true_eq] at c
    rw [if_neg (by omega), if_neg (by omega), if_neg (by omega)]
    rfl
  · rw [Bool.eq_false_iff.2 c]
    have c2 : ¬ (n / 4503599627370496 % 2048 = 2047 ∧ n % 4503599627370496 ≠ 0) := by
      simpa only [Bool.and_eq_true, decide_eq_true_eq] using c
    by_cases d1 : n % 9223372036854775808 < 4503599627370496
    · rw [if_pos d1]; simp [Ieee.Datum.order]
    · rw [if_neg d1]
      by_cases d2 : n % 9223372036854775808 < 9218868437227405312
      · rw [if_pos d2]; simp [Ieee.Datum.order]
      · rw [if_neg d2, if_pos (by omega)]
        simp [Ieee.Datum.order]
theorem isnan_any (v : Int) (W : World) :
    Calls Tryd.prog 75 #[.float .f64 v.toNat] W fun e w' => e = .returned (.bool (noneB v)) ∧ w' = W := by
  have ho := nan_order v
  go_enter Tryd.func75, Tryd.ntmps75
  go_wp2
  go_ret
  simp [bne, ho]
def value_Norm.f (a0 : Int) : Option Int := some (normV a0)
theorem value_Norm.calls (a0 : Int) (r : Int) (w : World) (h : value_Norm.f a0 = some r) :
    Calls Tryd.prog 41 #[.int .u64 a0] w fun e w' => e = .returned (.int .u64 r) ∧ Below w.heap.size w w' := by
  have e : normV a0 = r := Option.some.inj h
  have HN := fun W => isnan_any a0 W
  unfold normV at e
  have HE := Aside0.mk e
  clear h e
  go_enter Tryd.func41, Tryd.ntmps41
  cases hb : noneB a0 with
  | false =>
    rw [hb] at HN HE
    have e : a0 = r := by have := HE.out; simpa using this
    clear HE hb
    subst e
    go_wp2_with (go_at_call 75; refine (HN _).mono ?_; rintro en w1 ⟨rfl, rfl⟩)
    go_ret
    exact ⟨rfl, Below.refl _ _⟩
  | true =>
    rw [hb] at HN HE
    by_cases hs : a0 = 9218868437227405314
    · have e : a0 = r := by have := HE.out; simpa [hs] using this
      clear HE hb
      subst e
      subst hs
      go_wp2_with (go_at_call 75; refine (HN _).mono ?_; rintro en w1 ⟨rfl, rfl⟩)
      go_ret
      exact ⟨rfl, Below.refl _ _⟩
    · have e : (9221120237041090561 : Int) = r := by have := HE.out; simpa [hs] using this
      have hs1 : (a0 == 9218868437227405314) = false := beq_eq_false_iff_ne.2 hs
      clear HE hb
      subst e
      go_wp2_with (go_at_call 75; refine (HN _).mono ?_; rintro en w1 ⟨rfl, rfl⟩)
      go_ret
      exact ⟨rfl, Below.refl _ _⟩
end Go.Proofs.YtlelcmkbcejjkaaDoor.L
namespace Go.Proofs.YtlelcmkbcejjkaaDoor.Sto
open Go.Proofs Go.Sort Go.Proofs.YtlelcmkbcejjkaaDoor.Cmp Go.Proofs.YtlelcmkbcejjkaaDoor.Lab Go.Proofs.YtlelcmkbcejjkaaDoor.L
set_option linter.unusedVariables false
set_option linter.unusedSimpArgs false
abbrev Pt := S40
abbrev Se := S59
def cL (a b : List Lb) : Int := cmpLs ordL a b
theorem ord_c : Ord3 cL := ord_lb.list
theorem norm_norm (v : Int) : normV (normV v) = normV v := by
  have h : normV 9221120237041090561 = 9221120237041090561 := by decide
  by_cases c : (noneB v && decide (v ≠ 9218868437227405314)) = true
  · have e : normV v = 9221120237041090561 := if_pos c
    rw [e, h]
  · have e : normV v = v := if_neg c
    rw [e, e]
def timeB (t : Int) : Bool := decide (-1125899906842624 ≤ t) && decide (t ≤ 1125899906842624)
theorem timeB_iff (t : Int) : timeB t = true ↔ -1125899906842624 ≤ t ∧ t ≤ 1125899906842624 := by
  unfold timeB; rw [Bool.and_eq_true, decide_eq_true_eq, decide_eq_true_eq]
def ptB (p : Pt) : Bool := timeB p.f0 && decide (normV p.f1 = p.f1)
def Rises (l : List Pt) : Prop := l.Pairwise (fun a b => a.f0 < b.f0)
def PtsOk (l : List Pt) : Prop := l ≠ [] ∧ (∀ p ∈ l, ptB p = true) ∧ Rises l
def SeOk (x : Se) : Prop := x.f0 ≠ [] ∧ rightB mayB x.f0 = true ∧ PtsOk x.f1
def StOk (s : List Se) : Prop := (∀ x ∈ s, SeOk x) ∧ s.Pairwise (fun a b => cL a.f0 b.f0 < 0)
instance (l : List Pt) : Decidable (Rises l) := inferInstanceAs (Decidable (l.Pairwise _))
instance (l : List Pt) : Decidable (l ≠ []) := match l with | [] => isFalse (fun h => h rfl) | _ :: _ => isTrue (by simp)
instance (l : List Lb) : Decidable (l ≠ []) := match l with | [] => isFalse (fun h => h rfl) | _ :: _ => isTrue (by simp)
instance (l : List Pt) : Decidable (PtsOk l) := inferInstanceAs (Decidable (_ ∧ _ ∧ _))
instance (x : Se) : Decidable (SeOk x) := inferInstanceAs (Decidable (_ ∧ _ ∧ _))
instance (s : List Se) : Decidable (StOk s) := inferInstanceAs (Decidable (_ ∧ _))
/-- The time of the last point. -/
def lastT (l : List Pt) : Int := (l.getLast?.map (·.f0)).getD 0
theorem lastT_snoc (l : List Pt) (p : Pt) : lastT (l ++ [p]) = p.f0 := by simp [lastT]
def many (s : List Se) : Nat := (s.map (fun x => x.f1.length)).sum
/-- A point more, of labels m; none: it comes too late. -/
def put (m : List Lb) (p : Pt) : List Se → Option (List Se)
  | [] => some [⟨m, [p]⟩]
  | x :: r => if cL x.f0 m < 0 then (put m p r).map (x :: ·)
    else if cL x.f0 m = 0 then (if p.f0 ≤ lastT x.f1 then none else some (⟨x.f0, x.f1 ++ [p]⟩ :: r))
    else some (⟨m, [p]⟩ :: x :: r)
theorem put_lt {m : List Lb} {p : Pt} {x : Se} {r : List Se} (h : cL x.f0 m < 0) : put m p (x :: r) = (put m p r).map (x :: ·) := by
  simp only [put]; rw [if_pos h]
theorem put_eq {m : List Lb} {p : Pt} {x : Se} {r : List Se} (h : cL x.f0 m = 0) : put m p (x :: r) = if p.f0 ≤ lastT x.f1 then none else some (⟨x.f0, x.f1 ++ [p]⟩ :: r) := by
  simp only [put]; rw [if_neg (by omega), if_pos h]
theorem put_gt {m : List Lb} {p : Pt} {x : Se} {r : List Se} (h : 0 < cL x.f0 m) : put m p (x :: r) = some (⟨m, [p]⟩ :: x :: r) := by
  simp only [put]; rw [if_neg (by omega), if_neg (by omega)]
theorem put_many (m : List Lb) (p : Pt) (s : List Se) : ∀ o, put m p s = some o → many o = many s + 1 := by
  induction s with
  | nil => intro o h; obtain rfl := Option.some.inj h; rfl
  | cons x r ih =>
    intro o h
    rcases Int.lt_trichotomy (cL x.f0 m) 0 with c | c | c
    · rw [put_lt c] at h
      obtain ⟨o', h1, rfl⟩ := Option.map_eq_some_iff.1 h
      have := ih o' h1
      simp only [many, List.map_cons, List.sum_cons] at this ⊢
      omega
    · rw [put_eq c] at h
      split at h
      · cases h
      · obtain rfl := Option.some.inj h
        simp only [many, List.map_cons, List.sum_cons, List.length_append, List.length_singleton]
        omega
    · rw [put_gt c] at h
      obtain rfl := Option.some.inj h
      simp only [many, List.map_cons, List.sum_cons, List.length_singleton]
      omega
theorem put_len (m : List Lb) (p : Pt) (s : List Se) : ∀ o, put m p s = some o → o.length ≤ s.length + 1 ∧ s.length ≤ o.length := by
  induction s with
  | nil => intro o h; obtain rfl := Option.some.inj h; simp
  | cons x r ih =>
    intro o h
    rcases Int.lt_trichotomy (cL x.f0 m) 0 with c | c | c
    · rw [put_lt c] at h
      obtain ⟨o', h1, rfl⟩ := Option.map_eq_some_iff.1 h
      have := ih o' h1
      simp only [List.length_cons]
      omega
    · rw [put_eq c] at h
      split at h
      · cases h
      · obtain rfl := Option.some.inj h
        simp
    · rw [put_gt c] at h
      obtain rfl := Option.some.inj h
      simp
theorem put_first (m : List Lb) (p : Pt) (z : List Lb) (hz : cL z m < 0) (s : List Se) (hs : ∀ x ∈ s, cL z x.f0 < 0) : ∀ o, put m p s = some o → ∀ x ∈ o, cL z x.f0 < 0 := by
  induction s with
  | nil =>
    intro o h x hx
    obtain rfl := Option.some.inj h
    rw [List.mem_singleton.1 hx]; exact hz
  | cons y r ih =>
    intro o h x hx
    rcases Int.lt_trichotomy (cL y.f0 m) 0 with c | c | c
    · rw [put_lt c] at h
      obtain ⟨o', h1, rfl⟩ := Option.map_eq_some_iff.1 h
      rcases List.mem_cons.1 hx with rfl | hx
      · exact hs _ (by simp)
      · exact ih (fun x hx => hs x (List.mem_cons_of_mem _ hx)) o' h1 x hx
    · rw [put_eq c] at h
      split at h
      · cases h
      · obtain rfl := Option.some.inj h
        rcases List.mem_cons.1 hx with rfl | hx
        · exact hs y (by simp)
        · exact hs x (List.mem_cons_of_mem _ hx)
    · rw [put_gt c] at h
      obtain rfl := Option.some.inj h
      rcases List.mem_cons.1 hx with rfl | hx
      · exact hz
      · exact hs x hx
theorem pts_snoc {l : List Pt} {p : Pt} (h : PtsOk l) (hp : ptB p = true) (hl : lastT l < p.f0) : PtsOk (l ++ [p]) := by
  refine ⟨by simp, fun q hq => ?_, ?_⟩
  · rcases List.mem_append.1 hq with hq | hq
    · exact h.2.1 q hq
    · rw [List.mem_singleton.1 hq]; exact hp
  · unfold Rises
    rw [List.pairwise_append]
    refine ⟨h.2.2, List.pairwise_singleton _ _, fun a ha b hb => ?_⟩
    rw [List.mem_singleton.1 hb]
    obtain ⟨i, hi, rfl⟩ := List.mem_iff_getElem.1 ha
    have e : lastT l = (l[l.length - 1]'(by omega)).f0 := by
      unfold lastT
      rw [List.getLast?_eq_getElem?, List.getElem?_eq_getElem (by omega)]; rfl
    rcases Nat.lt_or_ge i (l.length - 1) with h1 | h1
    · have := List.pairwise_iff_getElem.1 h.2.2 i (l.length - 1) hi (by omega) h1
      omega
    · have e2 : i = l.length - 1 := by omega
      subst e2
      omega
theorem pts_one {p : Pt} (hp : ptB p = true) : PtsOk [p] :=
  ⟨by simp, fun q hq => by rw [List.mem_singleton.1 hq]; exact hp, List.pairwise_singleton _ _⟩
/-- It stays right. -/
theorem put_ok (m : List Lb) (p : Pt) (hm : m ≠ []) (hr : rightB mayB m = true) (hp : ptB p = true) (s : List Se) (h : StOk s) : ∀ o, put m p s = some o → StOk o := by
  have hn : SeOk ⟨m, [p]⟩ := ⟨hm, hr, pts_one hp⟩
  induction s with
  | nil =>
    intro o e
    obtain rfl := Option.some.inj e
    exact ⟨fun x hx => by rw [List.mem_singleton.1 hx]; exact hn, List.pairwise_singleton _ _⟩
  | cons y r ih =>
    intro o e
    obtain ⟨h1, h2⟩ := h
    obtain ⟨h3, h4⟩ := List.pairwise_cons.1 h2
    have hr' : StOk r := ⟨fun x hx => h1 x (List.mem_cons_of_mem _ hx), h4⟩
    rcases Int.lt_trichotomy (cL y.f0 m) 0 with c | c | c
    · rw [put_lt c] at e
      obtain ⟨o', e1, rfl⟩ := Option.map_eq_some_iff.1 e
      obtain ⟨i1, i2⟩ := ih hr' o' e1
      refine ⟨fun x hx => ?_, List.pairwise_cons.2 ⟨put_first m p y.f0 c r h3 o' e1, i2⟩⟩
      rcases List.mem_cons.1 hx with rfl | hx
      · exact h1 _ (by simp)
      · exact i1 x hx
    · rw [put_eq c] at e
      split at e
      · cases e
      · rename_i hlt
        obtain rfl := Option.some.inj e
        have hy := h1 y (by simp)
        refine ⟨fun x hx => ?_, List.pairwise_cons.2 ⟨h3, h4⟩⟩
        rcases List.mem_cons.1 hx with rfl | hx
        · exact ⟨hy.1, hy.2.1, pts_snoc hy.2.2 hp (by omega)⟩
        · exact h1 x (List.mem_cons_of_mem _ hx)
    · rw [put_gt c] at e
      obtain rfl := Option.some.inj e
      have hmy : cL m y.f0 < 0 := by rw [ord_c.flip]; omega
      refine ⟨fun x hx => ?_, List.pairwise_cons.2 ⟨fun x hx => ?_, h2⟩⟩
      · rcases List.mem_cons.1 hx with rfl | hx
        · exact hn
        · exact h1 x hx
      · rcases List.mem_cons.1 hx with rfl | hx
        · exact hmy
        · exact ord_c.trans _ _ _ hmy (h3 x hx)
/-- Two points of unlike labels: in any order. -/
theorem put_comm (x y : List Lb) (p q : Pt) (hne : cL x y ≠ 0) (s : List Se) : ∀ m n, put x p s = some m → put y q s = some n → ∃ o, put y q m = some o ∧ put x p n = some o := by
  have two : ∀ r : List Se, (∀ z ∈ r.head?, 0 < cL z.f0 x ∧ 0 < cL z.f0 y) → ∀ m n, put x p r = some m → put y q r = some n → ∃ o, put y q m = some o ∧ put x p n = some o := by
    intro r hz m n hm hn
    have e1 : put x p r = some (⟨x, [p]⟩ :: r) := by
      cases r with
      | nil => rfl
      | cons z t => exact put_gt (hz z (by simp)).1
    have e2 : put y q r = some (⟨y, [q]⟩ :: r) := by
      cases r with
      | nil => rfl
      | cons z t => exact put_gt (hz z (by simp)).2
    rw [e1] at hm; rw [e2] at hn
    obtain rfl := Option.some.inj hm
    obtain rfl := Option.some.inj hn
    rcases Int.lt_trichotomy (cL x y) 0 with c | c | c
    · refine ⟨⟨x, [p]⟩ :: ⟨y, [q]⟩ :: r, ?_, ?_⟩
      · rw [put_lt c, e2]; rfl
      · rw [put_gt (x := ⟨y, [q]⟩) (by rw [ord_c.flip]; simp only; omega)]
    · exact absurd c hne
    · refine ⟨⟨y, [q]⟩ :: ⟨x, [p]⟩ :: r, ?_, ?_⟩
      · rw [put_gt (x := ⟨x, [p]⟩) c]
      · rw [put_lt (x := ⟨y, [q]⟩) (by rw [ord_c.flip]; simp only; omega), e1]; rfl
  induction s with
  | nil => exact two [] (by simp)
  | cons z r ih =>
    intro m n hm hn
    rcases Int.lt_trichotomy (cL z.f0 x) 0 with a | a | a
    · rw [put_lt a] at hm
      obtain ⟨m', hm1, rfl⟩ := Option.map_eq_some_iff.1 hm
      rcases Int.lt_trichotomy (cL z.f0 y) 0 with b | b | b
      · rw [put_lt b] at hn
        obtain ⟨n', hn1, rfl⟩ := Option.map_eq_some_iff.1 hn
        obtain ⟨o, o1, o2⟩ := ih m' n' hm1 hn1
        exact ⟨z :: o, by rw [put_lt b, o1]; rfl, by rw [put_lt a, o2]; rfl⟩
      · rw [put_eq b] at hn
        split at hn
        · cases hn
        · rename_i hlt
          obtain rfl := Option.some.inj hn
          exact ⟨⟨z.f0, z.f1 ++ [q]⟩ :: m', by rw [put_eq b, if_neg hlt], by rw [put_lt (x := ⟨z.f0, z.f1 ++ [q]⟩) a, hm1]; rfl⟩
      · rw [put_gt b] at hn
        obtain rfl := Option.some.inj hn
        have yz : cL y z.f0 < 0 := by rw [ord_c.flip]; omega
        have yx : cL y x < 0 := ord_c.trans _ _ _ yz a
        exact ⟨⟨y, [q]⟩ :: z :: m', by rw [put_gt b], by rw [put_lt (x := ⟨y, [q]⟩) yx, put_lt a, hm1]; rfl⟩
    · rw [put_eq a] at hm
      split at hm
      · cases hm
      · rename_i hla
        obtain rfl := Option.some.inj hm
        rcases Int.lt_trichotomy (cL z.f0 y) 0 with b | b | b
        · rw [put_lt b] at hn
          obtain ⟨n', hn1, rfl⟩ := Option.map_eq_some_iff.1 hn
          exact ⟨⟨z.f0, z.f1 ++ [p]⟩ :: n', by rw [put_lt (x := ⟨z.f0, z.f1 ++ [p]⟩) b, hn1]; rfl, by rw [put_eq a, if_neg hla]⟩
        · exact absurd (by rw [← (ord_c.eq _ _).1 a]; exact b) hne
        · rw [put_gt b] at hn
          obtain rfl := Option.some.inj hn
          have yz : cL y z.f0 < 0 := by rw [ord_c.flip]; omega
          have yx : cL y x < 0 := by rw [← (ord_c.eq _ _).1 a]; exact yz
          exact ⟨⟨y, [q]⟩ :: ⟨z.f0, z.f1 ++ [p]⟩ :: r, by rw [put_gt (x := ⟨z.f0, z.f1 ++ [p]⟩) b], by rw [put_lt (x := ⟨y, [q]⟩) yx, put_eq a, if_neg hla]; rfl⟩
    · rcases Int.lt_trichotomy (cL z.f0 y) 0 with b | b | b
      · rw [put_gt a] at hm
        obtain rfl := Option.some.inj hm
        rw [put_lt b] at hn
        obtain ⟨n', hn1, rfl⟩ := Option.map_eq_some_iff.1 hn
        have xz : cL x z.f0 < 0 := by rw [ord_c.flip]; omega
        have xy : cL x y < 0 := ord_c.trans _ _ _ xz b
        exact ⟨⟨x, [p]⟩ :: z :: n', by rw [put_lt (x := ⟨x, [p]⟩) xy, put_lt b, hn1]; rfl, by rw [put_gt a]⟩
      · rw [put_gt a] at hm
        obtain rfl := Option.some.inj hm
        rw [put_eq b] at hn
        split at hn
        · cases hn
        · rename_i hlb
          obtain rfl := Option.some.inj hn
          have xz : cL x z.f0 < 0 := by rw [ord_c.flip]; omega
          have xy : cL x y < 0 := by rw [← (ord_c.eq _ _).1 b]; exact xz
          exact ⟨⟨x, [p]⟩ :: ⟨z.f0, z.f1 ++ [q]⟩ :: r, by rw [put_lt (x := ⟨x, [p]⟩) xy, put_eq b, if_neg hlb]; rfl, by rw [put_gt (x := ⟨z.f0, z.f1 ++ [q]⟩) a]⟩
      · exact two (z :: r) (fun w hw => by simp only [List.head?_cons, Option.mem_def, Option.some.injEq] at hw; subst hw; exact ⟨a, b⟩) m n hm hn
/-- Where labels are, or would be. -/
def eqAt (s : List Se) (m : List Lb) : Nat := s.findIdx (fun x => decide (cL x.f0 m = 0))
def geAt (s : List Se) (m : List Lb) : Nat := s.findIdx (fun x => decide (0 ≤ cL x.f0 m))
def hasS (s : List Se) (m : List Lb) : Bool := s.any (fun x => decide (cL x.f0 m = 0))
/-- What was appended is found, last of its series. -/
theorem put_find (m : List Lb) (p : Pt) (s : List Se) : ∀ o, put m p s = some o → hasS o m = true ∧ ∃ h : eqAt o m < o.length, o[eqAt o m].f1.getLast? = some p := by
  induction s with
  | nil =>
    intro o h
    obtain rfl := Option.some.inj h
    have e : cL m m = 0 := ord_c.refl m
    have e1 : eqAt [⟨m, [p]⟩] m = 0 := by simp [eqAt, List.findIdx_cons, e]
    refine ⟨by simp [hasS, e], by rw [e1]; simp, ?_⟩
    simp [e1]
  | cons z r ih =>
    intro o h
    rcases Int.lt_trichotomy (cL z.f0 m) 0 with c | c | c
    · rw [put_lt c] at h
      obtain ⟨o', h1, rfl⟩ := Option.map_eq_some_iff.1 h
      obtain ⟨i1, i2, i3⟩ := ih o' h1
      have e1 : eqAt (z :: o') m = eqAt o' m + 1 := by
        unfold eqAt
        rw [List.findIdx_cons, decide_eq_false (by omega)]; rfl
      refine ⟨by unfold hasS at i1 ⊢; rw [List.any_cons, i1, Bool.or_true], by rw [e1, List.length_cons]; omega, ?_⟩
      simp only [e1, List.getElem_cons_succ]
      exact i3
    · rw [put_eq c] at h
      split at h
      · cases h
      · obtain rfl := Option.some.inj h
        have e1 : eqAt (⟨z.f0, z.f1 ++ [p]⟩ :: r) m = 0 := by
          unfold eqAt
          rw [List.findIdx_cons, decide_eq_true c]; rfl
        refine ⟨by unfold hasS; rw [List.any_cons, decide_eq_true c, Bool.true_or], by rw [e1]; simp, ?_⟩
        simp [e1]
    · rw [put_gt c] at h
      obtain rfl := Option.some.inj h
      have e : cL m m = 0 := ord_c.refl m
      have e1 : eqAt (⟨m, [p]⟩ :: z :: r) m = 0 := by
        unfold eqAt
        rw [List.findIdx_cons, decide_eq_true e]; rfl
      refine ⟨by unfold hasS; rw [List.any_cons, decide_eq_true e, Bool.true_or], by rw [e1]; simp, ?_⟩
      simp [e1]
/-- One more of that time, or less, is refused; one later is not. -/
theorem put_twice (m : List Lb) (p q : Pt) (s : List Se) : ∀ o, put m p s = some o → (q.f0 ≤ p.f0 → put m q o = none) ∧ (p.f0 < q.f0 → ∃ y, put m q o = some y) := by
  have one : ∀ (x : Se) (r : List Se), cL x.f0 m = 0 → lastT x.f1 = p.f0 → (q.f0 ≤ p.f0 → put m q (x :: r) = none) ∧ (p.f0 < q.f0 → ∃ y, put m q (x :: r) = some y) := by
    intro x r hx hl
    rw [put_eq hx, hl]
    exact ⟨fun h => if_pos h, fun h => ⟨_, if_neg (by omega)⟩⟩
  induction s with
  | nil =>
    intro o h
    obtain rfl := Option.some.inj h
    exact one ⟨m, [p]⟩ [] (ord_c.refl m) rfl
  | cons z r ih =>
    intro o h
    rcases Int.lt_trichotomy (cL z.f0 m) 0 with c | c | c
    · rw [put_lt c] at h
      obtain ⟨o', h1, rfl⟩ := Option.map_eq_some_iff.1 h
      obtain ⟨i1, i2⟩ := ih o' h1
      rw [put_lt c]
      refine ⟨fun h => by rw [i1 h]; rfl, fun h => ?_⟩
      obtain ⟨y, hy⟩ := i2 h
      exact ⟨z :: y, by rw [hy]; rfl⟩
    · rw [put_eq c] at h
      split at h
      · cases h
      · obtain rfl := Option.some.inj h
        exact one ⟨z.f0, z.f1 ++ [p]⟩ r c (lastT_snoc _ _)
    · rw [put_gt c] at h
      obtain rfl := Option.some.inj h
      exact one ⟨m, [p]⟩ (z :: r) (ord_c.refl m) rfl
/-- Append. -/
def app (s : List Se) (l : List Lb) (t v : Int) : List Se × Option Int :=
  if StOk s then
    match mkL mayB l with
    | (_, some e) => ([], some e)
    | (m, none) => if m = [] then ([], some 1) else if timeB t = true then (match put m ⟨t, normV v⟩ s with | some o => (o, none) | none => ([], some 3)) else ([], some 4)
  else ([], some 3)
/-- A store by place: how Append goes about it. -/
theorem put_at (m : List Lb) (p : Pt) (s : List Se) (hs : s.Pairwise (fun a b => cL a.f0 b.f0 < 0)) : put m p s =
    if h : eqAt s m < s.length then (if p.f0 ≤ lastT s[eqAt s m].f1 then none else some (s.set (eqAt s m) ⟨s[eqAt s m].f0, s[eqAt s m].f1 ++ [p]⟩))
    else some (s.take (geAt s m) ++ ⟨m, [p]⟩ :: s.drop (geAt s m)) := by
  induction s with
  | nil => rfl
  | cons z r ih =>
    obtain ⟨h3, h4⟩ := List.pairwise_cons.1 hs
    have ih := ih h4
    rcases Int.lt_trichotomy (cL z.f0 m) 0 with c | c | c
    · have e1 : eqAt (z :: r) m = eqAt r m + 1 := by
        unfold eqAt
        rw [List.findIdx_cons, decide_eq_false (by omega)]; rfl
      have e2 : geAt (z :: r) m = geAt r m + 1 := by
        unfold geAt
        rw [List.findIdx_cons, decide_eq_false (by omega)]; rfl
      rw [put_lt c, ih]
      by_cases h : eqAt r m < r.length
      · rw [dif_pos h, dif_pos (by rw [e1, List.length_cons]; omega)]
        simp only [e1, List.getElem_cons_succ, List.set_cons_succ]
        split <;> rfl
      · rw [dif_neg h, dif_neg (by rw [e1, List.length_cons]; omega), e2]
        rfl
    · have e1 : eqAt (z :: r) m = 0 := by
        unfold eqAt
        rw [List.findIdx_cons, decide_eq_true c]; rfl
      rw [put_eq c, dif_pos (by rw [e1]; simp)]
      simp only [e1, List.getElem_cons_zero, List.set_cons_zero]
    · have e2 : geAt (z :: r) m = 0 := by
        unfold geAt
        rw [List.findIdx_cons, decide_eq_true (by omega)]; rfl
      have hmz : cL m z.f0 < 0 := by rw [ord_c.flip]; omega
      have e1 : ¬ eqAt (z :: r) m < (z :: r).length := by
        unfold eqAt
        rw [List.findIdx_lt_length]
        rintro ⟨x, hx, hp⟩
        have hp : cL x.f0 m = 0 := of_decide_eq_true hp
        rcases List.mem_cons.1 hx with rfl | hx
        · omega
        · have := ord_c.trans _ _ _ hmz (h3 x hx)
          rw [ord_c.flip] at this; omega
      rw [put_gt c, dif_neg e1, e2]
      rfl
end Go.Proofs.YtlelcmkbcejjkaaDoor.Sto
