/- The law StoreAny by its walk. The law StoreGrows by its walk. -/
import Derived.Test.YtlelcmkbcejjkaaDoorStoP
import Derived.Test.YtlelcmkbcejjkaaDoorLx76
import Derived.Deep.RegionHeld3
import Derived.Deep.DrawnRows
import Derived.Deep.QuietTactic
namespace Go.Proofs.YtlelcmkbcejjkaaDoor.L
open Go.Proofs Go.Proofs.YtlelcmkbcejjkaaDoor.Two Go.Proofs.YtlelcmkbcejjkaaDoor.Lab Go.Proofs.YtlelcmkbcejjkaaDoor.Sto
open Go.RowKit Go.Proofs.YtlelcmkbcejjkaaDoorW.PrintWords Go.Proofs.YtlelcmkbcejjkaaDoorW.PrintLast Go.Proofs.YtlelcmkbcejjkaaDoorW.PrintMore
set_option linter.unusedVariables false
set_option linter.unusedSimpArgs false
def storeAny.f (s : List Se) (a : List Lb) (p : Pt) (b : List Lb) (q : Pt) : Option Bool := if s.length ≤ 9223372036854775807 ∧ (∀ x ∈ s, x.f0.length ≤ 9223372036854775807 ∧ x.f1.length ≤ 9223372036854775807) ∧ a.length ≤ 9223372036854775807 ∧ b.length ≤ 9223372036854775807 then some true else none
theorem ap_some {s : List Se} {l : List Lb} {t v : Int} {o : List Se} {c : Int} {W : World} {args : Array Value} (h : Calls Tryd.prog 18 args W (AppPost W (app s l t v))) (e : app s l t v = (o, some c)) :
    Calls Tryd.prog 18 args W fun en w' => ∃ A' c', en = .returned (.tuple #[.slice A' 0 c', .iface 75 (.int .i64 c)]) ∧ RowKit.Below W.heap.size W w' := by
  refine h.mono ?_
  rintro en w' ⟨A', c', h1, h2, h3, h4⟩
  rw [e] at h1
  have ho := app_err e
  subst ho
  exact ⟨A', c', h1, h4⟩
theorem ap_none {s : List Se} {l : List Lb} {t v : Int} {o : List Se} {W : World} {args : Array Value} (h : Calls Tryd.prog 18 args W (AppPost W (app s l t v))) (e : app s l t v = (o, none)) :
    Calls Tryd.prog 18 args W fun en w' => ∃ A' c', en = .returned (.tuple #[.slice A' o.length c', .nilIface]) ∧ o.length ≤ c' ∧ Kd.C k59 w' A' o.length o ∧ RowKit.Below W.heap.size W w' := by
  refine h.mono ?_
  rintro en w' ⟨A', c', h1, h2, h3, h4⟩
  rw [e] at h1 h2 h3
  exact ⟨A', c', h1, h2, h3, h4⟩
theorem mk_calls {l m : List Lb} {r : Option Int} (e : mkL mayB l = (m, r)) (h : ∃ k, soundingsref01_Make.f k l = some (resM (mkL mayB l))) (A : Option Addr) (c : Nat) (w W : World) (hC : Kd.C k67 w A l.length l) (hc : l.length ≤ c) (hW : RowKit.Below w.heap.size w W) :
    Calls Tryd.prog 16 #[.slice A l.length c] W fun en w' => ∃ A' c', en = .returned (.tuple #[.slice A' m.length c', .bool r.isNone]) ∧ m.length ≤ c' ∧ Kd.C k67 w' A' m.length m ∧ RowKit.Below W.heap.size W w' := by
  obtain ⟨k, hk⟩ := h
  refine (soundingsref01_Make.calls k A c l (resM (mkL mayB l)).1 (resM (mkL mayB l)).2 W (Kd.C_below hC hW) hc hk).mono ?_
  rintro en w' ⟨v, rfl, h1, h2⟩
  rw [e] at h1
  obtain ⟨A', c', rfl, h3, h4⟩ := Kd.R_reads h1
  exact ⟨A', c', by rw [e]; rfl, h3, h4, h2⟩
set_option maxRecDepth 100000 in
set_option maxHeartbeats 8000000 in
theorem storeAny.calls (A0 : Option Addr) (c0 : Nat) (s : List Se) (A1 : Option Addr) (c1 : Nat) (a : List Lb) (p : Pt) (A2 : Option Addr) (c2 : Nat) (b : List Lb) (q : Pt) (r : Bool) (w : World) (hr0 : Kd.C k59 w A0 s.length s) (hc0 : s.length ≤ c0) (hr1 : Kd.C k67 w A1 a.length a) (hc1 : a.length ≤ c1) (hr2 : Kd.C k67 w A2 b.length b) (hc2 : b.length ≤ c2) (hG : GL w) (h : storeAny.f s a p b q = some r) :
    Calls Tryd.prog 4 #[.slice A0 s.length c0, .slice A1 a.length c1, .agg #[.int .i64 p.f0, .int .u64 p.f1], .slice A2 b.length c2, .agg #[.int .i64 q.f0, .int .u64 q.f1]] w fun e w' => e = .returned (.bool r) ∧ RowKit.Below w.heap.size w w' := by
  unfold storeAny.f at h
  split at h
  rotate_left
  · cases h
  rename_i hz
  obtain ⟨hs, hzx, hal, hbl⟩ := hz
  obtain rfl := Option.some.inj h
  clear h
  have HG := Aside0.mk hG
  have HC0 := Aside0.mk hr0
  have HC1 := Aside0.mk hr1
  have HC2 := Aside0.mk hr2
  obtain ⟨bs, hbs, hbs2⟩ := short_ev5 s hs (fun x hx => (hzx x hx).1)
  obtain ⟨ks, hks⟩ := hbs.some
  obtain ⟨ka, hka⟩ := (short_ev a hal).some
  obtain ⟨kb, hkb⟩ := (short_ev b hbl).some
  have SS := fun W (hW : RowKit.Below w.heap.size w W) => soundingsref05_Short.calls ks A0 c0 s bs W (Kd.C_below hr0 hW) hc0 hks
  have SA := fun W (hW : RowKit.Below w.heap.size w W) => soundingsref01_Short.calls ka A1 c1 a _ W (Kd.C_below hr1 hW) hc1 hka
  have SB := fun W (hW : RowKit.Below w.heap.size w W) => soundingsref01_Short.calls kb A2 c2 b _ W (Kd.C_below hr2 hW) hc2 hkb
  have SS := Aside0.mk SS
  have SA := Aside0.mk SA
  have SB := Aside0.mk SB
  have HS2 := Aside0.mk hbs2
  clear hr0 hr1 hr2 hG hbs hks hka hkb hbs2
  go_enter Tryd.func4, Tryd.ntmps4
  go_wp2_with fail
  have hbx : RowKit.Below w.heap.size w ((w.alloc (.cells #[.int .i64 p.f0, .int .u64 p.f1] 40)).alloc (.cells #[.int .i64 q.f0, .int .u64 q.f1] 40)) := below_alloc (below_alloc (RowKit.Below.refl _ _) _) _
  refine (st_awake _ (HG.out.below hbx)).mono ?_
  rintro e w1 ⟨rfl, hb1⟩
  have HB1 : Aside0 (RowKit.Below w.heap.size w w1) := ⟨below_then hbx (by simp; omega) hb1⟩
  have P1 : Aside0 (w1.cell? ⟨w.heap.size, 0, none⟩ = some (.int .i64 p.f0) ∧ w1.cell? ⟨w.heap.size, 1, none⟩ = some (.int .u64 p.f1) ∧ w1.cell? ⟨w.heap.size + 1, 0, none⟩ = some (.int .i64 q.f0) ∧ w1.cell? ⟨w.heap.size + 1, 1, none⟩ = some (.int .u64 q.f1)) :=
    ⟨pw_cell_below hb1 (by simp), pw_cell_below hb1 (by simp), pw_cell_below hb1 (by simp), pw_cell_below hb1 (by simp)⟩
  clear hb1 hbx
  cases bs with
  | false =>
    go_wp2_with (go_at_call 14; refine (SS.out _ HB1.out).mono ?_; rintro e w2 ⟨rfl, hb2⟩; have HB2 : Aside0 (RowKit.Below w.heap.size w w2) := ⟨below_then HB1.out HB1.out.size hb2.below⟩; clear hb2)
    go_ret
    exact ⟨rfl, HB2.out⟩
  | true =>
    obtain ⟨hsn, hsl, hsok⟩ := HS2.out rfl
    have HSL := Aside0.mk hsl
    have HSO := Aside0.mk hsok
    clear hsl hsok HS2
    cases hsa : shortB a with
    | false =>
      rw [hsa] at SA
      go_wp2_with (first
        | (go_at_call 14; refine (SS.out _ HB1.out).mono ?_; rintro e w2 ⟨rfl, hb2⟩; have HB2 : Aside0 (RowKit.Below w.heap.size w w2) := ⟨below_then HB1.out HB1.out.size hb2.below⟩; clear hb2)
        | (go_at_call 15; refine (SA.out _ HB2.out).mono ?_; rintro e w3 ⟨rfl, hb3⟩; have HB3 : Aside0 (RowKit.Below w.heap.size w w3) := ⟨below_then HB2.out HB2.out.size hb3.below⟩; clear hb3))
      go_ret
      exact ⟨rfl, HB3.out⟩
    | true =>
      rw [hsa] at SA
      go_wp2_with (go_at_call 14; refine (SS.out _ HB1.out).mono ?_; rintro e w2 ⟨rfl, hb2⟩; have HB2 : Aside0 (RowKit.Below w.heap.size w w2) := ⟨below_then HB1.out HB1.out.size hb2.below⟩; have P2 := Aside0.mk (And.intro (pw_cell_below hb2.below P1.out.1) (And.intro (pw_cell_below hb2.below P1.out.2.1) (And.intro (pw_cell_below hb2.below P1.out.2.2.1) (pw_cell_below hb2.below P1.out.2.2.2)))); clear hb2)
      refine (SA.out _ HB2.out).mono ?_
      rintro e w3 ⟨rfl, hb3⟩
      have HB3 : Aside0 (RowKit.Below w.heap.size w w3) := ⟨below_then HB2.out HB2.out.size hb3.below⟩
      have P3 := Aside0.mk (And.intro (pw_cell_below hb3.below P2.out.1) (And.intro (pw_cell_below hb3.below P2.out.2.1) (And.intro (pw_cell_below hb3.below P2.out.2.2.1) (pw_cell_below hb3.below P2.out.2.2.2))))
      clear hb3
      go_wp2_with fail
      cases hsb : shortB b with
      | false =>
        rw [hsb] at SB
        refine (SB.out _ HB3.out).mono ?_
        rintro e w4 ⟨rfl, hb4⟩
        have HB4 : Aside0 (RowKit.Below w.heap.size w w4) := ⟨below_then HB3.out HB3.out.size hb4.below⟩
        clear hb4
        go_wp2_with fail
        go_ret
        exact ⟨rfl, HB4.out⟩
      | true =>
        rw [hsb] at SB
        refine (SB.out _ HB3.out).mono ?_
        rintro e w4 ⟨rfl, hb4⟩
        have HB4 : Aside0 (RowKit.Below w.heap.size w w4) := ⟨below_then HB3.out HB3.out.size hb4.below⟩
        have P4 := Aside0.mk (And.intro (pw_cell_below hb4.below P3.out.1) (And.intro (pw_cell_below hb4.below P3.out.2.1) (And.intro (pw_cell_below hb4.below P3.out.2.2.1) (pw_cell_below hb4.below P3.out.2.2.2))))
        clear hb4 P1 P2 P3 HB1 HB2 HB3 SS SA SB
        obtain ⟨ha40, haz⟩ := short_spec hsa
        obtain ⟨hb40, hbz⟩ := short_spec hsb
        have hk : ∃ k, store_Right.f k s = some (decide (StOk s)) := (st_ev s ⟨by omega, fun x hx => ⟨by have := (short_spec (HSL.out x hx)).1; omega, (hzx x hx).2⟩⟩).some
        have hz1 : StOk s → s.length ≤ 1000 ∧ ∀ x ∈ s, x.f1.length ≤ 1000 := fun h => ⟨by omega, fun x hx => by have := many_mem hx; have := (HSO.out h).2; omega⟩
        have PA := Aside0.mk fun W (hW : RowKit.Below w.heap.size w W) => app_calls A0 c0 s A1 c1 a p.f0 p.f1 W hk hz1 (by omega) (Kd.C_below HC0.out hW) hc0 (Kd.C_below HC1.out hW) hc1 (HG.out.below hW)
        have PB := Aside0.mk fun W (hW : RowKit.Below w.heap.size w W) => app_calls A0 c0 s A2 c2 b q.f0 q.f1 W hk hz1 (by omega) (Kd.C_below HC0.out hW) hc0 (Kd.C_below HC2.out hW) hc2 (HG.out.below hW)
        have MA := Aside0.mk fun (m : List Lb) (r : Option Int) (e : mkL mayB a = (m, r)) W (hW : RowKit.Below w.heap.size w W) => mk_calls e (refmake_ev a (by omega) haz).some A1 c1 w W HC1.out hc1 hW
        have MB := Aside0.mk fun (m : List Lb) (r : Option Int) (e : mkL mayB b = (m, r)) W (hW : RowKit.Below w.heap.size w W) => mk_calls e (refmake_ev b (by omega) hbz).some A2 c2 w W HC2.out hc2 hW
        clear hk hz1 haz hbz
        obtain ⟨ma, ra, hma⟩ : ∃ m r, mkL mayB a = (m, r) := ⟨_, _, rfl⟩
        obtain ⟨mb, rb, hmb⟩ : ∃ m r, mkL mayB b = (m, r) := ⟨_, _, rfl⟩
        have MA := Aside0.mk (MA.out ma ra hma)
        have MB := Aside0.mk (MB.out mb rb hmb)
        go_wp2_with fail
        refine (MA.out _ HB4.out).mono ?_
        rintro e w5 ⟨A5, c5, rfl, hlc5, hC5, hb5⟩
        have HB5 : Aside0 (RowKit.Below w.heap.size w w5) := ⟨below_then HB4.out HB4.out.size hb5⟩
        have P5 := Aside0.mk (And.intro (pw_cell_below hb5 P4.out.1) (And.intro (pw_cell_below hb5 P4.out.2.1) (And.intro (pw_cell_below hb5 P4.out.2.2.1) (pw_cell_below hb5 P4.out.2.2.2))))
        have HC5 := Aside0.mk hC5
        clear hb5 hC5 P4 HB4 MA
        cases ra with
        | some ea =>
          go_wp2_with (go_at_call 16; refine (MB.out _ HB5.out).mono ?_; rintro e w6 ⟨A6, c6, rfl, hlc6, hC6, hb6⟩; have HB6 : Aside0 (RowKit.Below w.heap.size w w6) := ⟨below_then HB5.out HB5.out.size hb6⟩; clear hb6)
          go_ret
          exact ⟨rfl, HB6.out⟩
        | none =>
          go_wp2_with fail
          refine (MB.out _ HB5.out).mono ?_
          rintro e w6 ⟨A6, c6, rfl, hlc6, hC6, hb6⟩
          have HB6 : Aside0 (RowKit.Below w.heap.size w w6) := ⟨below_then HB5.out HB5.out.size hb6⟩
          have P6 := Aside0.mk (And.intro (pw_cell_below hb6 P5.out.1) (And.intro (pw_cell_below hb6 P5.out.2.1) (And.intro (pw_cell_below hb6 P5.out.2.2.1) (pw_cell_below hb6 P5.out.2.2.2))))
          have hC5 := Kd.C_below HC5.out hb6
          cases rb with
          | some eb =>
            clear hb6
            go_wp2_with fail
            go_ret
            exact ⟨rfl, HB6.out⟩
          | none =>
            obtain ⟨kc, hkc⟩ := (refcmp_ev ma mb (by have := hC5.2.1; omega)).some
            have CM := Aside0.mk (soundingsref01_Cmp.calls kc A5 c5 ma A6 c6 mb _ w6 hC5 hlc5 hC6 hlc6 hkc)
            clear hb6 P5 HB5 MB HC5 hC5 hC6 hkc
            have CM : Aside0 (Calls Tryd.prog 17 #[.slice A5 ma.length c5, .slice A6 mb.length c6] w6 fun e w' => e = .returned (.int .i64 (cL ma mb)) ∧ Drawn0 w6 w') := CM
            obtain ⟨p0, p1, q0, q1⟩ := P6.out
            by_cases hne : cL ma mb = 0
            · clear PA PB P6
              go_wp2_with (go_at_call 17; refine CM.out.mono ?_; rintro e w7 ⟨rfl, hb7⟩; have HB7 : Aside0 (RowKit.Below w.heap.size w w7) := ⟨below_then HB6.out HB6.out.size hb7.below⟩; clear hb7)
              go_ret
              exact ⟨rfl, HB7.out⟩
            · go_wp2_with fail
              refine CM.out.mono ?_
              rintro e w7 ⟨rfl, hb7⟩
              have HB7 : Aside0 (RowKit.Below w.heap.size w w7) := ⟨below_then HB6.out HB6.out.size hb7.below⟩
              replace p0 := pw_cell_below hb7.below p0
              replace p1 := pw_cell_below hb7.below p1
              replace q0 := pw_cell_below hb7.below q0
              replace q1 := pw_cell_below hb7.below q1
              clear hb7 CM HB6 P6
              obtain ⟨m, r, hm⟩ : ∃ m r, app s a p.f0 p.f1 = (m, r) := ⟨_, _, rfl⟩
              obtain ⟨n, r', hn⟩ : ∃ m r, app s b q.f0 q.f1 = (m, r) := ⟨_, _, rfl⟩
              go_wp2_with fail
              cases r with
              | some ea =>
                refine (ap_some (PA.out w7 HB7.out) hm).mono ?_
                rintro e w8 ⟨A8, c8, rfl, hb8⟩
                have HB8 : Aside0 (RowKit.Below w.heap.size w w8) := ⟨below_then HB7.out HB7.out.size hb8⟩
                replace q0 := pw_cell_below hb8 q0
                replace q1 := pw_cell_below hb8 q1
                clear hb8 HB7 p0 p1
                have PBx := Aside0.mk (PB.out w8 HB8.out)
                cases r' with
                | some eb =>
                  have PBx := Aside0.mk (ap_some PBx.out hn)
                  go_wp2_with (go_at_call 18; refine PBx.out.mono ?_; rintro e w9 ⟨A9, c9, rfl, hb9⟩; have HB9 : Aside0 (RowKit.Below w.heap.size w w9) := ⟨below_then HB8.out HB8.out.size hb9⟩; clear hb9)
                  go_ret
                  exact ⟨rfl, HB9.out⟩
                | none =>
                  have PBx := Aside0.mk (ap_none PBx.out hn)
                  go_wp2_with (go_at_call 18; refine PBx.out.mono ?_; rintro e w9 ⟨A9, c9, rfl, _, _, hb9⟩; have HB9 : Aside0 (RowKit.Below w.heap.size w w9) := ⟨below_then HB8.out HB8.out.size hb9⟩; clear hb9)
                  go_ret
                  exact ⟨rfl, HB9.out⟩
              | none =>
                refine (ap_none (PA.out w7 HB7.out) hm).mono ?_
                rintro e w8 ⟨A8, c8, rfl, hlc8, hC8, hb8⟩
                have HB8 : Aside0 (RowKit.Below w.heap.size w w8) := ⟨below_then HB7.out HB7.out.size hb8⟩
                replace p0 := pw_cell_below hb8 p0
                replace p1 := pw_cell_below hb8 p1
                replace q0 := pw_cell_below hb8 q0
                replace q1 := pw_cell_below hb8 q1
                have HC8 := Aside0.mk hC8
                clear hb8 HB7 hC8
                have PBx := Aside0.mk (PB.out w8 HB8.out)
                cases r' with
                | some eb =>
                  have PBx := Aside0.mk (ap_some PBx.out hn)
                  go_wp2_with (go_at_call 18; refine PBx.out.mono ?_; rintro e w9 ⟨A9, c9, rfl, hb9⟩; have HB9 : Aside0 (RowKit.Below w.heap.size w w9) := ⟨below_then HB8.out HB8.out.size hb9⟩; clear hb9)
                  go_ret
                  exact ⟨rfl, HB9.out⟩
                | none =>
                  go_wp2_with fail
                  refine (ap_none PBx.out hn).mono ?_
                  rintro e w9 ⟨A9, c9, rfl, hlc9, hC9, hb9⟩
                  have HB9 : Aside0 (RowKit.Below w.heap.size w w9) := ⟨below_then HB8.out HB8.out.size hb9⟩
                  replace p0 := pw_cell_below hb9 p0
                  replace p1 := pw_cell_below hb9 p1
                  replace q0 := pw_cell_below hb9 q0
                  replace q1 := pw_cell_below hb9 q1
                  have HC8 := Aside0.mk (Kd.C_below HC8.out hb9)
                  have HC9 := Aside0.mk hC9
                  clear hb9 HB8 hC9 PBx PA PB
                  obtain ⟨fs, fm, fn, o, ho1, ho2, fo⟩ : Fine s 400 ∧ Fine m 401 ∧ Fine n 401 ∧ ∃ o, app m b q.f0 q.f1 = (o, none) ∧ app n a p.f0 p.f1 = (o, none) ∧ Fine o 402 := by
                    obtain ⟨xa, a1, a2, a3, a4, a5, a6⟩ := app_inv hm
                    obtain ⟨xb, b1, b2, b3, b4, b5, b6⟩ := app_inv hn
                    have fs : Fine s 400 := ⟨a6, (HSO.out a6).1, (HSO.out a6).2⟩
                    obtain rfl : xa = ma := by rw [hma] at a1; simpa using a1.symm
                    obtain rfl : xb = mb := by rw [hmb] at b1; simpa using b1.symm
                    obtain ⟨o, o1, o2⟩ := put_comm xa xb _ _ hne s m n a5 b5
                    have fm := fs.app hm
                    have g := app_yes fm.ok b1 b2 b4 o1
                    exact ⟨fs, fm, fs.app hn, o, g, app_yes (fs.app hn).ok a1 a2 a4 o2, fm.app g⟩
                  have PO := Aside0.mk (ap_none (fine_calls fm (by decide) A8 c8 A2 c2 b q.f0 q.f1 w9 (by omega) HC8.out hlc8 (Kd.C_below HC2.out HB9.out) hc2 (HG.out.below HB9.out)) ho1)
                  go_wp2_with fail
                  refine PO.out.mono ?_
                  rintro e w10 ⟨A10, c10, rfl, hlc10, hC10, hb10⟩
                  have HB10 : Aside0 (RowKit.Below w.heap.size w w10) := ⟨below_then HB9.out HB9.out.size hb10⟩
                  replace p0 := pw_cell_below hb10 p0
                  replace p1 := pw_cell_below hb10 p1
                  have HC9 := Aside0.mk (Kd.C_below HC9.out hb10)
                  have HC10 := Aside0.mk hC10
                  clear hb10 HB9 hC10 PO q0 q1 HC8
                  have PT := Aside0.mk (ap_none (fine_calls fn (by decide) A9 c9 A1 c1 a p.f0 p.f1 w10 (by omega) HC9.out hlc9 (Kd.C_below HC1.out HB10.out) hc1 (HG.out.below HB10.out)) ho2)
                  go_wp2_with fail
                  refine PT.out.mono ?_
                  rintro e w11 ⟨A11, c11, rfl, hlc11, hC11, hb11⟩
                  have HB11 : Aside0 (RowKit.Below w.heap.size w w11) := ⟨below_then HB10.out HB10.out.size hb11⟩
                  obtain ⟨kq, hkq⟩ := (same_ev o (fo.small (by decide))).some
                  have SM := Aside0.mk (soundingsref05_Same.calls kq A10 c10 o A11 c11 o true w11 (Kd.C_below HC10.out hb11) hlc10 hC11 hlc11 hkq)
                  clear hb11 hC11 HB10 HC9 HC10 PT p0 p1 hkq
                  go_wp2_with (go_at_call 19; refine SM.out.mono ?_; rintro e w12 ⟨rfl, hb12⟩; have HB12 : Aside0 (RowKit.Below w.heap.size w w12) := ⟨below_then HB11.out HB11.out.size hb12.below⟩; clear hb12)
                  go_ret
                  exact ⟨rfl, HB12.out⟩
theorem storeAny_pure (s : List Se) (a : List Lb) (p : Pt) (b : List Lb) (q : Pt) (hs : s.length ≤ 9223372036854775807) (hz : ∀ x ∈ s, x.f0.length ≤ 9223372036854775807 ∧ x.f1.length ≤ 9223372036854775807) (ha : a.length ≤ 9223372036854775807) (hb : b.length ≤ 9223372036854775807) : storeAny.f s a p b q = some true := by
  unfold storeAny.f
  rw [if_pos ⟨hs, hz, ha, hb⟩]
end Go.Proofs.YtlelcmkbcejjkaaDoor.L
namespace Go.Proofs.YtlelcmkbcejjkaaDoor.L
open Go.Proofs Go.Proofs.YtlelcmkbcejjkaaDoor.Two Go.Proofs.YtlelcmkbcejjkaaDoor.Lab Go.Proofs.YtlelcmkbcejjkaaDoor.Sto
open Go.RowKit Go.Proofs.YtlelcmkbcejjkaaDoorW.PrintWords Go.Proofs.YtlelcmkbcejjkaaDoorW.PrintLast Go.Proofs.YtlelcmkbcejjkaaDoorW.PrintMore
set_option linter.unusedVariables false
set_option linter.unusedSimpArgs false
def storeGrows.f (s : List Se) (l : List Lb) (p : Pt) (v : Int) : Option Bool := if s.length ≤ 9223372036854775807 ∧ (∀ x ∈ s, x.f0.length ≤ 9223372036854775807 ∧ x.f1.length ≤ 9223372036854775807) ∧ l.length ≤ 9223372036854775807 then some true else none
/-- What lies behind an Append that went well. -/
theorem grows {s o : List Se} {l m : List Lb} {t v : Int} (h : app s l t v = (o, none)) (hm : mkL mayB l = (m, none)) (hs : StOk s → s.length ≤ 400 ∧ many s ≤ 400) :
    Fine o 401 ∧ many o = many s + 1 ∧ hasS o m = true ∧ (∃ i : Nat, findI o m = i ∧ ∃ x, o[i]? = some x ∧ ∃ q : Nat, x.f1.length = q + 1 ∧ x.f1[q]?.map (·.f0) = some t) ∧ -1125899906842624 ≤ t ∧ t ≤ 1125899906842624 ∧
    (∀ u, app o l t u = ([], some 3)) ∧ (t = 1125899906842624 → ∀ u, app o l (t + 1) u = ([], some 4)) ∧ (t ≠ 1125899906842624 → ∀ u, ∃ y, app o l (t + 1) u = (y, none) ∧ Fine y 402 ∧ many y = many s + 2) := by
  obtain ⟨m', h1, h2, h3, h4, h5, h6⟩ := app_inv h
  obtain rfl : m' = m := by rw [hm] at h1; simpa using h1.symm
  have fs : Fine s 400 := ⟨h6, (hs h6).1, (hs h6).2⟩
  have fo := fs.app h
  have hmo := put_many m' _ s o h5
  obtain ⟨f1, f2, f3⟩ := put_find m' _ s o h5
  have ht := (timeB_iff t).1 h4
  refine ⟨fo, hmo, f1, ⟨eqAt o m', by unfold findI; rw [if_pos f1], o[eqAt o m'], List.getElem?_eq_getElem f2, (o[eqAt o m']).f1.length - 1, ?_, ?_⟩, ht.1, ht.2, fun u => ?_, fun he u => ?_, fun he u => ?_⟩
  · have : (o[eqAt o m']).f1 ≠ [] := (fo.ok.1 _ (List.getElem_mem f2)).2.2.1
    have := List.length_pos_iff.2 this
    omega
  · rw [← List.getLast?_eq_getElem?, f3]; rfl
  · exact app_late fo.ok hm h2 h4 ((put_twice m' _ ⟨t, normV u⟩ s o h5).1 (Int.le_refl _))
  · exact app_time fo.ok hm h2 (fun hc => by have := (timeB_iff _).1 hc; omega)
  · obtain ⟨y, hy⟩ := (put_twice m' _ ⟨t + 1, normV u⟩ s o h5).2 (by show t < t + 1; omega)
    have ha := app_yes fo.ok hm h2 ((timeB_iff (t + 1)).2 (by omega)) hy
    exact ⟨y, ha, fo.app ha, by rw [put_many m' _ o y hy, hmo]⟩
set_option maxRecDepth 100000 in
set_option maxHeartbeats 8000000 in
theorem storeGrows.calls (A0 : Option Addr) (c0 : Nat) (s : List Se) (A1 : Option Addr) (c1 : Nat) (l : List Lb) (p : Pt) (v : Int) (r : Bool) (w : World) (hr0 : Kd.C k59 w A0 s.length s) (hc0 : s.length ≤ c0) (hr1 : Kd.C k67 w A1 l.length l) (hc1 : l.length ≤ c1) (hG : GL w) (h : storeGrows.f s l p v = some r) :
    Calls Tryd.prog 6 #[.slice A0 s.length c0, .slice A1 l.length c1, .agg #[.int .i64 p.f0, .int .u64 p.f1], .int .u64 v] w fun e w' => e = .returned (.bool r) ∧ RowKit.Below w.heap.size w w' := by
  unfold storeGrows.f at h
  split at h
  rotate_left
  · cases h
  rename_i hz
  obtain ⟨hs, hzx, hal⟩ := hz
  obtain rfl := Option.some.inj h
  clear h
  have HG := Aside0.mk hG
  have HC0 := Aside0.mk hr0
  have HC1 := Aside0.mk hr1
  obtain ⟨bs, hbs, hbs2⟩ := short_ev5 s hs (fun x hx => (hzx x hx).1)
  obtain ⟨ks, hks⟩ := hbs.some
  obtain ⟨ka, hka⟩ := (short_ev l hal).some
  have SS := fun W (hW : RowKit.Below w.heap.size w W) => soundingsref05_Short.calls ks A0 c0 s bs W (Kd.C_below hr0 hW) hc0 hks
  have SA := fun W (hW : RowKit.Below w.heap.size w W) => soundingsref01_Short.calls ka A1 c1 l _ W (Kd.C_below hr1 hW) hc1 hka
  have SS := Aside0.mk SS
  have SA := Aside0.mk SA
  have HS2 := Aside0.mk hbs2
  clear hr0 hr1 hG hbs hks hka hbs2
  go_enter Tryd.func6, Tryd.ntmps6
  go_wp2_with fail
  have hbx : RowKit.Below w.heap.size w (w.alloc (.cells #[.int .i64 p.f0, .int .u64 p.f1] 40)) := below_alloc (RowKit.Below.refl _ _) _
  refine (st_awake _ (HG.out.below hbx)).mono ?_
  rintro e w1 ⟨rfl, hb1⟩
  have HB1 : Aside0 (RowKit.Below w.heap.size w w1) := ⟨below_then hbx (by simp) hb1⟩
  have p0 : w1.cell? ⟨w.heap.size, 0, none⟩ = some (.int .i64 p.f0) := pw_cell_below hb1 (by simp)
  have p1 : w1.cell? ⟨w.heap.size, 1, none⟩ = some (.int .u64 p.f1) := pw_cell_below hb1 (by simp)
  clear hb1 hbx
  cases bs with
  | false =>
    go_wp2_with (go_at_call 14; refine (SS.out _ HB1.out).mono ?_; rintro e w2 ⟨rfl, hb2⟩; have HB2 : Aside0 (RowKit.Below w.heap.size w w2) := ⟨below_then HB1.out HB1.out.size hb2.below⟩; clear hb2)
    go_ret
    exact ⟨rfl, HB2.out⟩
  | true =>
    obtain ⟨hsn, hsl, hsok⟩ := HS2.out rfl
    have HSL := Aside0.mk hsl
    have HSO := Aside0.mk hsok
    clear hsl hsok HS2
    go_wp2_with fail
    refine (SS.out _ HB1.out).mono ?_
    rintro e w2 ⟨rfl, hb2⟩
    have HB2 : Aside0 (RowKit.Below w.heap.size w w2) := ⟨below_then HB1.out HB1.out.size hb2.below⟩
    replace p0 := pw_cell_below hb2.below p0
    replace p1 := pw_cell_below hb2.below p1
    clear hb2 HB1 SS
    cases hsa : shortB l with
    | false =>
      rw [hsa] at SA
      go_wp2_with (go_at_call 15; refine (SA.out _ HB2.out).mono ?_; rintro e w3 ⟨rfl, hb3⟩; have HB3 : Aside0 (RowKit.Below w.heap.size w w3) := ⟨below_then HB2.out HB2.out.size hb3.below⟩; clear hb3)
      go_ret
      exact ⟨rfl, HB3.out⟩
    | true =>
      rw [hsa] at SA
      obtain ⟨ha40, haz⟩ := short_spec hsa
      have hk : ∃ k, store_Right.f k s = some (decide (StOk s)) := (st_ev s ⟨by omega, fun x hx => ⟨by have := (short_spec (HSL.out x hx)).1; omega, (hzx x hx).2⟩⟩).some
      have hz1 : StOk s → s.length ≤ 1000 ∧ ∀ x ∈ s, x.f1.length ≤ 1000 := fun h => ⟨by omega, fun x hx => by have := many_mem hx; have := (HSO.out h).2; omega⟩
      have PA := Aside0.mk fun W (hW : RowKit.Below w.heap.size w W) => app_calls A0 c0 s A1 c1 l p.f0 p.f1 W hk hz1 (by omega) (Kd.C_below HC0.out hW) hc0 (Kd.C_below HC1.out hW) hc1 (HG.out.below hW)
      have MA := Aside0.mk fun (m : List Lb) (r : Option Int) (e : mkL mayB l = (m, r)) W (hW : RowKit.Below w.heap.size w W) => mk_calls e (refmake_ev l (by omega) haz).some A1 c1 w W HC1.out hc1 hW
      clear hk hz1 haz
      obtain ⟨o, ra, ho⟩ : ∃ m r, app s l p.f0 p.f1 = (m, r) := ⟨_, _, rfl⟩
      go_wp2_with fail
      refine (SA.out _ HB2.out).mono ?_
      rintro e w3 ⟨rfl, hb3⟩
      have HB3 : Aside0 (RowKit.Below w.heap.size w w3) := ⟨below_then HB2.out HB2.out.size hb3.below⟩
      replace p0 := pw_cell_below hb3.below p0
      replace p1 := pw_cell_below hb3.below p1
      clear hb3 HB2 SA
      cases ra with
      | some ea =>
        have PAx := Aside0.mk (ap_some (PA.out w3 HB3.out) ho)
        go_wp2_with (go_at_call 18; refine PAx.out.mono ?_; rintro e w4 ⟨A4, c4, rfl, hb4⟩; have HB4 : Aside0 (RowKit.Below w.heap.size w w4) := ⟨below_then HB3.out HB3.out.size hb4⟩; clear hb4)
        go_ret
        exact ⟨rfl, HB4.out⟩
      | none =>
        go_wp2_with fail
        refine (ap_none (PA.out w3 HB3.out) ho).mono ?_
        rintro e w4 ⟨A4, c4, rfl, hlc4, hC4, hb4⟩
        have HB4 : Aside0 (RowKit.Below w.heap.size w w4) := ⟨below_then HB3.out HB3.out.size hb4⟩
        replace p0 := pw_cell_below hb4 p0
        replace p1 := pw_cell_below hb4 p1
        clear hb4 HB3 PA
        obtain ⟨m, hm⟩ : ∃ m, mkL mayB l = (m, none) := by obtain ⟨m, h1, _⟩ := app_inv ho; exact ⟨m, h1⟩
        obtain ⟨fo, hmo, hhas, ⟨i, hfi, x, hx, q, hq, hqt⟩, ht1, ht2, hlate, htop, hnext⟩ := grows ho hm HSO.out
        go_wp2_with fail
        refine (MA.out m none hm w4 HB4.out).mono ?_
        rintro e w5 ⟨A5, c5, rfl, hlc5, hC5, hb5⟩
        have HB5 : Aside0 (RowKit.Below w.heap.size w w5) := ⟨below_then HB4.out HB4.out.size hb5⟩
        replace p0 := pw_cell_below hb5 p0
        replace p1 := pw_cell_below hb5 p1
        have hC4 := Kd.C_below hC4 hb5
        have PF := find_calls A4 c4 o A5 c5 m w5 (st_ev o (fo.small (by decide))).some (by have := fo.len; omega) hC4 hlc4 hC5 hlc5 (HG.out.below HB5.out)
        rw [hfi, hhas] at PF
        clear hb5 HB4 MA
        go_wp2_with fail
        refine PF.mono ?_
        rintro e w6 ⟨rfl, hb6⟩
        have HB6 : Aside0 (RowKit.Below w.heap.size w w6) := ⟨below_then HB5.out HB5.out.size hb6⟩
        replace p0 := pw_cell_below hb6 p0
        replace p1 := pw_cell_below hb6 p1
        have hC4 := Kd.C_below hC4 hb6
        clear hb6 HB5 PF hC5 hfi hhas hmo
        have hil : i < o.length := (List.getElem?_eq_some_iff.1 hx).1
        have hxe : o[i] = x := (List.getElem?_eq_some_iff.1 hx).2
        have hxl : x.f1.length ≤ 1000 := by have := many_mem (List.mem_of_getElem? hx); have := fo.many; omega
        have hol : o.length ≤ 401 := fo.len
        obtain ⟨ad, A7, c7, A8, c8, rfl, y0, y1, g1, g2, g3, g4⟩ := at_T59 hC4 (i : Int) (by omega) (by omega)
        rw [se_rd o i hil, hxe] at y0 y1 g1 g2 g3 g4
        rw [Int.toNat_natCast] at y0 y1
        obtain ⟨ad5, hA5, z0, _⟩ := at_T40 g4 (q : Int) (by omega) (by omega)
        subst hA5
        rw [pt_rd x.f1 q (by omega)] at z0
        rw [Int.toNat_natCast] at z0
        have hqv : (x.f1[q]'(by omega)).f0 = p.f0 := by rw [List.getElem?_eq_getElem (by omega)] at hqt; simpa using hqt
        rw [hqv] at z0
        obtain ⟨nn, hnn⟩ : ∃ nn, nn = x.f1.length := ⟨_, rfl⟩
        rw [← hnn] at y1 hq hxl
        have i1 : ((i : Int) < (o.length : Int)) = True := eq_true (by omega)
        have i1n : (i < o.length) = True := eq_true (by omega)
        have i1e : ((o.length : Int) ≤ (i : Int)) = False := eq_false (by omega)
        have i1f : (o.length ≤ i) = False := eq_false (by omega)
        have i1g : ((i : Int) < 0) = False := eq_false (by omega)
        have i2 : IntKind.i64.wrap ((nn : Int) - 1) = (q : Int) := by rw [IntKind.wrap_i64]; omega
        have i3 : ((q : Int) < (nn : Int)) = True := eq_true (by omega)
        have i3n : (q < nn) = True := eq_true (by omega)
        have i3z : ((nn : Int) = 0) = False := eq_false (by omega)
        have i3b : ((nn : Int) == 0) = false := beq_eq_false_iff_ne.2 (by omega)
        have i3y : (nn = 0) = False := eq_false (by omega)
        have HC4 := Aside0.mk hC4
        have HL := Aside0.mk hlate
        have HT := Aside0.mk htop
        have HN := Aside0.mk hnext
        have HX := Aside0.mk hx
        clear hqv hqt hxe hC4 g1 g2 g3 g4 y0 hlate htop hnext hx hxl hq hnn
        have hbd : RowKit.Below w6.heap.size w6 w6.drew := below_drew (RowKit.Below.refl _ _)
        go_wp2_with fail
        go_region_held3 (fun w' => w'.cell? (ad5.add (q * 2)) = some (.int .i64 p.f0) ∧ w'.cell? ⟨(ad.add (i * 2)).block, (ad.add (i * 2)).off + 1, none⟩ = some (.slice (some ad5) nn c8) ∧ w'.cell? ⟨w.heap.size, 0, none⟩ = some (.int .i64 p.f0) ∧ w' = w6.drew)
          (first | exact ⟨pw_cell_below hbd z0, pw_cell_below hbd y1, pw_cell_below hbd p0, rfl⟩) (fail)
        have HB7 : Aside0 (RowKit.Below w.heap.size w w6.drew) := ⟨below_drew1 HB6.out⟩
        replace p0 := pw_cell_below hbd p0
        have HC7 := Aside0.mk (Kd.C_below HC4.out (below_drew1 (RowKit.Below.refl _ _)))
        obtain ⟨W7, hW7⟩ : ∃ W7, W7 = w6.drew := ⟨_, rfl⟩
        rw [← hW7] at HB7 p0 HC7 ⊢
        clear hbd z0 y1 HC4 HB6 hW7 p1
        go_wp2_with fail
        have P1 := ap_some (fine_calls fo (by decide) (some ad) c4 A1 c1 l p.f0 v W7 (by omega) HC7.out hlc4 (Kd.C_below HC1.out HB7.out) hc1 (HG.out.below HB7.out)) (HL.out v)
        refine P1.mono ?_
        rintro e w8 ⟨A9, c9, rfl, hb8⟩
        have HB8 : Aside0 (RowKit.Below w.heap.size w w8) := ⟨below_then HB7.out HB7.out.size hb8⟩
        have p0 := pw_cell_below hb8 p0
        have HC8 := Aside0.mk (Kd.C_below HC7.out hb8)
        clear hb8 HB7 HC7 P1 HL
        have hw : IntKind.i64.wrap (p.f0 + 1) = p.f0 + 1 := by rw [IntKind.wrap_i64]; omega
        have P2 := fine_calls fo (by decide) (some ad) c4 A1 c1 l (p.f0 + 1) v w8 (by omega) HC8.out hlc4 (Kd.C_below HC1.out HB8.out) hc1 (HG.out.below HB8.out)
        go_wp2_with fail
        by_cases htop : p.f0 = 1125899906842624
        · have P2 := ap_some P2 (HT.out htop v)
          refine P2.mono ?_
          rintro e w9 ⟨A10, c10, rfl, hb9⟩
          have HB9 : Aside0 (RowKit.Below w.heap.size w w9) := ⟨below_then HB8.out HB8.out.size hb9⟩
          have p0 := pw_cell_below hb9 p0
          clear hb9 HB8 HC8 P2
          have CF := Aside0.mk fun W (hW : RowKit.Below w.heap.size w W) => soundingslaw01_Code.calls (some 3) 3 W (HG.out.below hW) rfl
          have CH := Aside0.mk fun W (hW : RowKit.Below w.heap.size w W) => soundingslaw01_Code.calls (some 4) 4 W (HG.out.below hW) rfl
          go_wp2_with fail
          refine (CF.out w9 HB9.out).mono ?_
          rintro e w10 ⟨rfl, hb10⟩
          have HB10 : Aside0 (RowKit.Below w.heap.size w w10) := ⟨below_then HB9.out HB9.out.size hb10⟩
          have p0 := pw_cell_below hb10 p0
          clear hb10 HB9 CF
          go_wp2_with (go_at_call 12; refine (CH.out w10 HB10.out).mono ?_; rintro e w11 ⟨rfl, hb11⟩; have HB11 : Aside0 (RowKit.Below w.heap.size w w11) := ⟨below_then HB10.out HB10.out.size hb11⟩; clear hb11)
          go_ret
          exact ⟨rfl, HB11.out⟩
        · obtain ⟨y, hy, fy, hmy⟩ := HN.out htop v
          have P2 := ap_none P2 hy
          refine P2.mono ?_
          rintro e w9 ⟨A10, c10, rfl, hlc10, hC10, hb9⟩
          have HB9 : Aside0 (RowKit.Below w.heap.size w w9) := ⟨below_then HB8.out HB8.out.size hb9⟩
          have p0 := pw_cell_below hb9 p0
          have HC10 := Aside0.mk hC10
          clear hb9 HB8 HC8 P2 hC10
          have CF := Aside0.mk fun W (hW : RowKit.Below w.heap.size w W) => soundingslaw01_Code.calls (some 3) 3 W (HG.out.below hW) rfl
          have hms : many s ≤ 400 := (HSO.out (app_inv ho).choose_spec.2.2.2.2.2).2
          obtain ⟨ms, hme⟩ : ∃ ms, ms = many s := ⟨_, rfl⟩
          obtain ⟨k1, hk1⟩ := (many_ev y (by have := fy.len; omega) (by have := fy.many; omega)).some
          obtain ⟨k2, hk2⟩ := (many_ev s (by omega) (by omega)).some
          have MY := Aside0.mk fun W (hW : RowKit.Below w9.heap.size w9 W) => store_Many.calls k1 A10 c10 y _ W (Kd.C_below HC10.out hW) hlc10 hk1
          have MS := Aside0.mk fun W (hW : RowKit.Below w.heap.size w W) => store_Many.calls k2 A0 c0 s _ W (Kd.C_below HC0.out hW) hc0 hk2
          rw [hmy, ← hme] at MY
          rw [← hme] at MS
          rw [← hme] at hms
          rw [show ((ms + 2 : Nat) : Int) = (ms : Int) + 2 by omega] at MY
          have hwr : IntKind.i64.wrap ((ms : Int) + 2) = (ms : Int) + 2 := by rw [IntKind.wrap_i64]; omega
          clear hk1 hk2 hme hmy
          go_wp2_with fail
          refine (CF.out w9 HB9.out).mono ?_
          rintro e w10 ⟨rfl, hb10⟩
          have HB10 : Aside0 (RowKit.Below w.heap.size w w10) := ⟨below_then HB9.out HB9.out.size hb10⟩
          have p0 := pw_cell_below hb10 p0
          have MY := Aside0.mk (MY.out w10 hb10)
          clear hb10 HB9 CF
          go_wp2_with (first
            | (go_at_call 25; refine MY.out.mono ?_; rintro e w11 ⟨rfl, hb11⟩; have HB11 : Aside0 (RowKit.Below w.heap.size w w11) := ⟨below_then HB10.out HB10.out.size hb11⟩; clear hb11 MY)
            | (go_at_call 25; refine (MS.out _ HB11.out).mono ?_; rintro e w12 ⟨rfl, hb12⟩; have HB12 : Aside0 (RowKit.Below w.heap.size w w12) := ⟨below_then HB11.out HB11.out.size hb12⟩; clear hb12))
          go_ret
          exact ⟨rfl, HB12.out⟩
theorem storeGrows_pure (s : List Se) (l : List Lb) (p : Pt) (v : Int) (hs : s.length ≤ 9223372036854775807) (hz : ∀ x ∈ s, x.f0.length ≤ 9223372036854775807 ∧ x.f1.length ≤ 9223372036854775807) (ha : l.length ≤ 9223372036854775807) : storeGrows.f s l p v = some true := by
  unfold storeGrows.f
  rw [if_pos ⟨hs, hz, ha⟩]
end Go.Proofs.YtlelcmkbcejjkaaDoor.L
