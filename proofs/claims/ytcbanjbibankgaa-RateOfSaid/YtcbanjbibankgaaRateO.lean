/- The walk of RateOf. -/
import Derived.Test.YtcbanjbibankgaaRateG
namespace Go.Proofs.Ytcbanjbibankgaa
open Go.RowKit
set_option linter.unusedVariables false

theorem isNaN_any (x : Nat) (w : World) (hx : x < 2^64) : Calls Try.prog 46 #[.float .f64 x] w fun e w' => e = .returned (.bool (nanB x)) ∧ w = w' := by
  have h := ord_ne x x hx hx
  rw [eqF_self, Bool.not_not] at h
  go_enter Try.func46, Try.ntmps46
  go_wp2
  go_ret
  exact ⟨rfl, rfl⟩
theorem abs_any (x : Nat) (w : World) (hx : x < 2^64) : Calls Try.prog 55 #[.float .f64 x] w fun e w' => e = .returned (.float .f64 (x % 2^63)) ∧ w = w' := by
  have h := ext_bits x
  have h1 := abs_bits x hx
  have h2 := ext_from (x % 2^63)
  generalize x % 2^63 = y at *
  go_enter Try.func55, Try.ntmps55
  go_wp2
  go_ret
  exact ⟨rfl, rfl⟩
/-- Beyond the greatest finite word. -/
theorem nan_big (x : Nat) (h : 9218868437227405312 < x % 2^63) : nanB x = true := by unfold nanB; rw [inf_val]; unfold rung; rw [decide_eq_true_eq]; exact h
def bigF (x : Nat) : Bool := ltF 9218868437227405311 (x % 2^63)
theorem isInf_any (x : Nat) (w : World) (hx : x < 2^64) : Calls Try.prog 47 #[.float .f64 x, .int .i64 0] w fun e w' => e = .returned (.bool (bigF x)) ∧ w = w' := by
  have hm : x % 2^63 < 2^64 := by omega
  have h := ord_gt (x % 2^63) 9218868437227405311 hm (by omega)
  have ha := fun w => abs_any x w hx
  rw [bigF]
  generalize x % 2^63 = y at *
  generalize ltF 9218868437227405311 y = b at *
  have HA := Lib.hid ha; clear ha
  go_enter Try.func47, Try.ntmps47
  go_wp2_with fail
  refine (HA.out _).mono ?_
  rintro e w_ ⟨rfl, rfl⟩
  go_wp2_with fail
  go_ret
  exact ⟨rfl, rfl⟩
def plainF (x : Nat) : Bool := !(nanB x) && !(bigF x) && decide (0 ≤ sgnF x)
def edgeF (x : Nat) : Bool := nanB x || ltF 9218868437227405311 x || ltF x 18442240474082181119 || (eqF x 0 && negB x)
theorem big_eq (x : Nat) (hx : x < 2^64) (h : nanB x = false) : bigF x = (ltF 9218868437227405311 x || ltF x 18442240474082181119) := by
  have hr : rung (x % 2^63) = rung x := by unfold rung; omega
  have hn : nanB (x % 2^63) = false := by unfold nanB at *; rw [hr]; exact h
  have hg : negB (x % 2^63) = false := neg_small (by omega)
  have m1 : nanB 9218868437227405311 = false := by decide +kernel
  have m2 : nanB 18442240474082181119 = false := by decide +kernel
  have g1 : negB 9218868437227405311 = false := by decide +kernel
  have g2 : negB 18442240474082181119 = true := by decide +kernel
  have u1 : rung 9218868437227405311 = 9218868437227405311 := by decide +kernel
  have u2 : rung 18442240474082181119 = 9218868437227405311 := by decide +kernel
  have p : 0 < V 9218868437227405311 := V_pos (by omega)
  unfold bigF ltF sv
  rw [hn, h, m1, m2, hg, g1, g2, hr, u1, u2]
  simp only [Bool.or_self, Bool.not_false, Bool.true_and, Bool.false_eq_true, if_false, if_true]
  rw [Bool.eq_iff_iff]
  simp only [Bool.or_eq_true, decide_eq_true_eq]
  generalize V 9218868437227405311 = c at *
  generalize V (rung x) = d at *
  cases negB x <;> simp only [Bool.false_eq_true, if_false, if_true] <;> omega
theorem plain_edge (x : Nat) (hx : x < 2^64) : plainF x = !(edgeF x) := by
  unfold plainF edgeF
  cases h : nanB x
  · rw [big_eq x hx h]
    unfold sgnF
    cases eqF x 0 <;> cases negB x <;> cases ltF 9218868437227405311 x <;> cases ltF x 18442240474082181119 <;> simp
  · simp
theorem plain_word {x : Nat} (h : x < 9218868437227405312) : plainF x = true := by
  obtain ⟨h1, h2, h3⟩ := plain_small h
  rw [plain_edge x (by omega)]
  unfold edgeF
  have p : V x ≤ V 9218868437227405311 := V_le (by omega)
  have u1 : rung 9218868437227405311 = 9218868437227405311 := by decide +kernel
  have u2 : rung 18442240474082181119 = 9218868437227405311 := by decide +kernel
  have g1 : negB 9218868437227405311 = false := by decide +kernel
  have g2 : negB 18442240474082181119 = true := by decide +kernel
  have m1 : nanB 9218868437227405311 = false := by decide +kernel
  have m2 : nanB 18442240474082181119 = false := by decide +kernel
  have hr : rung x = x := rung_small (by omega)
  unfold ltF sv
  rw [h1, h3, g1, g2, u1, u2, m1, m2, hr]
  generalize V 9218868437227405311 = c at *
  generalize V x = d at *
  simp
  omega
theorem plain_any (x : Nat) (w : World) (hx : x < 2^64) : Calls Try.prog 28 #[.float .f64 x] w fun e w' => e = .returned (.bool (plainF x)) ∧ w = w' := by
  have h1 := fun w => isNaN_any x w hx
  have h2 := fun w => isInf_any x w hx
  have h3 := fun w => sign_any x w hx
  rw [plainF]
  generalize nanB x = b1 at *
  generalize bigF x = b2 at *
  generalize sgnF x = z at *
  have H1 := Lib.hid h1; have H2 := Lib.hid h2; have H3 := Lib.hid h3
  clear h1 h2 h3
  cases b1
  · cases b2
    · go_enter Try.func28, Try.ntmps28
      go_wp2_with fail
      refine (H1.out _).mono ?_
      rintro e w_ ⟨rfl, rfl⟩
      go_wp2_with fail
      refine (H2.out _).mono ?_
      rintro e w_ ⟨rfl, rfl⟩
      go_wp2_with fail
      refine (H3.out _).mono ?_
      rintro e w_ ⟨rfl, rfl⟩
      go_wp2_with fail
      go_ret
      exact ⟨rfl, rfl⟩
    · go_enter Try.func28, Try.ntmps28
      go_wp2_with fail
      refine (H1.out _).mono ?_
      rintro e w_ ⟨rfl, rfl⟩
      go_wp2_with fail
      refine (H2.out _).mono ?_
      rintro e w_ ⟨rfl, rfl⟩
      go_wp2_with fail
      go_ret
      exact ⟨rfl, rfl⟩
  · go_enter Try.func28, Try.ntmps28
    go_wp2_with fail
    refine (H1.out _).mono ?_
    rintro e w_ ⟨rfl, rfl⟩
    go_wp2_with fail
    go_ret
    exact ⟨rfl, rfl⟩

def sameF (x y : Nat) : Bool := (x == y) || (nanB x && nanB y)
theorem rsame_any (x y : Nat) (w : World) (hx : x < 2^64) (hy : y < 2^64) : Calls Try.prog 26 #[.float .f64 x, .float .f64 y] w fun e w' => e = .returned (.bool (sameF x y)) ∧ w = w' := by
  have h1 := ord_ne x x hx hx
  have h2 := ord_ne y y hy hy
  rw [eqF_self, Bool.not_not] at h1 h2
  have e1 := ext_bits x
  have e2 := ext_bits y
  rw [sameF]
  by_cases hxy : x = y
  · subst hxy
    rw [show (x == x) = true by simp, Bool.true_or]
    clear h1 h2 e2
    go_enter Try.func26, Try.ntmps26
    go_wp2
    go_ret
    exact ⟨rfl, rfl⟩
  · have hb : (x == y) = false := beq_eq_false_iff_ne.2 hxy
    have hb2 : ((x : Int) == (y : Int)) = false := beq_eq_false_iff_ne.2 (by omega)
    rw [hb, Bool.false_or]
    generalize nanB x = b1 at *
    generalize nanB y = b2 at *
    clear hxy hb
    cases b1
    · clear h2
      go_enter Try.func26, Try.ntmps26
      go_wp2
      go_ret
      exact ⟨rfl, rfl⟩
    · cases b2
      all_goals
        go_enter Try.func26, Try.ntmps26
        go_wp2
        go_ret
        exact ⟨rfl, rfl⟩

/-- The reference's rate: a NaN, or the quotient's word. -/
theorem rof_num (fee size : Int) (w : World) (h : 0 ≤ fee) (h1 : fee ≤ 18446744073709551615) (h2 : 0 < size) (h3 : size ≤ 9223372036854775807) :
    Calls Try.prog 27 #[.int .u64 fee, .int .i64 size] w fun e w' => e = .returned (.float .f64 (dW fee.toNat size.toNat)) ∧ w = w' := by
  have hr : divI fee size = some (dW fee.toNat size.toNat) := by
    have := dW_some fee.toNat size.toNat (by omega) (by omega) (by omega)
    unfold rI at this
    rw [Int.toNat_of_nonneg h, Int.toNat_of_nonneg (by omega)] at this
    exact this
  have hb : (size == 0) = false := beq_eq_false_iff_ne.2 (by omega)
  have hq := fun w t => run_float_arith (P := Try.prog) w .quo t .f64 _ _ _ hr
  generalize dW fee.toNat size.toNat = r at *
  clear hr h h1
  by_cases hf : fee = 0
  · subst hf
    go_enter Try.func27, Try.ntmps27
    go_wp2_with fail
    go_ret
    exact ⟨rfl, rfl⟩
  · have hb2 : (fee == 0) = false := beq_eq_false_iff_ne.2 hf
    go_enter Try.func27, Try.ntmps27
    go_wp2_with fail
    go_ret
    exact ⟨rfl, rfl⟩
theorem div_inf (fee : Nat) (h : 0 < fee) (h1 : fee < 2 ^ 64) : Ieee.double.div (rI fee) (rI 0) = some 9218868437227405312 := by
  have b := rI_bd h (by omega)
  rw [rI_zero]
  generalize rI fee = a at *
  have r1 := rd a (by omega)
  have va := V_pos (show 0 < a by omega)
  have i1 := inf_val
  rw [Ieee.Format.div]
  have h0 : Ieee.double.read 0 = .number false 0 Ieee.double.leastPlace := by decide
  rw [h0]
  generalize Ieee.double.read a = da at *
  cases r1 with
  | nan hr t => rw [rung_small (by omega)] at hr; omega
  | inf hr => rw [rung_small (by omega)] at hr; omega
  | num m i hr hv =>
    rw [rung_small (by omega)] at hv
    rw [neg_small (by omega)]
    have hm : ¬ m = 0 := by
      intro h; rw [h, Nat.zero_mul] at hv; omega
    simp only [Ieee.Datum.quotient, if_neg hm, if_true, Option.map_some, Ieee.Format.write, Bool.xor_self]
    rfl
theorem rof_inf (fee : Int) (w : World) (h : 0 < fee) (h1 : fee ≤ 18446744073709551615) :
    Calls Try.prog 27 #[.int .u64 fee, .int .i64 0] w fun e w' => e = .returned (.float .f64 9218868437227405312) ∧ w = w' := by
  have hr : divI fee 0 = some 9218868437227405312 := by
    have := div_inf fee.toNat (by omega) (by omega)
    unfold rI at this
    rw [Int.toNat_of_nonneg (by omega)] at this
    exact this
  have hb : (fee == 0) = false := beq_eq_false_iff_ne.2 (by omega)
  have hq := fun w t => run_float_arith (P := Try.prog) w .quo t .f64 _ _ _ hr
  clear hr
  go_enter Try.func27, Try.ntmps27
  go_wp2_with fail
  go_ret
  exact ⟨rfl, rfl⟩

theorem run_zz {P : Program} (w : World) (t : TypeId) : ∃ x, (binOp .quo t (.float .f64 0) (.float .f64 0)).run P w = .ok (.float .f64 x) w.drew ∧ nanB x = true ∧ x < 2^64 := by
  have h : FloatKind.f64.format.div 0 0 = none := by decide
  have hf : (Question.nanBits FloatKind.f64 0 0).forced = false := rfl
  refine ⟨(Question.nanBits .f64 0 0).cut (w.tape w.drawn (.nanBits .f64 0 0)), ?_, ?_⟩
  · simp [binOp, Op.floatArith, h, hf]
  · show nanB (w.tape w.drawn (.nanBits .f64 0 0) % 2 * 2 ^ 63 + 0x7ff0000000000000 + 1 + w.tape w.drawn (.nanBits .f64 0 0) / 2 % (2 ^ 52 - 1)) = true ∧ w.tape w.drawn (.nanBits .f64 0 0) % 2 * 2 ^ 63 + 0x7ff0000000000000 + 1 + w.tape w.drawn (.nanBits .f64 0 0) / 2 % (2 ^ 52 - 1) < 2 ^ 64
    generalize w.tape w.drawn (.nanBits .f64 0 0) = q
    have ha : q % 2 < 2 := Nat.mod_lt _ (by omega)
    have hb : q / 2 % (2 ^ 52 - 1) < 2 ^ 52 - 1 := Nat.mod_lt _ (by omega)
    generalize q % 2 = a at *
    generalize q / 2 % (2 ^ 52 - 1) = b at *
    have ha2 : a = 0 ∨ a = 1 := by omega
    rcases ha2 with rfl | rfl
    · exact ⟨nan_big _ (by omega), by omega⟩
    · exact ⟨nan_big _ (by omega), by omega⟩
theorem rof_nan (fee size : Int) (w : World) (h : size < 0 ∨ size = 0 ∧ fee = 0) :
    Calls Try.prog 27 #[.int .u64 fee, .int .i64 size] w fun e w' => ∃ x, e = .returned (.float .f64 x) ∧ (nanB x = true ∧ x < 2^64) ∧ Drawn w w' := by
  obtain ⟨x, hx, h1, h2⟩ := run_zz (P := Try.prog) w 26
  have H1 := Lib.hid (And.intro h1 h2)
  clear h1 h2
  rcases h with h | ⟨rfl, rfl⟩
  all_goals
    go_enter Try.func27, Try.ntmps27
    go_wp2_with fail
    go_ret
    exact ⟨x, rfl, H1.out, Drawn.one _⟩

/-- What both answer for any fee and size. -/
theorem of_both (fee size : Int) (h : 0 ≤ fee) (h1 : fee ≤ 18446744073709551615) (h3 : size ≤ 9223372036854775807) :
    ∃ r, r < 2^64 ∧ (∀ w, Calls Try.prog 16 #[.int .u64 fee, .int .i64 size] w fun e w' => e = .returned (.float .f64 r) ∧ w = w') ∧
      (∀ w, Calls Try.prog 27 #[.int .u64 fee, .int .i64 size] w fun e w' => ∃ x, e = .returned (.float .f64 x) ∧ (sameF r x = true ∧ x < 2^64) ∧ Drawn w w') ∧ (0 < size → plainF r = true) := by
  by_cases hn : size < 0 ∨ size = 0 ∧ fee = 0
  · refine ⟨9221120237041090561, by decide, fun w => of_nan fee size w hn, fun w => ?_, fun h => by omega⟩
    refine (rof_nan fee size w hn).mono ?_
    rintro e w' ⟨x, rfl, ⟨h1, h2⟩, h3⟩
    refine ⟨x, rfl, ⟨?_, h2⟩, h3⟩
    rw [sameF, h1, show nanB 9221120237041090561 = true by decide +kernel]; simp
  · by_cases hz : size = 0
    · subst hz
      refine ⟨9218868437227405312, by decide, fun w => of_inf fee w (by omega), fun w => ?_, fun h => by omega⟩
      refine (rof_inf fee w (by omega) h1).mono ?_
      rintro e w' ⟨rfl, rfl⟩
      exact ⟨_, rfl, ⟨by simp [sameF], by decide⟩, Drawn.refl _⟩
    · have hlt := dW_lt fee.toNat size.toNat (by omega) (by omega) (by omega)
      refine ⟨dW fee.toNat size.toNat, by omega, fun w => of_dW fee size w h h1 (by omega) h3, fun w => ?_, fun _ => plain_word hlt⟩
      refine (rof_num fee size w h h1 (by omega) h3).mono ?_
      rintro e w' ⟨rfl, rfl⟩
      exact ⟨_, rfl, ⟨by simp [sameF], by omega⟩, Drawn.refl _⟩

theorem walk_RateOf (fee size : Int) (x : Nat) (w : World) (ha : (Lit.int .u64 fee).wf = true) (hb : (Lit.int .i64 size).wf = true) (hx : (Lit.float .f64 x).wf = true) :
    Calls Try.prog 9 #[.int .u64 fee, .int .i64 size, .float .f64 x] w fun e w' => e = .returned (.bool true) ∧ Below w.heap.size w w' := by
  obtain ⟨a1, a2⟩ := bounds_u64 ha
  obtain ⟨b1, b2⟩ := bounds_i64 hb
  have hx := lt64 hx
  clear ha hb
  obtain ⟨r, hr, c1, c2, c3⟩ := of_both fee size a1 a2 b2
  have c4 := fun w y hy => rsame_any r y w hr hy
  have c5 := fun w => plain_any x w hx
  have c6 := fun w => plain_any r w hr
  have c7 := fun w => signbit_any x w hx
  have pe := plain_edge x hx
  have o1 := ord_ne x x hx hx
  rw [eqF_self, Bool.not_not] at o1
  have o2 := ord_gt x 9218868437227405311 hx (by omega)
  have o3 := ord_lt x 18442240474082181119 hx (by omega)
  have o4 := ord_eq x 0 hx (by omega)
  unfold edgeF at pe
  generalize nanB x = p1 at *
  generalize ltF 9218868437227405311 x = p2 at *
  generalize ltF x 18442240474082181119 = p3 at *
  generalize eqF x 0 = p4 at *
  generalize negB x = p5 at *
  have C1 := Lib.hid c1; have C2 := Lib.hid c2; have C4 := Lib.hid c4; have C7 := Lib.hid c7
  have C6 : Hid (0 < size → ∀ w, Calls Try.prog 28 #[.float .f64 r] w fun e w' => e = .returned (.bool true) ∧ w = w') := Lib.hid (fun h w => by rw [← c3 h]; exact c6 w)
  clear c1 c2 c3 c4 c6 c7 a1 a2 b1 b2 hr hx
  have HB := Lib.hid (Below.refl w.heap.size w)
  have six : (p1 = true ∧ plainF x = false) ∨ (p1 = false ∧ p2 = true ∧ plainF x = false) ∨ (p1 = false ∧ p2 = false ∧ p3 = true ∧ plainF x = false) ∨ (p1 = false ∧ p2 = false ∧ p3 = false ∧ p4 = false ∧ plainF x = true) ∨ (p1 = false ∧ p2 = false ∧ p3 = false ∧ p4 = true ∧ p5 = false ∧ plainF x = true) ∨ (p1 = false ∧ p2 = false ∧ p3 = false ∧ p4 = true ∧ p5 = true ∧ plainF x = false) := by
    rw [pe]
    clear o1 o2 o3 o4 pe c5 C1 C2 C4 C7 C6 HB
    cases p1 <;> cases p2 <;> cases p3 <;> cases p4 <;> cases p5 <;> simp
  clear pe
  by_cases hs : size < 1
  · clear C6
    rcases six with ⟨rfl, h6⟩ | ⟨rfl, rfl, h6⟩ | ⟨rfl, rfl, rfl, h6⟩ | ⟨rfl, rfl, rfl, rfl, h6⟩ | ⟨rfl, rfl, rfl, rfl, rfl, h6⟩ | ⟨rfl, rfl, rfl, rfl, rfl, h6⟩
    all_goals
      rw [h6] at c5
      have C5 := Lib.hid c5
      clear c5 h6
      go_enter Try.func9, Try.ntmps9
      go_wp2_with fail
      refine (C1.out _).mono ?_
      rintro e w_ ⟨rfl, rfl⟩
      go_wp2_with (go_at_call 25; refine (C7.out _).mono ?_; rintro e w_ ⟨rfl, rfl⟩)
      refine (C2.out _).mono ?_
      rintro e w_ ⟨y, rfl, ⟨hy1, hy2⟩, hd⟩
      have hb_ := hd.all
      have c4 := fun w => C4.out w y hy2
      rw [hy1] at c4
      have C4 := Lib.hid c4
      clear c4 hy1 hy2 hd
      have HB_ := Lib.hid (below_step HB.out HB.out.size hb_)
      clear hb_ HB
      have HB := HB_
      clear HB_
      go_wp2_with fail
      refine (C4.out _).mono ?_
      rintro e w_ ⟨rfl, rfl⟩
      go_wp2_with fail
      refine (C5.out _).mono ?_
      rintro e w_ ⟨rfl, rfl⟩
      go_wp2_with fail
      refine (awake01 _).mono ?_
      rintro e w_ ⟨rfl, hb_⟩
      have HB_ := Lib.hid (below_step HB.out HB.out.size hb_)
      clear hb_ HB
      have HB := HB_
      clear HB_
      go_wp2_with fail
      go_ret
      exact ⟨rfl, HB.out⟩
  · have C6 := Lib.hid (C6.out (by omega))
    rcases six with ⟨rfl, h6⟩ | ⟨rfl, rfl, h6⟩ | ⟨rfl, rfl, rfl, h6⟩ | ⟨rfl, rfl, rfl, rfl, h6⟩ | ⟨rfl, rfl, rfl, rfl, rfl, h6⟩ | ⟨rfl, rfl, rfl, rfl, rfl, h6⟩
    all_goals
      rw [h6] at c5
      have C5 := Lib.hid c5
      clear c5 h6
      go_enter Try.func9, Try.ntmps9
      go_wp2_with fail
      refine (C1.out _).mono ?_
      rintro e w_ ⟨rfl, rfl⟩
      go_wp2_with (go_at_call 25; refine (C7.out _).mono ?_; rintro e w_ ⟨rfl, rfl⟩)
      refine (C2.out _).mono ?_
      rintro e w_ ⟨y, rfl, ⟨hy1, hy2⟩, hd⟩
      have hb_ := hd.all
      have c4 := fun w => C4.out w y hy2
      rw [hy1] at c4
      have C4 := Lib.hid c4
      clear c4 hy1 hy2 hd
      have HB_ := Lib.hid (below_step HB.out HB.out.size hb_)
      clear hb_ HB
      have HB := HB_
      clear HB_
      go_wp2_with fail
      refine (C4.out _).mono ?_
      rintro e w_ ⟨rfl, rfl⟩
      go_wp2_with fail
      refine (C5.out _).mono ?_
      rintro e w_ ⟨rfl, rfl⟩
      go_wp2_with fail
      refine (C6.out _).mono ?_
      rintro e w_ ⟨rfl, rfl⟩
      go_wp2_with fail
      refine (awake01 _).mono ?_
      rintro e w_ ⟨rfl, hb_⟩
      have HB_ := Lib.hid (below_step HB.out HB.out.size hb_)
      clear hb_ HB
      have HB := HB_
      clear HB_
      go_wp2_with fail
      go_ret
      exact ⟨rfl, HB.out⟩
end Go.Proofs.Ytcbanjbibankgaa
