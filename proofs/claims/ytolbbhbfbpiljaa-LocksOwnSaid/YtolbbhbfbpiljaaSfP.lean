/- slices.SortedFunc(seq, compare), against whatever iterator value; what a map's key is. Printed by mkkeys.py. -/
import Derived.Test.YtolbbhbfbpiljaaIterP
import Derived.Test.YtolbbhbfbpiljaaSrtC
namespace Go.Proofs.Ytolbbhbfbpiljaa
open Go.RowKit Go.Maps Go.Sort Go.Shelf
set_option linter.unusedVariables false
theorem grownBy_drop {a b : World} {q : Nat} (h : a.grownBy b (some q)) (hq : a.heap.size ≤ q) : a.grownBy b none := ⟨h.os, h.tape, h.output, h.size, fun k hk _ => h.block k hk (fun e => by injection e with e; omega)⟩
noncomputable def decP (v : Value) : PtS := Classical.epsilon fun p => encPV p = v
theorem decP_enc (p : PtS) : decP (encPV p) = p := encPV_inj (Classical.epsilon_spec (p := fun q => encPV q = encPV p) ⟨p, rfl⟩)
noncomputable def dkP (en : MapEntry) : PtS := decP en.key
theorem sortP_eq {a b : List PtS} (h : a.Perm b) : sortP a = sortP b := by
  have tr : ∀ x y z : PtS, (!(ltOf cfPt) y x) = true → (!(ltOf cfPt) z y) = true → (!(ltOf cfPt) z x) = true := fun x y z h1 h2 => by
    simp only [Bool.not_eq_true'] at *
    exact swo_pt.ntrans z y x h2 h1
  have to : ∀ x y : PtS, ((!(ltOf cfPt) y x) || (!(ltOf cfPt) x y)) = true := fun x y => by
    by_cases hc : ltOf cfPt y x = true
    · have : ltOf cfPt x y = false := by
        cases hh : ltOf cfPt x y with
        | false => rfl
        | true => have := swo_pt.trans y x y hc hh; rw [swo_pt.irrefl] at this; cases this
      simp [hc, this]
    · simp [Bool.not_eq_true _ ▸ hc]
  unfold sortP
  refine List.Perm.eq_of_pairwise (le := fun x y => (!(ltOf cfPt) y x) = true) (fun x y _ _ h1 h2 => ?_) (List.pairwise_mergeSort tr to a) (List.pairwise_mergeSort tr to b) (((List.mergeSort_perm a _).trans h).trans (List.mergeSort_perm b _).symm)
  simp only [Bool.not_eq_true'] at h1 h2
  exact tot_pt x y h2 h1
set_option maxRecDepth 100000 in
set_option maxHeartbeats 1000000 in
theorem sfdP_any (g : Nat) (lb : Array Value) (eg : ∀ args w, (callFunc g args).run Try.prog w = .ok (.enter g args) w)
    (S : List PtS → Prop) (N : Nat) (hN : N ≤ 1000000) (w : World) (hseq : SeqGives Fence.wide 1 Try.prog g lb encPV S N w) :
    Calls Try.prog 88 #[.func (.func g) #[] lb, .func (.func 59) #[] #[]] w fun e w' => ∃ (v : Value) (ss : List PtS), e = .returned v ∧ S ss ∧ w'.ownsRow w.heap.size 52 33 v ss.length ((sortP ss).flatMap encPt) ∧ (v = .slice none 0 0 ↔ ss = []) ∧ Below w.heap.size w w' := by
  have h1 := callsIn_wide.1 (col_in Fence.wide 3 trivial trivial rfl (by omega) g lb trivial eg _ N hN w hseq.bounded)
  have HH := Lib.hid h1
  clear h1 hseq
  go_enter Try.func88, Try.ntmps88
  go_wp2_with fail
  refine HH.out.mono ?_
  rintro e w1 ⟨v, ss, rfl, ⟨hS, hlen⟩, hrow, hnil, hb⟩
  have HROW := Lib.hid hrow; have HNIL := Lib.hid hnil; have HB := Lib.hid hb; have HS := Lib.hid hS
  rcases hrow.2 with ⟨rfl, hz⟩ | ⟨gb, cap, cur, rfl, hbase, hgb, r1, r2, r3, r4⟩
  · have hss : ss = [] := List.eq_nil_of_length_eq_zero hz
    subst hss
    clear hrow hnil hb hS hz hlen
    go_wp2_with fail
    refine (sort_pt_none none 0 _ w1).mono ?_
    rintro e w2 ⟨rfl, rfl⟩
    go_wp2_with fail
    go_ret
    exact ⟨.slice none 0 0, [], rfl, HS.out, by have := HROW.out; simpa [sortP] using this, by simp, HB.out⟩
  · have HBS := Lib.hid hbase
    have HSO := Lib.hid (sort_pt w1 (by omega) HROW.out)
    clear hrow hnil hb hS hbase hgb r1 r2 r3 r4 hlen
    obtain ⟨k, hk⟩ : ∃ k, k = ss.length := ⟨_, rfl⟩
    rw [← hk] at HSO ⊢
    have HKL := Lib.hid hk
    clear hk
    go_wp2_with fail
    refine HSO.out.mono ?_
    rintro e w2 ⟨rfl, hr2, hg2⟩
    have HR2 := Lib.hid hr2; have HG2 := Lib.hid hg2
    clear hr2 hg2
    go_wp2_with fail
    go_ret
    refine ⟨_, ss, rfl, HS.out, ?_, ?_, HB.out.grown HG2.out HB.out.size (fun j hj => by cases hj; exact HBS.out)⟩
    · have := HR2.out; rw [HKL.out] at this ⊢; exact this
    · have := HNIL.out; rw [HKL.out]; exact this
end Go.Proofs.Ytolbbhbfbpiljaa
