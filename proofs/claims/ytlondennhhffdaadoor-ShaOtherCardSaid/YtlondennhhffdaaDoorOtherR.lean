/- Region 7 of seisinlaw03.ShaOther: a mark, and two lists of bytes behind it, each with its length. -/
import Derived.Test.YtlondennhhffdaaDoorFlowS
import Derived.Test.YtlondennhhffdaaDoorUnder
import Derived.Test.YtlondennhhffdaaDoorShaH
import Derived.Test.YtlondennhhffdaaDoorTagC
import Derived.Test.YtlondennhhffdaaDoorRefVA
namespace Go.Proofs.YtlondennhhffdaaDoor
open Go.RowKit Go.Shelf
set_option linter.unusedVariables false

theorem own_blk {w : World} {base g n : Nat} {e : TypeId} {cs : List Value} (h : Blk w g e cs) (hn : cs.length = n) (hb : base ≤ g) (hm : n ≤ maxLen) : w.ownsRow base e 1 (.slice (some ⟨g, 0, none⟩) n n) n cs :=
  ⟨by omega, .inr ⟨g, n, cs.toArray, rfl, hb, h, Nat.le_refl _, hm, by simp; omega, List.take_of_length_le (by simp; omega)⟩⟩
theorem under1 (m : UInt8) (a : List UInt8) : underB m [a] = [m] ++ (beBytes a.length 4 ++ a) := by
  have : underB m [] = [m] := by unfold underB; simp
  rw [show [a] = [] ++ [a] from rfl, underB_snoc, this]
theorem under2 (m : UInt8) (a b : List UInt8) : underB m [a, b] = [m] ++ (beBytes a.length 4 ++ a) ++ (beBytes b.length 4 ++ b) := by
  rw [show [a, b] = [a] ++ [b] from rfl, underB_snoc, under1]
noncomputable def soReg (k : Nat) : Code := (((Tryd.f7.body.map regsOf).getD []).find? (fun e => e.1 == k) |>.map (·.2)).getD .skip

set_option maxRecDepth 100000 in
set_option maxHeartbeats 1000000 in
theorem so7 {q_1 q_2 q_4 q_5 q_6 q_7 q_8 q_9 q_11 q_12 q_13 q_14 q_15 q_16 q_17 q_18 q_19 q_20 q_21 q_22 q_23 q_24 q_25 q_26 q_27 q_28 q_29 q_30 q_31 q_32 q_33 q_34 q_35 q_36 q_37 q_38 q_39 q_40 q_41 q_42 q_43 q_44 q_45 q_46 q_47 q_48 q_49 q_50 q_51 q_52 q_53 q_54 q_55 q_56 q_57 q_58 q_59 q_60 q_61 q_62 q_63 q_64 q_65 q_66 q_67 q_68 q_69 q_70 q_71 q_72 q_73 q_74 q_75 q_76 q_77 q_78 q_79 q_80 q_81 q_82 q_83 q_84 q_85 q_86 q_87 q_88 q_89 q_90 q_91 q_92 q_93 q_94 q_95 q_96 q_97 q_98 q_99 q_100 q_101 q_102 q_103 q_104 q_105 q_106 q_107 q_108 q_109 q_110 q_111 q_112 q_113 q_114 q_115 q_116 q_117 q_118 q_119 q_120 q_121 q_122 q_123 q_124 q_125 q_126 q_127 q_128 q_129 q_130 q_131 q_132 q_133 q_134 q_135 q_136 q_137 q_138 q_139 q_140 q_141 q_142 q_143 : Value} {Q0 : Exit → Act → World → Prop} {w : World} {A : Option Addr} {n c k : Nat} {bs : List UInt8} {m : UInt8} (hkn : k ≤ n) (hn : n ≤ c) (h3 : n ≤ 300)
    (HS : Hid (Sl w w.heap.size 1 A n (bs.map B)))
    (HEX : Hid (∀ {u_47 u_48 u_49 u_50 u_51 u_52 u_53 u_54 u_55 u_56 u_57 u_58 : Value} {w' : World} {A' : Option Addr} {c' : Nat}, Below w.heap.size w w' → Sl w' w'.heap.size 1 A' (1 + (4 + k) + (4 + (n - k))) ((underB m [bs.take k, bs.drop k]).map B) →
      Q0 .normal ⟨((.slice A n c) :: q_1 :: q_2 :: (.int .u8 (b8 m)) :: q_4 :: q_5 :: q_6 :: q_7 :: q_8 :: q_9 :: (.int .i64 k) :: q_11 :: (.slice A' (1 + (4 + k) + (4 + (n - k))) c') :: q_13 :: q_14 :: q_15 :: q_16 :: q_17 :: q_18 :: q_19 :: q_20 :: q_21 :: q_22 :: q_23 :: q_24 :: q_25 :: q_26 :: q_27 :: q_28 :: q_29 :: q_30 :: q_31 :: q_32 :: q_33 :: q_34 :: q_35 :: q_36 :: q_37 :: q_38 :: q_39 :: q_40 :: q_41 :: q_42 :: q_43 :: q_44 :: q_45 :: q_46 :: u_47 :: u_48 :: u_49 :: u_50 :: u_51 :: u_52 :: u_53 :: u_54 :: u_55 :: u_56 :: u_57 :: u_58 :: q_59 :: q_60 :: q_61 :: q_62 :: q_63 :: q_64 :: q_65 :: q_66 :: q_67 :: q_68 :: q_69 :: q_70 :: q_71 :: q_72 :: q_73 :: q_74 :: q_75 :: q_76 :: q_77 :: q_78 :: q_79 :: q_80 :: q_81 :: q_82 :: q_83 :: q_84 :: q_85 :: q_86 :: q_87 :: q_88 :: q_89 :: q_90 :: q_91 :: q_92 :: q_93 :: q_94 :: q_95 :: q_96 :: q_97 :: q_98 :: q_99 :: q_100 :: q_101 :: q_102 :: q_103 :: q_104 :: q_105 :: q_106 :: q_107 :: q_108 :: q_109 :: q_110 :: q_111 :: q_112 :: q_113 :: q_114 :: q_115 :: q_116 :: q_117 :: q_118 :: q_119 :: q_120 :: q_121 :: q_122 :: q_123 :: q_124 :: q_125 :: q_126 :: q_127 :: q_128 :: q_129 :: q_130 :: q_131 :: q_132 :: q_133 :: q_134 :: q_135 :: q_136 :: q_137 :: q_138 :: q_139 :: q_140 :: q_141 :: q_142 :: q_143 :: []).toArray, []⟩ w')) :
    Code.wp Tryd.prog (soReg 7) Q0 ⟨((.slice A n c) :: q_1 :: q_2 :: (.int .u8 (b8 m)) :: q_4 :: q_5 :: q_6 :: q_7 :: q_8 :: q_9 :: (.int .i64 k) :: q_11 :: q_12 :: q_13 :: q_14 :: q_15 :: q_16 :: q_17 :: q_18 :: q_19 :: q_20 :: q_21 :: q_22 :: q_23 :: q_24 :: q_25 :: q_26 :: q_27 :: q_28 :: q_29 :: q_30 :: q_31 :: q_32 :: q_33 :: q_34 :: q_35 :: q_36 :: q_37 :: q_38 :: q_39 :: q_40 :: q_41 :: q_42 :: q_43 :: q_44 :: q_45 :: q_46 :: q_47 :: q_48 :: q_49 :: q_50 :: q_51 :: q_52 :: q_53 :: q_54 :: q_55 :: q_56 :: q_57 :: q_58 :: q_59 :: q_60 :: q_61 :: q_62 :: q_63 :: q_64 :: q_65 :: q_66 :: q_67 :: q_68 :: q_69 :: q_70 :: q_71 :: q_72 :: q_73 :: q_74 :: q_75 :: q_76 :: q_77 :: q_78 :: q_79 :: q_80 :: q_81 :: q_82 :: q_83 :: q_84 :: q_85 :: q_86 :: q_87 :: q_88 :: q_89 :: q_90 :: q_91 :: q_92 :: q_93 :: q_94 :: q_95 :: q_96 :: q_97 :: q_98 :: q_99 :: q_100 :: q_101 :: q_102 :: q_103 :: q_104 :: q_105 :: q_106 :: q_107 :: q_108 :: q_109 :: q_110 :: q_111 :: q_112 :: q_113 :: q_114 :: q_115 :: q_116 :: q_117 :: q_118 :: q_119 :: q_120 :: q_121 :: q_122 :: q_123 :: q_124 :: q_125 :: q_126 :: q_127 :: q_128 :: q_129 :: q_130 :: q_131 :: q_132 :: q_133 :: q_134 :: q_135 :: q_136 :: q_137 :: q_138 :: q_139 :: q_140 :: q_141 :: q_142 :: q_143 :: []).toArray, []⟩ w := by
  have HL := Lib.hid (show bs.length = n by have := HS.out.len; simpa using this)
  have HB := Lib.hid (Below.refl w.heap.size w)
  conv => arg 2; whnf
  have hkc : k ≤ c := by omega
  have HS1 := Lib.hid (show Sl w w.heap.size 1 A k ((bs.take k).map B) by rw [List.map_take]; exact HS.out.to1 hkn)
  have HSD := Lib.hid (show Sl w w.heap.size 1 _ (n - k) ((bs.drop k).map B) by rw [List.map_drop]; exact HS.out.from1 hkn hn)
  have HA1 := Lib.hid (all_bytes (beBytes k 4 ++ bs.take k))
  have HA2 := Lib.hid (all_bytes (beBytes (n - k) 4 ++ bs.drop k))
  try go_wp2_with fail
  repeat' (first | (with_reducible refine wp_plan (id := 7) Grow [0,3,0,0,0,3,3,0,0,0,3,3,0] (.get 0 (.get 2 (.get 3 (.get 4 (.get 7 (.get 8 (.get 9 (.fork 1 (.act 5 (.act 6 (.act 10 (.act 11 (.get 12 .done))))) (.act 5 (.act 1 (.act 6 (.act 10 (.act 11 (.get 12 .done)))))))))))))) (by kernel_rfl) (by kernel_rfl) Grow.refl Grow.trans ?_) | go_values | go_skip | go_guarded | go_step | go_upon | go_back)
  intro w_ hd_
  have hb_ := hd_.grow
  have HB_ := Lib.hid (HB.out.grow' hb_)
  clear HB
  have HB := HB_
  clear HB_
  clear hb_ hd_
  repeat (first | (refine pl_calm rfl rfl (by first | exact wanted_none rfl | (go_simp; done) | rfl) (fun w_ => by first | (go_simp; rfl) | (go_simp; done) | rfl) (fun K hK => ?_); go_simp; refine hK _ _ ?_; clear hK K) | (refine pl_skip rfl (by first | (go_simp; done) | rfl) (fun K hK => ?_); go_simp; refine hK _ _ ?_; clear hK K) | (refine pl_skipa rfl (by first | (go_simp; done) | rfl) (fun K hK => ?_); go_simp; refine hK _ _ ?_; clear hK K))
  generalize (if c = k then A else Option.map (fun x => x.add k) A) = A2 at HSD ⊢
  refine pl_fork rfl (by exact wanted_none rfl) (fun K hK => ?_) ?_
  · have HG := Lib.hid HB.out.size
    go_wp2_with fail
    generalize hw_ : World.alloc w_ _ = w2_
    obtain ⟨hX_, hb_, hs_⟩ := alloc_eq hw_
    generalize hg_ : w_.heap.size = g at hX_ hs_ HG ⊢
    refine hK _ _ (fun _ => hb_) ?_
    have HO := Lib.hid (own_blk (base := w.heap.size) hX_ (n := 1) rfl HG.out (by simp [maxLen]))
    have HB2 := Lib.hid (HB.out.grow' hb_)
    clear hK K hw_ hX_ hb_ hs_ HB hg_
    clear w_
    rename World => w_
    have HB := HB2
    clear HB2
    have HSX := Lib.hid (((HS1.out.below HB.out).more HB.out.size))
    refine pl_act rfl (by exact wanted_none rfl) (fun K hK => ?_)
    go_wp2_with fail
    refine (long_any _ _ _ (bs.take k) _ HSX.out (by omega)).mono ?_
    rintro e w2_ ⟨A5, c5, rfl, ho_, hb_⟩
    have HS5 := Lib.hid (Sl.of_own ho_)
    have HO2 := Lib.hid (own_below HO.out hb_)
    have HB2 := Lib.hid (HB.out.grow' hb_)
    go_wp2_with fail
    refine hK _ _ (fun _ => hb_) ?_
    clear hK K ho_ hb_ HB HO HSX
    clear w_
    rename World => w_
    have HB := HB2
    have HO := HO2
    clear HB2 HO2
    refine pl_act rfl (by exact wanted_none rfl) (fun K hK => ?_)
    show wpList _ _ _ [⟨some _, .call _, _, _, _, _⟩] _ _
    go_wp2_with (at_builtin; refine wpl_apps rfl rfl el_u8 HO.out rfl HS5.out rfl HA1.out (by omega) (by omega) HB.out.size ?_)
    intro A6 c6 w4_ ho hg hA
    have HB_ := Lib.hid (app_below HB.out HO.out hg)
    have HO_ := Lib.hid ho
    clear ho hg hA HO HS5 HB
    have HB := HB_
    have HO := HO_
    clear HB_ HO_
    go_wp2_with fail
    refine hK _ _ (fun h => by cases h) ?_
    clear hK K
    clear w_
    rename World => w_
    have HSX := Lib.hid (((HSD.out.below HB.out).more HB.out.size))
    refine pl_act rfl (by exact wanted_none rfl) (fun K hK => ?_)
    go_wp2_with fail
    refine (long_any _ _ _ (bs.drop k) _ HSX.out (by omega)).mono ?_
    rintro e w2_ ⟨A7, c7, rfl, ho_, hb_⟩
    have HS7 := Lib.hid (Sl.of_own ho_)
    have HO2 := Lib.hid (own_below HO.out hb_)
    have HB2 := Lib.hid (HB.out.grow' hb_)
    go_wp2_with fail
    refine hK _ _ (fun _ => hb_) ?_
    clear hK K ho_ hb_ HB HO HSX
    clear w_
    rename World => w_
    have HB := HB2
    have HO := HO2
    clear HB2 HO2
    refine pl_act rfl (by exact wanted_none rfl) (fun K hK => ?_)
    show wpList _ _ _ [⟨some _, .call _, _, _, _, _⟩] _ _
    go_wp2_with (at_builtin; refine wpl_apps rfl rfl el_u8 HO.out rfl HS7.out rfl HA2.out (by omega) (by omega) HB.out.size ?_)
    intro A8 c8 w4_ ho hg hA
    have HB_ := Lib.hid (app_below HB.out HO.out hg)
    have HO_ := Lib.hid ho
    clear ho hg hA HO HS7 HB
    have HB := HB_
    have HO := HO_
    clear HB_ HO_
    go_wp2_with fail
    refine hK _ _ (fun h => by cases h) ?_
    clear hK K
    clear w_
    rename World => w_
    repeat (first | (refine pl_calm rfl rfl (by first | exact wanted_none rfl | (go_simp; done) | rfl) (fun w_ => by first | (go_simp; rfl) | (go_simp; done) | rfl) (fun K hK => ?_); go_simp; refine hK _ _ ?_; clear hK K) | (refine pl_skip rfl (by first | (go_simp; done) | rfl) (fun K hK => ?_); go_simp; refine hK _ _ ?_; clear hK K) | (refine pl_skipa rfl (by first | (go_simp; done) | rfl) (fun K hK => ?_); go_simp; refine hK _ _ ?_; clear hK K))
    refine pl_done ?_
    have HF := Lib.hid (show Sl w_ w_.heap.size 1 A8 (1 + (4 + k) + (4 + (n - k))) ((underB m [bs.take k, bs.drop k]).map B) by
      have h := Sl.of_own HO.out
      rw [under2, List.length_take, List.length_drop, HL.out, Nat.min_eq_left hkn]
      simp only [List.map_append, List.map_take, List.map_drop, List.map_cons, List.map_nil, List.append_assoc, List.cons_append, List.nil_append]
      exact h)
    exact HEX.out HB.out HF.out
  · have HSX := Lib.hid (((HS1.out.below HB.out).more HB.out.size))
    refine pl_act rfl (by exact wanted_none rfl) (fun K hK => ?_)
    go_wp2_with fail
    refine (long_any _ _ _ (bs.take k) _ HSX.out (by omega)).mono ?_
    rintro e w2_ ⟨A5, c5, rfl, ho_, hb_⟩
    have HS5 := Lib.hid (Sl.of_own ho_)
    have HB2 := Lib.hid (HB.out.grow' hb_)
    go_wp2_with fail
    refine hK _ _ (fun _ => hb_) ?_
    clear hK K ho_ hb_ HB HSX
    clear w_
    rename World => w_
    have HB := HB2
    clear HB2
    have HG := Lib.hid HB.out.size
    refine pl_act rfl (by exact wanted_none rfl) (fun K hK => ?_)
    go_wp2_with fail
    generalize hw_ : World.alloc w_ _ = w2_
    obtain ⟨hX_, hb_, hs_⟩ := alloc_eq hw_
    generalize hg_ : w_.heap.size = g at hX_ hs_ HG ⊢
    refine hK _ _ (fun _ => hb_) ?_
    have HO := Lib.hid (own_blk (base := w.heap.size) hX_ (n := 1) rfl HG.out (by simp [maxLen]))
    have HB2 := Lib.hid (HB.out.grow' hb_)
    have HS52 := Lib.hid (HS5.out.grow hb_)
    clear hK K hw_ hX_ hb_ hs_ HB HS5 hg_
    clear w_
    rename World => w_
    have HB := HB2
    have HS5 := HS52
    clear HB2 HS52
    refine pl_act rfl (by exact wanted_none rfl) (fun K hK => ?_)
    show wpList _ _ _ [⟨some _, .call _, _, _, _, _⟩] _ _
    go_wp2_with (at_builtin; refine wpl_apps rfl rfl el_u8 HO.out rfl HS5.out rfl HA1.out (by omega) (by omega) HB.out.size ?_)
    intro A6 c6 w4_ ho hg hA
    have HB_ := Lib.hid (app_below HB.out HO.out hg)
    have HO_ := Lib.hid ho
    clear ho hg hA HO HS5 HB
    have HB := HB_
    have HO := HO_
    clear HB_ HO_
    go_wp2_with fail
    refine hK _ _ (fun h => by cases h) ?_
    clear hK K
    clear w_
    rename World => w_
    have HSX := Lib.hid (((HSD.out.below HB.out).more HB.out.size))
    refine pl_act rfl (by exact wanted_none rfl) (fun K hK => ?_)
    go_wp2_with fail
    refine (long_any _ _ _ (bs.drop k) _ HSX.out (by omega)).mono ?_
    rintro e w2_ ⟨A7, c7, rfl, ho_, hb_⟩
    have HS7 := Lib.hid (Sl.of_own ho_)
    have HO2 := Lib.hid (own_below HO.out hb_)
    have HB2 := Lib.hid (HB.out.grow' hb_)
    go_wp2_with fail
    refine hK _ _ (fun _ => hb_) ?_
    clear hK K ho_ hb_ HB HO HSX
    clear w_
    rename World => w_
    have HB := HB2
    have HO := HO2
    clear HB2 HO2
    refine pl_act rfl (by exact wanted_none rfl) (fun K hK => ?_)
    show wpList _ _ _ [⟨some _, .call _, _, _, _, _⟩] _ _
    go_wp2_with (at_builtin; refine wpl_apps rfl rfl el_u8 HO.out rfl HS7.out rfl HA2.out (by omega) (by omega) HB.out.size ?_)
    intro A8 c8 w4_ ho hg hA
    have HB_ := Lib.hid (app_below HB.out HO.out hg)
    have HO_ := Lib.hid ho
    clear ho hg hA HO HS7 HB
    have HB := HB_
    have HO := HO_
    clear HB_ HO_
    go_wp2_with fail
    refine hK _ _ (fun h => by cases h) ?_
    clear hK K
    clear w_
    rename World => w_
    repeat (first | (refine pl_calm rfl rfl (by first | exact wanted_none rfl | (go_simp; done) | rfl) (fun w_ => by first | (go_simp; rfl) | (go_simp; done) | rfl) (fun K hK => ?_); go_simp; refine hK _ _ ?_; clear hK K) | (refine pl_skip rfl (by first | (go_simp; done) | rfl) (fun K hK => ?_); go_simp; refine hK _ _ ?_; clear hK K) | (refine pl_skipa rfl (by first | (go_simp; done) | rfl) (fun K hK => ?_); go_simp; refine hK _ _ ?_; clear hK K))
    refine pl_done ?_
    have HF := Lib.hid (show Sl w_ w_.heap.size 1 A8 (1 + (4 + k) + (4 + (n - k))) ((underB m [bs.take k, bs.drop k]).map B) by
      have h := Sl.of_own HO.out
      rw [under2, List.length_take, List.length_drop, HL.out, Nat.min_eq_left hkn]
      simp only [List.map_append, List.map_take, List.map_drop, List.map_cons, List.map_nil, List.append_assoc, List.cons_append, List.nil_append]
      exact h)
    exact HEX.out HB.out HF.out
end Go.Proofs.YtlondennhhffdaaDoor
