/- Region 24 of HeaderRow. Printed by mkhdrs.py. -/
import Derived.Test.YtphmefhnffoafaaDoorHeaderRowB1
import Derived.Test.YtphmefhnffoafaaDoorHeaderFollowsB11
import Derived.Test.YtphmefhnffoafaaDoorHeaderFollowsB17
import Derived.Test.YtphmefhnffoafaaDoorHeaderFollowsB1
set_option linter.unusedSimpArgs false
/- Region 24 of HeaderRow. Printed by mkhdrs.py. -/
namespace Go.Proofs.YtphmefhnffoafaaDoor
open Go.RowKit Go.Shelf
set_option linter.unusedVariables false
noncomputable def hrReg (k : Nat) : Code := (((Tryd.f5.body.map regsOf).getD []).find? (fun e => e.1 == k) |>.map (·.2)).getD .skip
set_option maxRecDepth 100000 in
set_option maxHeartbeats 16000000 in
theorem hr24 {q_0 q_1 q_2 q_3 q_4 q_5 q_6 q_7 q_8 q_9 q_10 q_11 q_14 q_15 q_17 q_18 q_19 q_20 q_21 q_22 q_23 q_24 q_25 q_26 q_27 q_28 q_29 q_30 q_31 q_32 q_33 q_34 q_35 q_36 q_37 q_38 q_39 q_40 q_41 q_42 q_43 q_44 q_45 q_46 q_47 q_48 q_49 q_50 q_51 q_52 q_53 q_54 q_55 q_56 q_57 q_58 q_59 q_60 q_61 q_62 q_63 q_64 q_65 q_66 q_67 q_68 q_69 q_70 q_71 q_72 q_73 q_74 q_75 q_76 q_77 q_78 q_79 q_80 q_81 q_82 q_83 q_84 q_85 q_86 q_87 q_88 q_89 q_90 q_91 q_92 q_93 q_94 q_95 q_96 q_97 q_98 q_99 q_100 q_101 q_102 q_103 q_104 q_105 q_106 q_107 q_108 q_109 q_110 q_111 q_112 q_113 q_114 q_115 q_116 q_117 q_118 q_119 q_120 q_121 q_122 q_123 q_124 q_125 q_126 q_127 q_128 q_129 q_130 q_131 q_132 q_133 q_134 q_135 q_136 q_137 q_138 q_139 q_140 q_141 q_142 q_143 q_144 q_145 q_146 q_147 q_148 q_149 q_150 q_151 q_152 q_153 q_154 q_155 q_156 q_157 q_158 q_159 q_160 q_161 q_162 q_163 q_164 q_165 q_166 q_167 q_168 q_169 q_170 q_171 q_172 q_173 q_174 q_175 q_176 q_177 q_178 : Value} {Q0 : Exit → Act → World → Prop} {w : World} {g16 k n c : Nat} {A : Option Addr} {l : List UInt8} {ls : List (List UInt8)} {pv hv : List Value} (hk : k ≤ 12) (hc : n ≤ c) (hn : n ≤ 1000) (hp : pv = hdrV (rowH ls k)) (hh : hv = hdrV (nextB (rowH ls k) (decide (k = 0)) (lvK l k) 5 (k : Int)))
    (HD : Hid (HV hv)) (HP : Hid (At w g16 25 67 pv)) (HS : Hid (Sl w w.heap.size 1 A n (l.map B))) (HT : Hid (Tabs w))
    (HEX : Hid (∀ {u_125 u_126 u_127 u_128 u_129 u_130 u_131 u_132 u_133 u_134 u_135 u_136 u_137 u_138 : Value} {w' : World} {g17 : Nat}, Below w.heap.size w w' → At w' g17 25 67 hv → Q0 .normal ⟨(q_0 :: q_1 :: q_2 :: q_3 :: q_4 :: q_5 :: q_6 :: q_7 :: q_8 :: q_9 :: q_10 :: q_11 :: (.int .i64 (k : Int)) :: (.slice A n c) :: q_14 :: q_15 :: (.pointer (some ⟨g16, 0, none⟩)) :: (.pointer (some ⟨g17, 0, none⟩)) :: (.bool true) :: q_19 :: q_20 :: q_21 :: q_22 :: q_23 :: q_24 :: q_25 :: q_26 :: q_27 :: q_28 :: q_29 :: q_30 :: q_31 :: q_32 :: q_33 :: q_34 :: q_35 :: q_36 :: q_37 :: q_38 :: q_39 :: q_40 :: q_41 :: q_42 :: q_43 :: q_44 :: q_45 :: q_46 :: q_47 :: q_48 :: q_49 :: q_50 :: q_51 :: q_52 :: q_53 :: q_54 :: q_55 :: q_56 :: q_57 :: q_58 :: q_59 :: q_60 :: q_61 :: q_62 :: q_63 :: q_64 :: q_65 :: q_66 :: q_67 :: q_68 :: q_69 :: q_70 :: q_71 :: q_72 :: q_73 :: q_74 :: q_75 :: q_76 :: q_77 :: q_78 :: q_79 :: q_80 :: q_81 :: q_82 :: q_83 :: q_84 :: q_85 :: q_86 :: q_87 :: q_88 :: q_89 :: q_90 :: q_91 :: q_92 :: q_93 :: q_94 :: q_95 :: q_96 :: q_97 :: q_98 :: q_99 :: q_100 :: q_101 :: q_102 :: q_103 :: q_104 :: q_105 :: q_106 :: q_107 :: q_108 :: q_109 :: q_110 :: q_111 :: q_112 :: q_113 :: q_114 :: q_115 :: q_116 :: q_117 :: q_118 :: q_119 :: q_120 :: q_121 :: q_122 :: q_123 :: q_124 :: u_125 :: u_126 :: u_127 :: u_128 :: u_129 :: u_130 :: u_131 :: u_132 :: u_133 :: u_134 :: u_135 :: u_136 :: u_137 :: u_138 :: q_139 :: q_140 :: q_141 :: q_142 :: q_143 :: q_144 :: q_145 :: q_146 :: q_147 :: q_148 :: q_149 :: q_150 :: q_151 :: q_152 :: q_153 :: q_154 :: q_155 :: q_156 :: q_157 :: q_158 :: q_159 :: q_160 :: q_161 :: q_162 :: q_163 :: q_164 :: q_165 :: q_166 :: q_167 :: q_168 :: q_169 :: q_170 :: q_171 :: q_172 :: q_173 :: q_174 :: q_175 :: q_176 :: q_177 :: q_178 :: []).toArray, []⟩ w')) :
    Code.wp Tryd.prog (hrReg 24) Q0 ⟨(q_0 :: q_1 :: q_2 :: q_3 :: q_4 :: q_5 :: q_6 :: q_7 :: q_8 :: q_9 :: q_10 :: q_11 :: (.int .i64 (k : Int)) :: (.slice A n c) :: q_14 :: q_15 :: (.pointer (some ⟨g16, 0, none⟩)) :: q_17 :: q_18 :: q_19 :: q_20 :: q_21 :: q_22 :: q_23 :: q_24 :: q_25 :: q_26 :: q_27 :: q_28 :: q_29 :: q_30 :: q_31 :: q_32 :: q_33 :: q_34 :: q_35 :: q_36 :: q_37 :: q_38 :: q_39 :: q_40 :: q_41 :: q_42 :: q_43 :: q_44 :: q_45 :: q_46 :: q_47 :: q_48 :: q_49 :: q_50 :: q_51 :: q_52 :: q_53 :: q_54 :: q_55 :: q_56 :: q_57 :: q_58 :: q_59 :: q_60 :: q_61 :: q_62 :: q_63 :: q_64 :: q_65 :: q_66 :: q_67 :: q_68 :: q_69 :: q_70 :: q_71 :: q_72 :: q_73 :: q_74 :: q_75 :: q_76 :: q_77 :: q_78 :: q_79 :: q_80 :: q_81 :: q_82 :: q_83 :: q_84 :: q_85 :: q_86 :: q_87 :: q_88 :: q_89 :: q_90 :: q_91 :: q_92 :: q_93 :: q_94 :: q_95 :: q_96 :: q_97 :: q_98 :: q_99 :: q_100 :: q_101 :: q_102 :: q_103 :: q_104 :: q_105 :: q_106 :: q_107 :: q_108 :: q_109 :: q_110 :: q_111 :: q_112 :: q_113 :: q_114 :: q_115 :: q_116 :: q_117 :: q_118 :: q_119 :: q_120 :: q_121 :: q_122 :: q_123 :: q_124 :: q_125 :: q_126 :: q_127 :: q_128 :: q_129 :: q_130 :: q_131 :: q_132 :: q_133 :: q_134 :: q_135 :: q_136 :: q_137 :: q_138 :: q_139 :: q_140 :: q_141 :: q_142 :: q_143 :: q_144 :: q_145 :: q_146 :: q_147 :: q_148 :: q_149 :: q_150 :: q_151 :: q_152 :: q_153 :: q_154 :: q_155 :: q_156 :: q_157 :: q_158 :: q_159 :: q_160 :: q_161 :: q_162 :: q_163 :: q_164 :: q_165 :: q_166 :: q_167 :: q_168 :: q_169 :: q_170 :: q_171 :: q_172 :: q_173 :: q_174 :: q_175 :: q_176 :: q_177 :: q_178 :: []).toArray, []⟩ w := by
  have HLL := Lib.hid (show l.length = n by have := HS.out.len; simpa using this)
  obtain ⟨ev, hev⟩ : ∃ v, v = entV (entK k) := ⟨_, rfl⟩
  have BE := Lib.hid (built_entK (k := k))
  rw [← hev] at BE
  obtain ⟨fi, hfi⟩ : ∃ f, f = decide (k = 0) := ⟨_, rfl⟩
  have e1 : ((k : Int) == 0) = fi := by rw [hfi, Bool.eq_iff_iff]; simp
  have q1 := u64_keep (k := k) (by omega)
  have RL := Lib.hid (fun w (_ : Unit) (_ : Unit) hs => rleavesK_any (k := k) (bs := l) (A := A) hev (by omega) hc hn w hs)
  have RN := Lib.hid (fun w A c => rnextK_any (ls := ls) (k := k) (l := l) (A := A) (c := c) hp hh hfi (by omega) (by rw [HLL.out]; omega) w)
  clear hev hfi hp hh
  have HB := Lib.hid (Below.refl w.heap.size w)
  conv => arg 2; whnf
  try go_wp2_with fail
  repeat' (first | (with_reducible refine wp_plan (id := 24) Grow [1,0,0,0,0,0,0,0,4,0,3,0,0,0,4,3,0] (.get 0 (.get 1 (.get 2 (.get 3 (.get 4 (.get 5 (.get 6 (.get 7 (.get 9 (.fork 8 (.fork 10 (.get 11 (.get 12 (.get 13 (.act 14 (.act 15 (.get 16 .done)))))) (.act 14 (.act 10 (.get 11 (.get 12 (.get 13 (.act 15 (.get 16 .done)))))))) (.act 14 (.act 8 (.act 10 (.get 11 (.get 12 (.get 13 (.act 15 (.get 16 .done)))))))))))))))))) (by kernel_rfl) (by kernel_rfl) Grow.refl Grow.trans ?_) | go_values | go_skip | go_guarded | go_step | go_upon | go_back)
  intro w_ hd_
  have hb_ := hd_.grow
  have HB_ := Lib.hid (HB.out.grow' hb_)
  clear HB
  have HB := HB_
  clear HB_
  have HP_ := Lib.hid (HP.out.grow hb_)
  clear HP
  have HP := HP_
  clear HP_
  have HS_ := Lib.hid (HS.out.grow hb_)
  clear HS
  have HS := HS_
  clear HS_
  have HT_ := Lib.hid (HT.out.grow hb_)
  clear HT
  have HT := HT_
  clear HT_
  clear hb_ hd_
  iterate 5 (first | (refine pl_calm rfl rfl (by first | exact wanted_none rfl | (go_simp; done) | rfl) (fun w_ => by first | (go_simp; rfl) | (go_simp; done) | rfl) (fun K hK => ?_); go_simp; refine hK _ _ ?_; clear hK K) | (refine pl_skip rfl (by first | (go_simp; done) | rfl) (fun K hK => ?_); go_simp; refine hK _ _ ?_; clear hK K) | (refine pl_skipa rfl (by first | (go_simp; done) | rfl) (fun K hK => ?_); go_simp; refine hK _ _ ?_; clear hK K) | (refine pl_loadb rfl rfl (by first | exact wanted_none rfl | (go_simp; done) | rfl) rfl row_header HP.out.blk (by first | rfl | (go_simp; done) | rfl) HP.out.len (fun K hK => ?_); go_simp; refine hK _ _ ?_; clear hK K) | (refine pl_loadbnow rfl rfl (by first | exact wanted_none rfl | (go_simp; done) | rfl) rfl row_header HP.out.blk (by first | rfl | (go_simp; done) | rfl) HP.out.len (fun K hK => ?_); go_simp; refine hK _ _ ?_; clear hK K))
  refine pl_calm rfl rfl (by exact wanted_none rfl) (fun w_ => by exact exec_build rfl BE.out w_) (fun K hK => ?_)
  go_simp
  refine hK _ _ ?_
  clear hK K
  repeat (first | (refine pl_calm rfl rfl (by first | exact wanted_none rfl | (go_simp; done) | rfl) (fun w_ => by first | (go_simp; rfl) | (go_simp; done) | rfl) (fun K hK => ?_); go_simp; refine hK _ _ ?_; clear hK K) | (refine pl_skip rfl (by first | (go_simp; done) | rfl) (fun K hK => ?_); go_simp; refine hK _ _ ?_; clear hK K) | (refine pl_skipa rfl (by first | (go_simp; done) | rfl) (fun K hK => ?_); go_simp; refine hK _ _ ?_; clear hK K) | (refine pl_loadb rfl rfl (by first | exact wanted_none rfl | (go_simp; done) | rfl) rfl row_header HP.out.blk (by first | rfl | (go_simp; done) | rfl) HP.out.len (fun K hK => ?_); go_simp; refine hK _ _ ?_; clear hK K) | (refine pl_loadbnow rfl rfl (by first | exact wanted_none rfl | (go_simp; done) | rfl) rfl row_header HP.out.blk (by first | rfl | (go_simp; done) | rfl) HP.out.len (fun K hK => ?_); go_simp; refine hK _ _ ?_; clear hK K))
  refine pl_fork rfl (by exact wanted_none rfl) (fun K hK => ?_) ?_
  · skip
    go_wp2_with fail
    refine (RL.out _ () () HS.out).mono ?_
    rintro e w2_ ⟨A2, c2, rfl, hl_, hb_⟩
    have HLS := Lib.hid hl_
    go_wp2_with fail
    refine hK _ _ (fun _ => hb_) ?_
    clear hK K hl_ HS
    have HT_ := Lib.hid (HT.out.grow hb_)
    have HB_ := Lib.hid (HB.out.grow' hb_)
    clear HB HT hb_
    have HT := HT_
    have HB := HB_
    clear HB_ HT_
    try clear w_
    rename World => w_
    clear HP
    refine pl_fork rfl (by exact wanted_none rfl) (fun K hK => ?_) ?_
    · skip
      go_wp2_with fail
      refine (RN.out _ _ _ HLS.out HT.out).mono ?_
      rintro e w2_ ⟨rfl, hb_⟩
      go_wp2_with fail
      refine hK _ _ (fun h => by cases h) ?_
      clear hK K HLS HT
      have HB_ := Lib.hid (HB.out.grow' hb_)
      clear HB  hb_
      have HB := HB_
      clear HB_ 
      try clear w_
      rename World => w_
      repeat (first | (refine pl_calm rfl rfl (by first | exact wanted_none rfl | (go_simp; done) | rfl) (fun w_ => by first | (go_simp; rfl) | (go_simp; done) | rfl) (fun K hK => ?_); go_simp; refine hK _ _ ?_; clear hK K) | (refine pl_skip rfl (by first | (go_simp; done) | rfl) (fun K hK => ?_); go_simp; refine hK _ _ ?_; clear hK K) | (refine pl_skipa rfl (by first | (go_simp; done) | rfl) (fun K hK => ?_); go_simp; refine hK _ _ ?_; clear hK K))
      refine pl_act rfl (by exact wanted_none rfl) (fun K hK => ?_)
      have HG := Lib.hid HB.out.size
      show wpList _ _ _ [⟨some _, .alloc _, _, _, _, _⟩] _ _
      go_wp2_with (first | (with_reducible refine wpl_alloc (o := ⟨some 17, _, _, _, _, _⟩) rfl rfl zero_header ?_))
      intro w2_ hb2_ hb_ hsz2_
      have HX := Lib.hid (at_mk hb2_ len_header)
      have HB_ := Lib.hid (HB.out.grow' hb_)
      generalize hg_ : w_.heap.size = g17 at HX HG ⊢
      go_wp2_with fail
      refine hK _ _ (fun _ => hb_) ?_
      clear hK K hb2_ hsz2_ hb_ HB hg_ 
      have HB := HB_
      clear HB_ 
      try clear w_
      rename World => w_
      repeat (first | (refine pl_calm rfl rfl (by first | exact wanted_none rfl | (go_simp; done) | rfl) (fun w_ => by first | (go_simp; rfl) | (go_simp; done) | rfl) (fun K hK => ?_); go_simp; refine hK _ _ ?_; clear hK K) | (refine pl_skip rfl (by first | (go_simp; done) | rfl) (fun K hK => ?_); go_simp; refine hK _ _ ?_; clear hK K) | (refine pl_skipa rfl (by first | (go_simp; done) | rfl) (fun K hK => ?_); go_simp; refine hK _ _ ?_; clear hK K))
      refine pl_act rfl (by first | exact wanted_none rfl | (go_simp; done) | rfl) (fun K hK => ?_)
      show wpList _ _ _ [⟨none, .store _ _ _, _, _, _, _⟩] _ _
      go_wp2_with (first | (with_reducible refine wpl_storeb (o := ⟨none, .store _ _ _, _, _, _, _⟩) rfl rfl row_header HX.out.blk rfl rfl HX.out.len HD.out.len HD.out.one ?_))
      intro w2_ hb2_ hg2_ hsz2_
      have HB_ := Lib.hid (put_below HB.out HG.out hg2_)
      have HX_ := Lib.hid (at_mk hb2_ HD.out.len)
      clear hb2_ hg2_ hsz2_ HB HX
      have HB := HB_
      have HX := HX_
      clear HB_ HX_
      try clear w_
      rename World => w_
      go_wp2_with fail
      refine hK _ _ (fun h => by cases h) ?_
      clear hK K
      repeat (first | (refine pl_calm rfl rfl (by first | exact wanted_none rfl | (go_simp; done) | rfl) (fun w_ => by first | (go_simp; rfl) | (go_simp; done) | rfl) (fun K hK => ?_); go_simp; refine hK _ _ ?_; clear hK K) | (refine pl_skip rfl (by first | (go_simp; done) | rfl) (fun K hK => ?_); go_simp; refine hK _ _ ?_; clear hK K) | (refine pl_skipa rfl (by first | (go_simp; done) | rfl) (fun K hK => ?_); go_simp; refine hK _ _ ?_; clear hK K))
      refine pl_done ?_
      exact HEX.out HB.out HX.out
    · skip
      refine pl_act rfl (by exact wanted_none rfl) (fun K hK => ?_)
      have HG := Lib.hid HB.out.size
      show wpList _ _ _ [⟨some _, .alloc _, _, _, _, _⟩] _ _
      go_wp2_with (first | (with_reducible refine wpl_alloc (o := ⟨some 17, _, _, _, _, _⟩) rfl rfl zero_header ?_))
      intro w2_ hb2_ hb_ hsz2_
      have HX := Lib.hid (at_mk hb2_ len_header)
      have HT_ := Lib.hid (HT.out.grow hb_)
      have HLS_ := Lib.hid (HLS.out.grow hb_)
      have HB_ := Lib.hid (HB.out.grow' hb_)
      generalize hg_ : w_.heap.size = g17 at HX HG ⊢
      go_wp2_with fail
      refine hK _ _ (fun _ => hb_) ?_
      clear hK K hb2_ hsz2_ hb_ HB hg_ HT HLS
      have HT := HT_
      have HLS := HLS_
      have HB := HB_
      clear HB_ HT_ HLS_
      try clear w_
      rename World => w_
      refine pl_act rfl (by exact wanted_none rfl) (fun K hK => ?_)
      go_wp2_with fail
      refine (RN.out _ _ _ HLS.out HT.out).mono ?_
      rintro e w2_ ⟨rfl, hb_⟩
      go_wp2_with fail
      refine hK _ _ (fun h => by cases h) ?_
      clear hK K HLS HT
      have HX_ := Lib.hid (HX.out.grow hb_)
      have HB_ := Lib.hid (HB.out.grow' hb_)
      clear HB HX hb_
      have HX := HX_
      have HB := HB_
      clear HB_ HX_
      try clear w_
      rename World => w_
      repeat (first | (refine pl_calm rfl rfl (by first | exact wanted_none rfl | (go_simp; done) | rfl) (fun w_ => by first | (go_simp; rfl) | (go_simp; done) | rfl) (fun K hK => ?_); go_simp; refine hK _ _ ?_; clear hK K) | (refine pl_skip rfl (by first | (go_simp; done) | rfl) (fun K hK => ?_); go_simp; refine hK _ _ ?_; clear hK K) | (refine pl_skipa rfl (by first | (go_simp; done) | rfl) (fun K hK => ?_); go_simp; refine hK _ _ ?_; clear hK K))
      refine pl_act rfl (by first | exact wanted_none rfl | (go_simp; done) | rfl) (fun K hK => ?_)
      show wpList _ _ _ [⟨none, .store _ _ _, _, _, _, _⟩] _ _
      go_wp2_with (first | (with_reducible refine wpl_storeb (o := ⟨none, .store _ _ _, _, _, _, _⟩) rfl rfl row_header HX.out.blk rfl rfl HX.out.len HD.out.len HD.out.one ?_))
      intro w2_ hb2_ hg2_ hsz2_
      have HB_ := Lib.hid (put_below HB.out HG.out hg2_)
      have HX_ := Lib.hid (at_mk hb2_ HD.out.len)
      clear hb2_ hg2_ hsz2_ HB HX
      have HB := HB_
      have HX := HX_
      clear HB_ HX_
      try clear w_
      rename World => w_
      go_wp2_with fail
      refine hK _ _ (fun h => by cases h) ?_
      clear hK K
      repeat (first | (refine pl_calm rfl rfl (by first | exact wanted_none rfl | (go_simp; done) | rfl) (fun w_ => by first | (go_simp; rfl) | (go_simp; done) | rfl) (fun K hK => ?_); go_simp; refine hK _ _ ?_; clear hK K) | (refine pl_skip rfl (by first | (go_simp; done) | rfl) (fun K hK => ?_); go_simp; refine hK _ _ ?_; clear hK K) | (refine pl_skipa rfl (by first | (go_simp; done) | rfl) (fun K hK => ?_); go_simp; refine hK _ _ ?_; clear hK K))
      refine pl_done ?_
      exact HEX.out HB.out HX.out
  · skip
    refine pl_act rfl (by exact wanted_none rfl) (fun K hK => ?_)
    clear HP
    have HG := Lib.hid HB.out.size
    show wpList _ _ _ [⟨some _, .alloc _, _, _, _, _⟩] _ _
    go_wp2_with (first | (with_reducible refine wpl_alloc (o := ⟨some 17, _, _, _, _, _⟩) rfl rfl zero_header ?_))
    intro w2_ hb2_ hb_ hsz2_
    have HX := Lib.hid (at_mk hb2_ len_header)
    have HT_ := Lib.hid (HT.out.grow hb_)
    have HS_ := Lib.hid (HS.out.grow hb_)
    have HB_ := Lib.hid (HB.out.grow' hb_)
    generalize hg_ : w_.heap.size = g17 at HX HG ⊢
    go_wp2_with fail
    refine hK _ _ (fun _ => hb_) ?_
    clear hK K hb2_ hsz2_ hb_ HB hg_ HT HS
    have HT := HT_
    have HS := HS_
    have HB := HB_
    clear HB_ HT_ HS_
    try clear w_
    rename World => w_
    refine pl_act rfl (by exact wanted_none rfl) (fun K hK => ?_)
    go_wp2_with fail
    refine (RL.out _ () () HS.out).mono ?_
    rintro e w2_ ⟨A2, c2, rfl, hl_, hb_⟩
    have HLS := Lib.hid hl_
    go_wp2_with fail
    refine hK _ _ (fun _ => hb_) ?_
    clear hK K hl_ HS
    have HT_ := Lib.hid (HT.out.grow hb_)
    have HX_ := Lib.hid (HX.out.grow hb_)
    have HB_ := Lib.hid (HB.out.grow' hb_)
    clear HB HT HX hb_
    have HT := HT_
    have HX := HX_
    have HB := HB_
    clear HB_ HT_ HX_
    try clear w_
    rename World => w_
    refine pl_act rfl (by exact wanted_none rfl) (fun K hK => ?_)
    go_wp2_with fail
    refine (RN.out _ _ _ HLS.out HT.out).mono ?_
    rintro e w2_ ⟨rfl, hb_⟩
    go_wp2_with fail
    refine hK _ _ (fun h => by cases h) ?_
    clear hK K HLS HT
    have HX_ := Lib.hid (HX.out.grow hb_)
    have HB_ := Lib.hid (HB.out.grow' hb_)
    clear HB HX hb_
    have HX := HX_
    have HB := HB_
    clear HB_ HX_
    try clear w_
    rename World => w_
    repeat (first | (refine pl_calm rfl rfl (by first | exact wanted_none rfl | (go_simp; done) | rfl) (fun w_ => by first | (go_simp; rfl) | (go_simp; done) | rfl) (fun K hK => ?_); go_simp; refine hK _ _ ?_; clear hK K) | (refine pl_skip rfl (by first | (go_simp; done) | rfl) (fun K hK => ?_); go_simp; refine hK _ _ ?_; clear hK K) | (refine pl_skipa rfl (by first | (go_simp; done) | rfl) (fun K hK => ?_); go_simp; refine hK _ _ ?_; clear hK K))
    refine pl_act rfl (by first | exact wanted_none rfl | (go_simp; done) | rfl) (fun K hK => ?_)
    show wpList _ _ _ [⟨none, .store _ _ _, _, _, _, _⟩] _ _
    go_wp2_with (first | (with_reducible refine wpl_storeb (o := ⟨none, .store _ _ _, _, _, _, _⟩) rfl rfl row_header HX.out.blk rfl rfl HX.out.len HD.out.len HD.out.one ?_))
    intro w2_ hb2_ hg2_ hsz2_
    have HB_ := Lib.hid (put_below HB.out HG.out hg2_)
    have HX_ := Lib.hid (at_mk hb2_ HD.out.len)
    clear hb2_ hg2_ hsz2_ HB HX
    have HB := HB_
    have HX := HX_
    clear HB_ HX_
    try clear w_
    rename World => w_
    go_wp2_with fail
    refine hK _ _ (fun h => by cases h) ?_
    clear hK K
    repeat (first | (refine pl_calm rfl rfl (by first | exact wanted_none rfl | (go_simp; done) | rfl) (fun w_ => by first | (go_simp; rfl) | (go_simp; done) | rfl) (fun K hK => ?_); go_simp; refine hK _ _ ?_; clear hK K) | (refine pl_skip rfl (by first | (go_simp; done) | rfl) (fun K hK => ?_); go_simp; refine hK _ _ ?_; clear hK K) | (refine pl_skipa rfl (by first | (go_simp; done) | rfl) (fun K hK => ?_); go_simp; refine hK _ _ ?_; clear hK K))
    refine pl_done ?_
    exact HEX.out HB.out HX.out
end Go.Proofs.YtphmefhnffoafaaDoor

/- Regions 25 and 28 of HeaderRow. -/
namespace Go.Proofs.YtphmefhnffoafaaDoor
open Go.RowKit Go.Shelf
set_option linter.unusedVariables false
set_option maxRecDepth 100000 in
set_option maxHeartbeats 16000000 in
theorem hr25 {q_0 q_1 q_2 q_3 q_4 q_6 q_7 q_8 q_9 q_10 q_11 q_13 q_14 q_15 q_16 q_18 q_19 q_20 q_21 q_22 q_23 q_24 q_25 q_26 q_27 q_28 q_29 q_30 q_31 q_32 q_33 q_34 q_35 q_36 q_37 q_38 q_39 q_40 q_41 q_42 q_43 q_44 q_45 q_46 q_47 q_48 q_49 q_50 q_51 q_52 q_53 q_54 q_55 q_56 q_57 q_58 q_59 q_60 q_61 q_62 q_63 q_64 q_65 q_66 q_67 q_68 q_69 q_70 q_71 q_72 q_73 q_74 q_75 q_76 q_77 q_78 q_79 q_80 q_81 q_82 q_83 q_84 q_85 q_86 q_87 q_88 q_89 q_90 q_91 q_92 q_93 q_94 q_95 q_96 q_97 q_98 q_99 q_100 q_101 q_102 q_103 q_104 q_105 q_106 q_107 q_108 q_109 q_110 q_111 q_112 q_113 q_114 q_115 q_116 q_117 q_118 q_119 q_120 q_121 q_122 q_123 q_124 q_125 q_126 q_127 q_128 q_129 q_130 q_131 q_132 q_133 q_134 q_135 q_136 q_137 q_138 q_139 q_140 q_141 q_142 q_143 q_144 q_145 q_146 q_147 q_148 q_149 q_150 q_151 q_152 q_153 q_154 q_155 q_156 q_157 q_158 q_159 q_160 q_161 q_162 q_163 q_164 q_165 q_166 q_167 q_168 q_169 q_170 q_171 q_172 q_173 q_174 q_175 q_176 q_177 q_178 : Value} {Q0 : Exit → Act → World → Prop} {w : World} {base gr n c9 m g17 : Nat} {ls : List (List UInt8)} {ov rv zo zr : List Value} {dd : Bool} (hm : m < n) (hn : n ≤ 12)
    (HRV : Hid (rv = hdrV (rowH ls (m + 1)))) (LR1 : Hid (rv.length = 67)) (HO : Hid (OwnH w base (some ⟨gr, 0, none⟩) n c9 (hdrsV (rowUp ls n)))) (HX17 : Hid (At w g17 25 67 ov))
    (IDO : Hid (∀ w, Calls Tryd.prog 23 #[.agg ov.toArray] w fun e w' => e = .returned (.agg zo.toArray) ∧ Below w.heap.size w w')) (IDR : Hid (∀ w, Calls Tryd.prog 23 #[.agg rv.toArray] w fun e w' => e = .returned (.agg zr.toArray) ∧ Below w.heap.size w w'))
    (q2 : ∀ w, (binOp .eql 23 (.agg zo.toArray) (.agg zr.toArray)).run Tryd.prog w = .ok (.bool dd) w)
    (HEX : Hid (∀ {u_139 u_140 u_141 u_142 u_143 u_144 u_145 : Value} {w' : World}, Below w.heap.size w w' → Q0 .normal ⟨(q_0 :: q_1 :: q_2 :: q_3 :: q_4 :: (.slice (some ⟨gr, 0, none⟩) n c9) :: q_6 :: q_7 :: q_8 :: q_9 :: q_10 :: q_11 :: (.int .i64 (m : Int)) :: q_13 :: q_14 :: q_15 :: q_16 :: (.pointer (some ⟨g17, 0, none⟩)) :: q_18 :: q_19 :: q_20 :: q_21 :: q_22 :: q_23 :: q_24 :: q_25 :: q_26 :: q_27 :: q_28 :: q_29 :: q_30 :: q_31 :: q_32 :: q_33 :: q_34 :: q_35 :: q_36 :: q_37 :: q_38 :: q_39 :: q_40 :: q_41 :: q_42 :: q_43 :: q_44 :: q_45 :: q_46 :: q_47 :: q_48 :: q_49 :: q_50 :: q_51 :: q_52 :: q_53 :: q_54 :: q_55 :: q_56 :: q_57 :: q_58 :: q_59 :: q_60 :: q_61 :: q_62 :: q_63 :: q_64 :: q_65 :: q_66 :: q_67 :: q_68 :: q_69 :: q_70 :: q_71 :: q_72 :: q_73 :: q_74 :: q_75 :: q_76 :: q_77 :: q_78 :: q_79 :: q_80 :: q_81 :: q_82 :: q_83 :: q_84 :: q_85 :: q_86 :: q_87 :: q_88 :: q_89 :: q_90 :: q_91 :: q_92 :: q_93 :: q_94 :: q_95 :: q_96 :: q_97 :: q_98 :: q_99 :: q_100 :: q_101 :: q_102 :: q_103 :: q_104 :: q_105 :: q_106 :: q_107 :: q_108 :: q_109 :: q_110 :: q_111 :: q_112 :: q_113 :: q_114 :: q_115 :: q_116 :: q_117 :: q_118 :: q_119 :: q_120 :: q_121 :: q_122 :: q_123 :: q_124 :: q_125 :: q_126 :: q_127 :: q_128 :: q_129 :: q_130 :: q_131 :: q_132 :: q_133 :: q_134 :: q_135 :: q_136 :: q_137 :: q_138 :: u_139 :: u_140 :: u_141 :: u_142 :: u_143 :: u_144 :: u_145 :: (.bool dd) :: q_147 :: q_148 :: q_149 :: q_150 :: q_151 :: q_152 :: q_153 :: q_154 :: q_155 :: q_156 :: q_157 :: q_158 :: q_159 :: q_160 :: q_161 :: q_162 :: q_163 :: q_164 :: q_165 :: q_166 :: q_167 :: q_168 :: q_169 :: q_170 :: q_171 :: q_172 :: q_173 :: q_174 :: q_175 :: q_176 :: q_177 :: q_178 :: []).toArray, []⟩ w')) :
    Code.wp Tryd.prog (hrReg 25) Q0 ⟨(q_0 :: q_1 :: q_2 :: q_3 :: q_4 :: (.slice (some ⟨gr, 0, none⟩) n c9) :: q_6 :: q_7 :: q_8 :: q_9 :: q_10 :: q_11 :: (.int .i64 (m : Int)) :: q_13 :: q_14 :: q_15 :: q_16 :: (.pointer (some ⟨g17, 0, none⟩)) :: q_18 :: q_19 :: q_20 :: q_21 :: q_22 :: q_23 :: q_24 :: q_25 :: q_26 :: q_27 :: q_28 :: q_29 :: q_30 :: q_31 :: q_32 :: q_33 :: q_34 :: q_35 :: q_36 :: q_37 :: q_38 :: q_39 :: q_40 :: q_41 :: q_42 :: q_43 :: q_44 :: q_45 :: q_46 :: q_47 :: q_48 :: q_49 :: q_50 :: q_51 :: q_52 :: q_53 :: q_54 :: q_55 :: q_56 :: q_57 :: q_58 :: q_59 :: q_60 :: q_61 :: q_62 :: q_63 :: q_64 :: q_65 :: q_66 :: q_67 :: q_68 :: q_69 :: q_70 :: q_71 :: q_72 :: q_73 :: q_74 :: q_75 :: q_76 :: q_77 :: q_78 :: q_79 :: q_80 :: q_81 :: q_82 :: q_83 :: q_84 :: q_85 :: q_86 :: q_87 :: q_88 :: q_89 :: q_90 :: q_91 :: q_92 :: q_93 :: q_94 :: q_95 :: q_96 :: q_97 :: q_98 :: q_99 :: q_100 :: q_101 :: q_102 :: q_103 :: q_104 :: q_105 :: q_106 :: q_107 :: q_108 :: q_109 :: q_110 :: q_111 :: q_112 :: q_113 :: q_114 :: q_115 :: q_116 :: q_117 :: q_118 :: q_119 :: q_120 :: q_121 :: q_122 :: q_123 :: q_124 :: q_125 :: q_126 :: q_127 :: q_128 :: q_129 :: q_130 :: q_131 :: q_132 :: q_133 :: q_134 :: q_135 :: q_136 :: q_137 :: q_138 :: q_139 :: q_140 :: q_141 :: q_142 :: q_143 :: q_144 :: q_145 :: q_146 :: q_147 :: q_148 :: q_149 :: q_150 :: q_151 :: q_152 :: q_153 :: q_154 :: q_155 :: q_156 :: q_157 :: q_158 :: q_159 :: q_160 :: q_161 :: q_162 :: q_163 :: q_164 :: q_165 :: q_166 :: q_167 :: q_168 :: q_169 :: q_170 :: q_171 :: q_172 :: q_173 :: q_174 :: q_175 :: q_176 :: q_177 :: q_178 :: []).toArray, []⟩ w := by
  have HB := Lib.hid (Below.refl w.heap.size w)
  conv => arg 2; whnf
  try go_wp2_with fail
  repeat' (first | (with_reducible refine wp_flow (id := 25) [0,1,0,0,12,28,63,127] [0,3,0,0,0,0,3,0] (fun i => match i with | 1 => spV (.agg zo.toArray) | 6 => spV (.agg zr.toArray) | _ => spV undef) (by kernel_rfl) (by kernel_rfl) ?_) | go_values | go_skip | go_guarded | go_step | go_upon | go_back)
  intro w_ hd_
  have hb_ := hd_.grow
  have HB_ := Lib.hid (HB.out.grow' hb_)
  clear HB
  have HB := HB_
  clear HB_
  have HO_ := Lib.hid (HO.out.grow hb_)
  clear HO
  have HO := HO_
  clear HO_
  have HX17_ := Lib.hid (HX17.out.grow hb_)
  clear HX17
  have HX17 := HX17_
  clear HX17_
  clear hb_ hd_
  show wpL _ _ _ _ _ _ _ [0,1,2,3,4,5,6,7] _ _
  have HM1 := Lib.hid (HO.out.mid hm)
  rw [← HRV.out] at HM1
  repeat (first | (refine fl_loadb rfl (by decide) (by first | exact wanted_none rfl | (go_simp; done) | fail) rfl row_header HX17.out.blk (by first | rfl | (go_simp; done) | rfl) HX17.out.len (fun K hK => ?_); go_simp; refine hK _ ?_; clear hK K) | (refine fl_skip rfl (by first | (go_simp; done) | fail) (fun K hK => ?_); go_simp; refine hK _ ?_; clear hK K) | (refine fl_calm rfl (by decide) (by first | exact wanted_none rfl | (go_simp; done) | fail) (fun w_ _ _ => by first | (go_simp; rfl) | (go_simp; done) | rfl) (fun K hK => ?_); go_simp; refine hK _ ?_; clear hK K))
  refine fl_callv rfl (by kernel_rfl) rfl (by first | exact wanted_none rfl | (go_simp; done) | fail) (fun w_ => by first | (go_simp; exact ⟨rfl, rfl⟩) | (go_simp; rfl) | (go_simp; exact ⟨⟨rfl, rfl, rfl⟩, rfl⟩)) (fun w2_ hg_ hL_ => ?_) (fun K hK => ?_)
  · skip
    exact IDO.out _
  go_simp
  refine hK _ ?_
  clear hK K
  repeat (first | (refine fl_loadb rfl (by decide) (by first | exact wanted_none rfl | (go_simp; done) | fail) rfl row_header HX17.out.blk (by first | rfl | (go_simp; done) | rfl) HX17.out.len (fun K hK => ?_); go_simp; refine hK _ ?_; clear hK K) | (refine fl_skip rfl (by first | (go_simp; done) | fail) (fun K hK => ?_); go_simp; refine hK _ ?_; clear hK K) | (refine fl_calm rfl (by decide) (by first | exact wanted_none rfl | (go_simp; done) | fail) (fun w_ _ _ => by first | (go_simp; rfl) | (go_simp; done) | rfl) (fun K hK => ?_); go_simp; refine hK _ ?_; clear hK K))
  refine fl_loadm rfl (by decide) (by first | exact wanted_none rfl | (go_simp; done) | fail) rfl row_header HM1.out (by first | rfl | (go_simp; done) | rfl) LR1.out (fun K hK => ?_)
  go_simp
  refine hK _ ?_
  clear hK K
  repeat (first | (refine fl_loadb rfl (by decide) (by first | exact wanted_none rfl | (go_simp; done) | fail) rfl row_header HX17.out.blk (by first | rfl | (go_simp; done) | rfl) HX17.out.len (fun K hK => ?_); go_simp; refine hK _ ?_; clear hK K) | (refine fl_skip rfl (by first | (go_simp; done) | fail) (fun K hK => ?_); go_simp; refine hK _ ?_; clear hK K) | (refine fl_calm rfl (by decide) (by first | exact wanted_none rfl | (go_simp; done) | fail) (fun w_ _ _ => by first | (go_simp; rfl) | (go_simp; done) | rfl) (fun K hK => ?_); go_simp; refine hK _ ?_; clear hK K))
  refine fl_callv rfl (by kernel_rfl) rfl (by first | exact wanted_none rfl | (go_simp; done) | fail) (fun w_ => by first | (go_simp; exact ⟨rfl, rfl⟩) | (go_simp; rfl) | (go_simp; exact ⟨⟨rfl, rfl, rfl⟩, rfl⟩)) (fun w2_ hg_ hL_ => ?_) (fun K hK => ?_)
  · skip
    exact IDR.out _
  go_simp
  refine hK _ ?_
  clear hK K
  repeat (first | (refine fl_loadb rfl (by decide) (by first | exact wanted_none rfl | (go_simp; done) | fail) rfl row_header HX17.out.blk (by first | rfl | (go_simp; done) | rfl) HX17.out.len (fun K hK => ?_); go_simp; refine hK _ ?_; clear hK K) | (refine fl_skip rfl (by first | (go_simp; done) | fail) (fun K hK => ?_); go_simp; refine hK _ ?_; clear hK K) | (refine fl_calm rfl (by decide) (by first | exact wanted_none rfl | (go_simp; done) | fail) (fun w_ _ _ => by first | (go_simp; rfl) | (go_simp; done) | rfl) (fun K hK => ?_); go_simp; refine hK _ ?_; clear hK K))
  refine fl_done ?_
  intro w2_ hg_ hL_
  replace HB := Lib.hid (HB.out.grow' hg_)
  clear hg_ hL_
  try clear w_
  rename World => w_
  exact HEX.out HB.out
set_option maxRecDepth 100000 in
set_option maxHeartbeats 16000000 in
theorem hr28 {q_0 q_1 q_2 q_3 q_4 q_6 q_7 q_8 q_9 q_10 q_11 q_13 q_14 q_15 q_16 q_17 q_18 q_21 q_22 q_23 q_24 q_25 q_26 q_27 q_28 q_29 q_30 q_31 q_32 q_33 q_34 q_35 q_36 q_37 q_38 q_39 q_40 q_41 q_42 q_43 q_44 q_45 q_46 q_47 q_48 q_49 q_50 q_51 q_52 q_53 q_54 q_55 q_56 q_57 q_58 q_59 q_60 q_61 q_62 q_63 q_64 q_65 q_66 q_67 q_68 q_69 q_70 q_71 q_72 q_73 q_74 q_75 q_76 q_77 q_78 q_79 q_80 q_81 q_82 q_83 q_84 q_85 q_86 q_87 q_88 q_89 q_90 q_91 q_92 q_93 q_94 q_95 q_96 q_97 q_98 q_99 q_100 q_101 q_102 q_103 q_104 q_105 q_106 q_107 q_108 q_109 q_110 q_111 q_112 q_113 q_114 q_115 q_116 q_117 q_118 q_119 q_120 q_121 q_122 q_123 q_124 q_125 q_126 q_127 q_128 q_129 q_130 q_131 q_132 q_133 q_134 q_135 q_136 q_137 q_138 q_139 q_140 q_141 q_142 q_143 q_144 q_145 q_146 q_147 q_148 q_149 q_150 q_151 q_152 q_153 q_154 q_155 q_156 q_157 q_158 q_159 q_160 q_161 q_162 q_163 q_164 q_165 q_166 q_167 q_168 q_169 q_170 q_171 q_172 q_173 q_174 q_175 q_176 q_177 q_178 : Value} {Q0 : Exit → Act → World → Prop} {w : World} {base gr n c9 m m1 g19 : Nat} {ls : List (List UInt8)} {ov rv rw2 : List Value} (hm : m < n) (hn : n ≤ 12) (hm1 : m1 < n)
    (v1 : IntKind.i64.wrap ((m : Int) + 1) = (m1 : Int)) (v2 : RowKit.wrap64 ((m : Int) + 1) = (m1 : Int))
    (HRV : Hid (rv = hdrV (rowH ls (m + 1)))) (HRW : Hid (rw2 = hdrV (rowH ls (m1 + 1)))) (LR1 : Hid (rv.length = 67)) (LR2 : Hid (rw2.length = 67)) (HO : Hid (OwnH w base (some ⟨gr, 0, none⟩) n c9 (hdrsV (rowUp ls n)))) (HW : Hid (At w g19 25 67 ov)) (HT : Hid (Tabs w))
    (hq : ∀ w, (Op.equalIn 10000 25 (.agg ov.toArray) (.agg rv.toArray)).run Tryd.prog w = .ok false w)
    (HFOF : Hid (∀ w, Tabs w → Calls Tryd.prog 21 #[.agg ov.toArray, .agg rw2.toArray] w fun e w' => e = .returned (.bool false) ∧ Below w.heap.size w w'))
    (HEX : Hid (∀ {u_157 u_158 u_159 u_160 u_161 u_162 u_163 u_164 u_165 u_166 u_167 u_168 u_169 u_170 u_171 u_172 u_173 u_174 u_175 u_176 u_177 u_178 : Value} {w' : World}, Below w.heap.size w w' → Q0 .normal ⟨(q_0 :: q_1 :: q_2 :: q_3 :: (.bool true) :: (.slice (some ⟨gr, 0, none⟩) n c9) :: q_6 :: q_7 :: q_8 :: q_9 :: q_10 :: q_11 :: (.int .i64 (m : Int)) :: q_13 :: q_14 :: q_15 :: q_16 :: q_17 :: q_18 :: (.pointer (some ⟨g19, 0, none⟩)) :: (.bool true) :: q_21 :: q_22 :: q_23 :: q_24 :: q_25 :: q_26 :: q_27 :: q_28 :: q_29 :: q_30 :: q_31 :: q_32 :: q_33 :: q_34 :: q_35 :: q_36 :: q_37 :: q_38 :: q_39 :: q_40 :: q_41 :: q_42 :: q_43 :: q_44 :: q_45 :: q_46 :: q_47 :: q_48 :: q_49 :: q_50 :: q_51 :: q_52 :: q_53 :: q_54 :: q_55 :: q_56 :: q_57 :: q_58 :: q_59 :: q_60 :: q_61 :: q_62 :: q_63 :: q_64 :: q_65 :: q_66 :: q_67 :: q_68 :: q_69 :: q_70 :: q_71 :: q_72 :: q_73 :: q_74 :: q_75 :: q_76 :: q_77 :: q_78 :: q_79 :: q_80 :: q_81 :: q_82 :: q_83 :: q_84 :: q_85 :: q_86 :: q_87 :: q_88 :: q_89 :: q_90 :: q_91 :: q_92 :: q_93 :: q_94 :: q_95 :: q_96 :: q_97 :: q_98 :: q_99 :: q_100 :: q_101 :: q_102 :: q_103 :: q_104 :: q_105 :: q_106 :: q_107 :: q_108 :: q_109 :: q_110 :: q_111 :: q_112 :: q_113 :: q_114 :: q_115 :: q_116 :: q_117 :: q_118 :: q_119 :: q_120 :: q_121 :: q_122 :: q_123 :: q_124 :: q_125 :: q_126 :: q_127 :: q_128 :: q_129 :: q_130 :: q_131 :: q_132 :: q_133 :: q_134 :: q_135 :: q_136 :: q_137 :: q_138 :: q_139 :: q_140 :: q_141 :: q_142 :: q_143 :: q_144 :: q_145 :: q_146 :: q_147 :: q_148 :: q_149 :: q_150 :: q_151 :: q_152 :: q_153 :: q_154 :: q_155 :: q_156 :: u_157 :: u_158 :: u_159 :: u_160 :: u_161 :: u_162 :: u_163 :: u_164 :: u_165 :: u_166 :: u_167 :: u_168 :: u_169 :: u_170 :: u_171 :: u_172 :: u_173 :: u_174 :: u_175 :: u_176 :: u_177 :: u_178 :: []).toArray, []⟩ w')) :
    Code.wp Tryd.prog (hrReg 28) Q0 ⟨(q_0 :: q_1 :: q_2 :: q_3 :: q_4 :: (.slice (some ⟨gr, 0, none⟩) n c9) :: q_6 :: q_7 :: q_8 :: q_9 :: q_10 :: q_11 :: (.int .i64 (m : Int)) :: q_13 :: q_14 :: q_15 :: q_16 :: q_17 :: q_18 :: (.pointer (some ⟨g19, 0, none⟩)) :: (.bool true) :: q_21 :: q_22 :: q_23 :: q_24 :: q_25 :: q_26 :: q_27 :: q_28 :: q_29 :: q_30 :: q_31 :: q_32 :: q_33 :: q_34 :: q_35 :: q_36 :: q_37 :: q_38 :: q_39 :: q_40 :: q_41 :: q_42 :: q_43 :: q_44 :: q_45 :: q_46 :: q_47 :: q_48 :: q_49 :: q_50 :: q_51 :: q_52 :: q_53 :: q_54 :: q_55 :: q_56 :: q_57 :: q_58 :: q_59 :: q_60 :: q_61 :: q_62 :: q_63 :: q_64 :: q_65 :: q_66 :: q_67 :: q_68 :: q_69 :: q_70 :: q_71 :: q_72 :: q_73 :: q_74 :: q_75 :: q_76 :: q_77 :: q_78 :: q_79 :: q_80 :: q_81 :: q_82 :: q_83 :: q_84 :: q_85 :: q_86 :: q_87 :: q_88 :: q_89 :: q_90 :: q_91 :: q_92 :: q_93 :: q_94 :: q_95 :: q_96 :: q_97 :: q_98 :: q_99 :: q_100 :: q_101 :: q_102 :: q_103 :: q_104 :: q_105 :: q_106 :: q_107 :: q_108 :: q_109 :: q_110 :: q_111 :: q_112 :: q_113 :: q_114 :: q_115 :: q_116 :: q_117 :: q_118 :: q_119 :: q_120 :: q_121 :: q_122 :: q_123 :: q_124 :: q_125 :: q_126 :: q_127 :: q_128 :: q_129 :: q_130 :: q_131 :: q_132 :: q_133 :: q_134 :: q_135 :: q_136 :: q_137 :: q_138 :: q_139 :: q_140 :: q_141 :: q_142 :: q_143 :: q_144 :: q_145 :: q_146 :: q_147 :: q_148 :: q_149 :: q_150 :: q_151 :: q_152 :: q_153 :: q_154 :: q_155 :: q_156 :: q_157 :: q_158 :: q_159 :: q_160 :: q_161 :: q_162 :: q_163 :: q_164 :: q_165 :: q_166 :: q_167 :: q_168 :: q_169 :: q_170 :: q_171 :: q_172 :: q_173 :: q_174 :: q_175 :: q_176 :: q_177 :: q_178 :: []).toArray, []⟩ w := by
  have HB := Lib.hid (Below.refl w.heap.size w)
  conv => arg 2; whnf
  try go_wp2_with fail
  repeat' (first | (with_reducible refine wp_flow (id := 28) [0,1,3,3,3,27,59,127,255,511,1023,1023,1023,5119,15359,31743,65535,131071,262143,524287,1048575,2097151,4194303] [0,0,0,0,0,0,0,0,0,0,0,0,0,0,0,0,3,0,0,0,3,0,0] (fun i => match i with | 16 => spV (.bool false) | 20 => spV (.bool true) | _ => spV undef) (by kernel_rfl) (by kernel_rfl) ?_) | go_values | go_skip | go_guarded | go_step | go_upon | go_back)
  intro w_ hd_
  have hb_ := hd_.grow
  have HB_ := Lib.hid (HB.out.grow' hb_)
  clear HB
  have HB := HB_
  clear HB_
  have HO_ := Lib.hid (HO.out.grow hb_)
  clear HO
  have HO := HO_
  clear HO_
  have HW_ := Lib.hid (HW.out.grow hb_)
  clear HW
  have HW := HW_
  clear HW_
  have HT_ := Lib.hid (HT.out.grow hb_)
  clear HT
  have HT := HT_
  clear HT_
  clear hb_ hd_
  show wpL _ _ _ _ _ _ _ [0,1,2,3,4,5,6,7,8,9,10,11,12,13,14,15,16,17,18,19,20,21,22] _ _
  have HM1 := Lib.hid (HO.out.mid hm)
  rw [← HRV.out] at HM1
  have HM2 := Lib.hid (HO.out.mid hm1)
  rw [← HRW.out] at HM2
  repeat (first | (refine fl_loadb rfl (by decide) (by first | exact wanted_none rfl | (go_simp; done) | fail) rfl row_header HW.out.blk (by first | rfl | (go_simp; done) | rfl) HW.out.len (fun K hK => ?_); go_simp; refine hK _ ?_; clear hK K) | (refine fl_skip rfl (by first | (go_simp; done) | fail) (fun K hK => ?_); go_simp; refine hK _ ?_; clear hK K) | (refine fl_calm rfl (by decide) (by first | exact wanted_none rfl | (go_simp; done) | fail) (fun w_ _ _ => by first | (go_simp; rfl) | (go_simp; done) | rfl) (fun K hK => ?_); go_simp; refine hK _ ?_; clear hK K))
  refine fl_loadm rfl (by decide) (by first | exact wanted_none rfl | (go_simp; done) | fail) rfl row_header HM1.out (by first | rfl | (go_simp; done) | rfl) LR1.out (fun K hK => ?_)
  go_simp
  refine hK _ ?_
  clear hK K
  repeat (first | (refine fl_loadb rfl (by decide) (by first | exact wanted_none rfl | (go_simp; done) | fail) rfl row_header HW.out.blk (by first | rfl | (go_simp; done) | rfl) HW.out.len (fun K hK => ?_); go_simp; refine hK _ ?_; clear hK K) | (refine fl_skip rfl (by first | (go_simp; done) | fail) (fun K hK => ?_); go_simp; refine hK _ ?_; clear hK K) | (refine fl_calm rfl (by decide) (by first | exact wanted_none rfl | (go_simp; done) | fail) (fun w_ _ _ => by first | (go_simp; rfl) | (go_simp; done) | rfl) (fun K hK => ?_); go_simp; refine hK _ ?_; clear hK K))
  refine fl_loadm rfl (by decide) (by first | exact wanted_none rfl | (go_simp; done) | fail) rfl row_header HM2.out (by first | rfl | (go_simp; done) | rfl) LR2.out (fun K hK => ?_)
  go_simp
  refine hK _ ?_
  clear hK K
  repeat (first | (refine fl_loadb rfl (by decide) (by first | exact wanted_none rfl | (go_simp; done) | fail) rfl row_header HW.out.blk (by first | rfl | (go_simp; done) | rfl) HW.out.len (fun K hK => ?_); go_simp; refine hK _ ?_; clear hK K) | (refine fl_skip rfl (by first | (go_simp; done) | fail) (fun K hK => ?_); go_simp; refine hK _ ?_; clear hK K) | (refine fl_calm rfl (by decide) (by first | exact wanted_none rfl | (go_simp; done) | fail) (fun w_ _ _ => by first | (go_simp; rfl) | (go_simp; done) | rfl) (fun K hK => ?_); go_simp; refine hK _ ?_; clear hK K))
  refine fl_callv rfl (by kernel_rfl) rfl (by first | exact wanted_none rfl | (go_simp; done) | fail) (fun w_ => by first | (go_simp; exact ⟨rfl, rfl⟩) | (go_simp; rfl) | (go_simp; exact ⟨⟨rfl, rfl, rfl⟩, rfl⟩)) (fun w2_ hg_ hL_ => ?_) (fun K hK => ?_)
  · skip
    replace HT := Lib.hid (HT.out.grow hg_)
    exact HFOF.out _ HT.out
  go_simp
  refine hK _ ?_
  clear hK K
  repeat (first | (refine fl_loadb rfl (by decide) (by first | exact wanted_none rfl | (go_simp; done) | fail) rfl row_header HW.out.blk (by first | rfl | (go_simp; done) | rfl) HW.out.len (fun K hK => ?_); go_simp; refine hK _ ?_; clear hK K) | (refine fl_skip rfl (by first | (go_simp; done) | fail) (fun K hK => ?_); go_simp; refine hK _ ?_; clear hK K) | (refine fl_calm rfl (by decide) (by first | exact wanted_none rfl | (go_simp; done) | fail) (fun w_ _ _ => by first | (go_simp; rfl) | (go_simp; done) | rfl) (fun K hK => ?_); go_simp; refine hK _ ?_; clear hK K))
  refine fl_callv rfl (by kernel_rfl) rfl (by first | exact wanted_none rfl | (go_simp; done) | fail) (fun w_ => by first | (go_simp; exact ⟨rfl, rfl⟩) | (go_simp; rfl) | (go_simp; exact ⟨⟨rfl, rfl, rfl⟩, rfl⟩)) (fun w2_ hg_ hL_ => ?_) (fun K hK => ?_)
  · skip
    replace HT := Lib.hid (HT.out.grow hg_)
    exact awake10_any _ HT.out
  go_simp
  refine hK _ ?_
  clear hK K
  repeat (first | (refine fl_loadb rfl (by decide) (by first | exact wanted_none rfl | (go_simp; done) | fail) rfl row_header HW.out.blk (by first | rfl | (go_simp; done) | rfl) HW.out.len (fun K hK => ?_); go_simp; refine hK _ ?_; clear hK K) | (refine fl_skip rfl (by first | (go_simp; done) | fail) (fun K hK => ?_); go_simp; refine hK _ ?_; clear hK K) | (refine fl_calm rfl (by decide) (by first | exact wanted_none rfl | (go_simp; done) | fail) (fun w_ _ _ => by first | (go_simp; rfl) | (go_simp; done) | rfl) (fun K hK => ?_); go_simp; refine hK _ ?_; clear hK K))
  refine fl_done ?_
  intro w2_ hg_ hL_
  replace HB := Lib.hid (HB.out.grow' hg_)
  clear hg_ hL_
  try clear w_
  rename World => w_
  exact HEX.out HB.out
end Go.Proofs.YtphmefhnffoafaaDoor

/- The walk's halt at one operation: what follows is done by hand. No program in sight. -/
namespace Go.Proofs.YtphmefhnffoafaaDoor
open Go.RowKit
set_option linter.unusedVariables false
def StopT (p : Prop) : Prop := p
theorem wpl_stop {P : Program} {ops : Array Oper} {rest : List Oper} {o : Oper} {a : Act} {w : World} {Q : Exit → Act → World → Prop} (h : StopT (wpList P ops Q (o :: rest) a w)) : wpList P ops Q (o :: rest) a w := h
theorem stop_go {p : Prop} (h : p) : StopT p := h
end Go.Proofs.YtphmefhnffoafaaDoor
