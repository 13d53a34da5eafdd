/- Region 10 of seisinlaw05.TreeClimbs: each order. Printed by mkclimbs.py. -/
import Derived.Test.YtlondennhhffdaaDoorTreeClimbsB16
/- Region 10 of seisinlaw05.TreeClimbs: each order. Printed by mkclimbs.py. -/
namespace Go.Proofs.YtlondennhhffdaaDoor
open Go.RowKit Go.Shelf
set_option linter.unusedVariables false

noncomputable def cbReg (k : Nat) : Code := (((Tryd.f14.body.map regsOf).getD []).find? (fun e => e.1 == k) |>.map (·.2)).getD .skip
theorem ids_one {ds : List (List UInt8)} : ∀ u ∈ idCells ds, u.oneCell' = true := by
  intro u hu
  unfold idCells at hu
  obtain ⟨d, _, h⟩ := List.mem_flatMap.1 hu
  exact all_bytes d u h
abbrev Row (w : World) (bs : Nat) (A : Option Addr) (c n : Nat) (xs : List Value) : Prop := w.ownsRow bs 26 32 (.slice A n c) n xs
def Fr (A : Option Addr) (g : Nat) : Prop := A.map Addr.block ≠ some g
def Vr (w : World) (bs g : Nat) (cs : List Value) : Prop := Blk w g 26 cs ∧ cs.length = 32 ∧ bs ≤ g
section
variable {w w2 : World} {bs g c n : Nat} {A A' : Option Addr} {xs cs : List Value}
theorem row_eq (h : bs ≤ w.heap.size) (hw : w.alloc (.cells #[] 26) = w2) : Row w2 bs (some ⟨w.heap.size, 0, none⟩) 0 0 [] ∧ Grow w w2 := by
  subst hw
  exact ⟨World.ownsRow_lit (base := bs) (e := 26) (size := 32) w #[] 0 h (by simp [maxLen]) rfl, (Below.refl _ _).alloc (Nat.le_refl _) _⟩
theorem vr_mk (h : bs ≤ w.heap.size) (hb : Blk w2 w.heap.size 26 cs) (hn : cs.length = 32) : Vr w2 bs w.heap.size cs := ⟨hb, hn, h⟩
theorem vr_eq (h : bs ≤ w.heap.size) (hn : cs.length = 32) (hw : w.alloc (.cells cs.toArray 26) = w2) : Vr w2 bs w.heap.size cs ∧ Grow w w2 := by
  obtain ⟨h1, h2, _⟩ := alloc_eq hw
  exact ⟨⟨h1, hn, h⟩, h2⟩
theorem Row.grow (h : Row w bs A c n xs) (k : Grow w w2) : Row w2 bs A c n xs := own_below h k
theorem Vr.grow (h : Vr w bs g cs) (k : Grow w w2) : Vr w2 bs g cs := ⟨h.1.grow k, h.2⟩
theorem Vr.lt (h : Vr w bs g cs) : g < w.heap.size := h.1.lt
theorem Vr.at_ (h : Vr w bs g cs) : At w g 26 32 cs := at_mk h.1 h.2.1
theorem Vr.base (h : Vr w bs g cs) : bs ≤ g := h.2.2
theorem Vr.sl (h : Vr w bs g cs) : Sl w w.heap.size 32 (some ⟨g, 0, none⟩) 1 cs := h.1.sl (by rw [h.2.1])
theorem fr_new (h : g < w.heap.size) : Fr (some ⟨w.heap.size, 0, none⟩) g := by
  intro e
  have h2 : w.heap.size = g := by simpa using e
  omega
theorem fr_row (h : Row w bs A c n xs) : Fr A w.heap.size := by
  intro e
  rcases h.2 with ⟨hv, _⟩ | ⟨g, cap, cur, hv, _, hh, _⟩
  · injection hv with hA; subst hA; cases e
  · injection hv with hA; subst hA
    have h2 : g = w.heap.size := by simpa using e
    rw [h2, Array.getElem?_eq_none (Nat.le_refl _)] at hh; cases hh
theorem fr_step (h : A'.map Addr.block = A.map Addr.block ∨ A'.map Addr.block = some w.heap.size) (hf : Fr A g) (hg : g < w.heap.size) : Fr A' g := by
  intro e
  rcases h with h | h
  · rw [h] at e; exact hf e
  · rw [h] at e
    have h2 : w.heap.size = g := by simpa using e
    omega
theorem Vr.far (h : Vr w bs g cs) (k : w.grownBy w2 (A.map Addr.block)) (hf : Fr A g) : Vr w2 bs g cs := ⟨(k.block g h.lt (by first | exact hf | exact fun e => hf e.symm)).trans h.1, h.2⟩
theorem row_r9 {ds : List (List UInt8)} {m : Nat} (h : w.ownsRow bs 26 32 (.slice A (0 + m) c) (0 + m) ([] ++ idCells ds)) : Row w bs A c m (idCells ds) := by
  rw [Nat.zero_add, List.nil_append] at h; exact h
theorem row_ids {w0 : World} {ds : List (List UInt8)} {m c0 : Nat} {A0 : Option Addr} {r : List UInt8} {xs : List Value} (hi : Ids w0 A0 m c0 ds) (hx : Dig xs r) (h : w.ownsRow bs 26 32 (.slice A (m + 1) c) (m + 1) (idCells ds ++ xs)) : Ids w A (m + 1) c (ds ++ [r]) := by
  obtain ⟨_, h2, h3, _⟩ := hi
  obtain ⟨g, _, _, _, hc⟩ := own_form h (by omega)
  refine ⟨?_, by rw [List.length_append, h2]; rfl, fun d hd => ?_, hc⟩
  · have h4 := Sl.of_own h
    rw [hx.1, ← idCells_snoc] at h4
    exact h4
  · rcases List.mem_append.1 hd with hd | hd
    · exact h3 d hd
    · simp only [List.mem_singleton] at hd; rw [hd]
      have := hx.2; first | exact this | simpa using this
end
section
variable {P : Program} {ops : Array Oper} {bs : Nat} {cl : List Nat} {Q : Exit → Act → World → Prop} {o : Oper} {i : Nat} {t : Plan} {a : Act} {w : World}
theorem pl_loadB {T : TypeId} {x : Operand} {p : Addr} {v : Value} (hi : ops[i]? = some o) (hc : plCls cl i = 1) (hw : Region.wanted o (yielded ops a.tmps) = true) (ho : o.op = .load T x) (hx : a.eval x = .pointer (some p))
    (hT : (match P.underlying T with | some (.struct _) | some (.array _ _) => false | some _ => true | none => false) = true) (hv : w.cell? p = some v) (hp : p.block < bs)
    (hk : ∀ K : Act → World → Prop, (∀ a w, wpS P ops (Below bs) cl Q t a w → K a w) → K (a.put o.dst v) w) : wpS P ops (Below bs) cl Q (.get i t) a w := by
  refine pl_read hi hc hw (fun w' hf => ?_) hk
  have hv' : w'.cell? p = some v := by rw [hf.cell hp]; exact hv
  unfold execOp
  simp only [ho, hx, Instr.loadAt, Instr.sureAddr, Sem.run_bind, Sem.run_pure, Result.andThen_ok]
  cases hd : P.underlying T with
  | none => rw [hd] at hT; cases hT
  | some d =>
    rw [hd] at hT
    have hagg : (isAgg T).run P w' = .ok false w' := by
      unfold isAgg
      rw [Sem.run_bind, run_underlying hd w']
      cases d <;> simp_all
    simp [loadVar, hagg, load, Sem.run, hv']
theorem pl_loadbB {T : TypeId} {x : Operand} {n : Nat} {g : Nat} {T' : TypeId} {cs : List Value} (hi : ops[i]? = some o) (hc : plCls cl i = 1) (hw : Region.wanted o (yielded ops a.tmps) = true) (ho : o.op = .load T x) (hT : RowT P T n)
    (hb : Blk w g T' cs) (hp : g < bs) (hx : a.eval x = .pointer (some ⟨g, 0, none⟩)) (hn : cs.length = n)
    (hk : ∀ K : Act → World → Prop, (∀ a w, wpS P ops (Below bs) cl Q t a w → K a w) → K (a.put o.dst (.agg cs.toArray)) w) : wpS P ops (Below bs) cl Q (.get i t) a w := by
  refine pl_read hi hc hw (fun w' hf => ?_) hk
  obtain ⟨d, hu, hd, hi⟩ := hT
  have hrun := run_loadVar_row (P := P) w' g T' T cs.toArray (0, 0) d (hb.below hf hp) hu (by revert hd; cases d <;> simp) (by rw [hi]; simp [hn])
  unfold execOp
  simp only [ho, hx, Instr.loadAt, Instr.sureAddr, Sem.run_bind, Sem.run_pure, Result.andThen_ok, hrun]
end
attribute [local irreducible] nodeB leafB noneB climbT climbD

set_option maxRecDepth 100000 in
set_option maxHeartbeats 16000000 in
theorem cb10 {q_1 q_2 q_3 q_4 q_5 q_6 q_10 q_11 q_12 q_13 q_14 q_15 q_16 q_17 q_18 q_19 q_20 q_21 q_22 q_23 q_24 q_25 q_26 q_27 q_28 q_29 q_30 q_31 q_32 q_33 q_34 q_35 q_36 q_37 q_38 q_39 q_40 q_41 q_42 q_43 q_44 q_45 q_46 q_47 q_48 q_49 q_50 q_51 q_52 q_53 q_54 q_55 q_56 q_57 q_58 q_59 q_60 q_61 q_62 q_63 q_64 q_65 q_66 q_67 q_68 q_69 q_70 q_71 q_72 q_73 q_74 q_75 q_76 q_77 q_78 q_79 q_80 q_81 q_82 q_83 q_84 q_85 q_86 q_87 q_88 q_89 q_90 q_91 q_92 q_93 q_94 q_95 q_96 q_97 q_98 q_99 q_100 q_101 q_102 q_103 q_104 q_105 q_106 q_107 q_108 q_109 q_110 q_111 q_112 q_113 q_114 q_115 q_116 q_117 q_118 q_119 q_120 q_121 q_122 q_123 q_124 q_125 q_126 q_127 q_128 q_129 q_130 q_131 q_132 q_133 q_134 q_135 q_136 q_137 q_138 q_139 q_140 q_141 q_142 q_143 q_144 q_145 q_146 q_147 q_148 q_149 q_150 q_151 q_152 q_153 q_154 : Value} {Q0 : Exit → Act → World → Prop} {w : World} {bA oA n c k m c1 g9 nk ck : Nat} {A1 A2 : Option Addr} {bk r : List UInt8} {ds : List (List UInt8)} {xs zs : List Value}
    (hkn : k < n) (hm : m ≤ 1000000) (hck : nk ≤ ck) (hnk : nk ≤ 1000000)
    (HCK : Hid (KeepC w ⟨bA, oA + k, none⟩ (.slice A2 nk ck))) (HSK : Hid (Sl w w.heap.size 1 A2 nk (bk.map B))) (HI : Hid (Ids w A1 m c1 ds)) (HX : Hid (Dig xs r)) (HVR : Hid (At w g9 26 32 xs)) (HT : Hid (Tabs w))
    (HZ : Hid (Dig zs (climbD bk k n (ds ++ [r])))) (HNO : Hid ((climbT bk k n (ds ++ [r])).isSome = false))
    (HEX : Hid (∀ {u_14 u_82 u_83 u_84 u_85 u_86 u_87 u_88 u_89 u_90 u_91 u_92 u_93 u_94 u_95 u_96 u_97 u_98 : Value} {w' : World}, Below w.heap.size w w' →
      Q0 .normal ⟨((.slice (some ⟨bA, oA, none⟩) n c) :: q_1 :: q_2 :: q_3 :: q_4 :: q_5 :: q_6 :: (.int .i64 k) :: (.slice A1 m c1) :: (.pointer (some ⟨g9, 0, none⟩)) :: q_10 :: q_11 :: q_12 :: q_13 :: u_14 :: (.bool false) :: q_16 :: q_17 :: q_18 :: q_19 :: q_20 :: q_21 :: q_22 :: q_23 :: q_24 :: q_25 :: q_26 :: q_27 :: q_28 :: q_29 :: q_30 :: q_31 :: q_32 :: q_33 :: q_34 :: q_35 :: q_36 :: q_37 :: q_38 :: q_39 :: q_40 :: q_41 :: q_42 :: q_43 :: q_44 :: q_45 :: q_46 :: q_47 :: q_48 :: q_49 :: q_50 :: q_51 :: q_52 :: q_53 :: q_54 :: q_55 :: q_56 :: q_57 :: q_58 :: q_59 :: q_60 :: q_61 :: q_62 :: q_63 :: q_64 :: q_65 :: q_66 :: q_67 :: q_68 :: q_69 :: q_70 :: q_71 :: q_72 :: q_73 :: q_74 :: q_75 :: q_76 :: q_77 :: q_78 :: q_79 :: q_80 :: q_81 :: u_82 :: u_83 :: u_84 :: u_85 :: u_86 :: u_87 :: u_88 :: u_89 :: u_90 :: u_91 :: u_92 :: u_93 :: u_94 :: u_95 :: u_96 :: u_97 :: u_98 :: q_99 :: q_100 :: q_101 :: q_102 :: q_103 :: q_104 :: q_105 :: q_106 :: q_107 :: q_108 :: q_109 :: q_110 :: q_111 :: q_112 :: q_113 :: q_114 :: q_115 :: q_116 :: q_117 :: q_118 :: q_119 :: q_120 :: q_121 :: q_122 :: q_123 :: q_124 :: q_125 :: q_126 :: q_127 :: q_128 :: q_129 :: q_130 :: q_131 :: q_132 :: q_133 :: q_134 :: q_135 :: q_136 :: q_137 :: q_138 :: q_139 :: q_140 :: q_141 :: q_142 :: q_143 :: q_144 :: q_145 :: q_146 :: q_147 :: q_148 :: q_149 :: q_150 :: q_151 :: q_152 :: q_153 :: q_154 :: []).toArray, []⟩ w')) :
    Code.wp Tryd.prog (cbReg 10) Q0 ⟨((.slice (some ⟨bA, oA, none⟩) n c) :: q_1 :: q_2 :: q_3 :: q_4 :: q_5 :: q_6 :: (.int .i64 k) :: (.slice A1 m c1) :: (.pointer (some ⟨g9, 0, none⟩)) :: q_10 :: q_11 :: q_12 :: q_13 :: q_14 :: q_15 :: q_16 :: q_17 :: q_18 :: q_19 :: q_20 :: q_21 :: q_22 :: q_23 :: q_24 :: q_25 :: q_26 :: q_27 :: q_28 :: q_29 :: q_30 :: q_31 :: q_32 :: q_33 :: q_34 :: q_35 :: q_36 :: q_37 :: q_38 :: q_39 :: q_40 :: q_41 :: q_42 :: q_43 :: q_44 :: q_45 :: q_46 :: q_47 :: q_48 :: q_49 :: q_50 :: q_51 :: q_52 :: q_53 :: q_54 :: q_55 :: q_56 :: q_57 :: q_58 :: q_59 :: q_60 :: q_61 :: q_62 :: q_63 :: q_64 :: q_65 :: q_66 :: q_67 :: q_68 :: q_69 :: q_70 :: q_71 :: q_72 :: q_73 :: q_74 :: q_75 :: q_76 :: q_77 :: q_78 :: q_79 :: q_80 :: q_81 :: q_82 :: q_83 :: q_84 :: q_85 :: q_86 :: q_87 :: q_88 :: q_89 :: q_90 :: q_91 :: q_92 :: q_93 :: q_94 :: q_95 :: q_96 :: q_97 :: q_98 :: q_99 :: q_100 :: q_101 :: q_102 :: q_103 :: q_104 :: q_105 :: q_106 :: q_107 :: q_108 :: q_109 :: q_110 :: q_111 :: q_112 :: q_113 :: q_114 :: q_115 :: q_116 :: q_117 :: q_118 :: q_119 :: q_120 :: q_121 :: q_122 :: q_123 :: q_124 :: q_125 :: q_126 :: q_127 :: q_128 :: q_129 :: q_130 :: q_131 :: q_132 :: q_133 :: q_134 :: q_135 :: q_136 :: q_137 :: q_138 :: q_139 :: q_140 :: q_141 :: q_142 :: q_143 :: q_144 :: q_145 :: q_146 :: q_147 :: q_148 :: q_149 :: q_150 :: q_151 :: q_152 :: q_153 :: q_154 :: []).toArray, []⟩ w := by
  have HB := Lib.hid (Below.refl w.heap.size w)
  have HONE := Lib.hid (ids_one (ds := ds))
  have HDG := HX
  have HCB := Lib.hid (World.block_lt_of_cell? w _ HCK.out)
  conv => arg 2; whnf
  try go_wp2_with fail
  repeat' (first | (with_reducible refine wp_plan (id := 10) (Below w.heap.size) [0,0,0,1,0,0,0,4,0,4,1,4,4,3,0,0,0,4,3,0] (.get 0 (.get 1 (.get 2 (.get 3 (.get 4 (.get 5 (.get 6 (.get 8 (.get 10 (.fork 7 (.fork 9 (.fork 11 (.fork 12 (.fork 13 (.get 14 (.get 15 (.get 16 (.act 17 (.act 18 (.get 19 .done)))))) (.act 17 (.act 13 (.get 14 (.get 15 (.get 16 (.act 18 (.get 19 .done)))))))) (.act 17 (.act 12 (.act 13 (.get 14 (.get 15 (.get 16 (.act 18 (.get 19 .done))))))))) (.act 17 (.act 11 (.act 12 (.act 13 (.get 14 (.get 15 (.get 16 (.act 18 (.get 19 .done)))))))))) (.fork 11 (.fork 9 (.fork 12 (.fork 13 (.get 14 (.get 15 (.get 16 (.act 17 (.act 18 (.get 19 .done)))))) (.act 17 (.act 13 (.get 14 (.get 15 (.get 16 (.act 18 (.get 19 .done)))))))) (.act 17 (.act 12 (.act 13 (.get 14 (.get 15 (.get 16 (.act 18 (.get 19 .done))))))))) (.act 17 (.act 9 (.act 12 (.act 13 (.get 14 (.get 15 (.get 16 (.act 18 (.get 19 .done)))))))))) (.act 17 (.fork 9 (.act 11 (.act 12 (.act 13 (.get 14 (.get 15 (.get 16 (.act 18 (.get 19 .done)))))))) (.act 11 (.act 9 (.act 12 (.act 13 (.get 14 (.get 15 (.get 16 (.act 18 (.get 19 .done))))))))))))) (.fork 11 (.fork 7 (.fork 9 (.fork 12 (.fork 13 (.get 14 (.get 15 (.get 16 (.act 17 (.act 18 (.get 19 .done)))))) (.act 17 (.act 13 (.get 14 (.get 15 (.get 16 (.act 18 (.get 19 .done)))))))) (.act 17 (.act 12 (.act 13 (.get 14 (.get 15 (.get 16 (.act 18 (.get 19 .done))))))))) (.act 17 (.act 9 (.act 12 (.act 13 (.get 14 (.get 15 (.get 16 (.act 18 (.get 19 .done)))))))))) (.act 17 (.act 7 (.act 9 (.act 12 (.act 13 (.get 14 (.get 15 (.get 16 (.act 18 (.get 19 .done))))))))))) (.act 17 (.fork 7 (.fork 9 (.act 11 (.act 12 (.act 13 (.get 14 (.get 15 (.get 16 (.act 18 (.get 19 .done)))))))) (.act 11 (.act 9 (.act 12 (.act 13 (.get 14 (.get 15 (.get 16 (.act 18 (.get 19 .done)))))))))) (.act 11 (.act 7 (.act 9 (.act 12 (.act 13 (.get 14 (.get 15 (.get 16 (.act 18 (.get 19 .done))))))))))))))))))))))) (by kernel_rfl) (by kernel_rfl) (fun w => Below.refl _ w) (fun _ _ _ h k => h.trans k) ?_) | go_values | go_skip | go_guarded | go_step | go_upon | go_back)
  intro w_ hd_
  have HB_ := Lib.hid (HB.out.trans (hd_.grow.mono (Nat.le_refl _)))
  clear HB hd_
  have HB := HB_
  clear HB_
  repeat (first | (refine pl_calm rfl rfl (by first | exact wanted_none rfl | (go_simp; done) | rfl) (fun w_ => by first | (go_simp; rfl) | (go_simp; done) | rfl) (fun K hK => ?_); go_simp; refine hK _ _ ?_; clear hK K) | (refine pl_loadB rfl rfl (by first | exact wanted_none rfl | (go_simp; done) | rfl) rfl (by first | rfl | (go_simp; rfl)) (by kernel_rfl) (HCK.out.grow HB.out) HCB.out (fun K hK => ?_); go_simp; refine hK _ _ ?_; clear hK K) | (refine pl_loadbB rfl rfl (by first | exact wanted_none rfl | (go_simp; done) | rfl) rfl row_id (HVR.out.grow HB.out).blk HVR.out.lt (by first | rfl | (go_simp; done) | rfl) HVR.out.len (fun K hK => ?_); go_simp; refine hK _ _ ?_; clear hK K))
  refine pl_fork rfl (by exact wanted_none rfl) (fun K hK => ?_) ?_
  · skip
    go_wp2_with fail
    generalize hw_ : World.alloc w_ _ = w2_
    obtain ⟨hX_, hb_⟩ := row_eq HB.out.size hw_
    have hf_ := hb_.mono HB.out.size
    generalize hg_ : w_.heap.size = g7 at hX_ ⊢
    refine hK _ _ (fun _ => hf_) ?_
    have R7 := Lib.hid hX_
    clear hK K hX_ hg_ hw_
    have HB_ := Lib.hid (HB.out.trans hf_)
    clear HB
    have HB := HB_
    clear HB_
    clear hb_ hf_
    try clear w_
    rename World => w_
    refine pl_fork rfl (by exact wanted_none rfl) (fun K hK => ?_) ?_
    · skip
      have HSL := Lib.hid (HI.out.grow HB.out).1
      refine wpl_apps rfl rfl el_id R7.out rfl HSL.out rfl HONE.out (by omega) (by omega) HB.out.size ?_
      intro A9 c9 w2_ hX_ hg_ hA_
      try simp only [Nat.zero_add]
      have hf_ := below_grown (Below.refl _ _) hg_ HB.out.size (own_from R7.out)
      go_wp2_with fail
      refine hK _ _ (fun _ => hf_) ?_
      clear hK K
      have R9 := Lib.hid (row_r9 hX_)
      have HB_ := Lib.hid (HB.out.trans hf_)
      clear HB
      have HB := HB_
      clear HB_
      clear hf_ hg_ hA_ HSL hX_ R7
      try clear w_
      rename World => w_
      refine pl_fork rfl (by exact wanted_none rfl) (fun K hK => ?_) ?_
      · skip
        have hysl := HX.out.len
        go_wp2_with fail
        generalize hw_ : World.alloc w_ _ = w2_
        clear hysl
        obtain ⟨hY_, hb_, hs_⟩ := alloc_eq hw_
        have hX_ := vr_mk HB.out.size (by have h := hY_; rw [fold_set _ xs (by rw [HX.out.len]; rfl)] at h; exact h) HX.out.len
        have hf_ := hb_.mono HB.out.size
        have FV11 := Lib.hid (fr_row R9.out)
        generalize hg_ : w_.heap.size = g11 at hX_ FV11 ⊢
        refine hK _ _ (fun _ => hf_) ?_
        have V11 := Lib.hid hX_
        clear hK K hX_ hg_ hw_ hY_ hs_
        have HB_ := Lib.hid (HB.out.trans hf_)
        have R9_ := Lib.hid (R9.out.grow hb_)
        clear HB R9
        have HB := HB_
        have R9 := R9_
        clear HB_ R9_
        clear hb_ hf_
        try clear w_
        rename World => w_
        refine pl_fork rfl (by exact wanted_none rfl) (fun K hK => ?_) ?_
        · skip
          have HSL := Lib.hid V11.out.sl
          refine wpl_apps rfl rfl el_id R9.out rfl HSL.out rfl HX.out.one (by omega) (by omega) HB.out.size ?_
          intro A12 c12 w2_ hX_ hg_ hA_
          have hf_ := below_grown (Below.refl _ _) hg_ HB.out.size (own_from R9.out)
          go_wp2_with fail
          refine hK _ _ (fun _ => hf_) ?_
          clear hK K
          have HI12 := Lib.hid (row_ids HI.out HDG.out hX_)
          have HB_ := Lib.hid (HB.out.trans hf_)
          clear HB
          have HB := HB_
          clear HB_
          clear hf_ hg_ hA_ HSL hX_ R9 V11 FV11
          try clear w_
          rename World => w_
          refine pl_fork rfl (by exact wanted_none rfl) (fun K hK => ?_) ?_
          · skip
            go_wp2_with fail
            refine (tclimb_any _ _ _ _ _ _ bk k n (ds ++ [r]) HZ.out _ (HSK.out.grow HB.out) hck (by omega) HI12.out (by omega) (HT.out.grow HB.out)).mono ?_
            rintro e w2_ ⟨rfl, hb_⟩
            rw [HNO.out]
            have hf_ := hb_.mono HB.out.size
            go_wp2_with fail
            refine hK _ _ (fun _ => hf_) ?_
            clear hK K
            have HB_ := Lib.hid (HB.out.trans hf_)
            clear HB
            have HB := HB_
            clear HB_
            clear hb_ hf_ HI12
            try clear w_
            rename World => w_
            repeat (first | (refine pl_calm rfl rfl (by first | exact wanted_none rfl | (go_simp; done) | rfl) (fun w_ => by first | (go_simp; rfl) | (go_simp; done) | rfl) (fun K hK => ?_); go_simp; refine hK _ _ ?_; clear hK K) | (refine pl_loadB rfl rfl (by first | exact wanted_none rfl | (go_simp; done) | rfl) rfl (by first | rfl | (go_simp; rfl)) (by kernel_rfl) (HCK.out.grow HB.out) HCB.out (fun K hK => ?_); go_simp; refine hK _ _ ?_; clear hK K) | (refine pl_loadbB rfl rfl (by first | exact wanted_none rfl | (go_simp; done) | rfl) rfl row_id (HVR.out.grow HB.out).blk HVR.out.lt (by first | rfl | (go_simp; done) | rfl) HVR.out.len (fun K hK => ?_); go_simp; refine hK _ _ ?_; clear hK K))
            refine pl_act rfl (by exact wanted_none rfl) (fun K hK => ?_)
            show wpList _ _ _ [⟨some _, .alloc _, _, _, _, _⟩] _ _
            go_wp2_with (first | (with_reducible refine wpl_alloc (o := ⟨some 14, _, _, _, _, _⟩) rfl rfl zero_id ?_))
            intro w2_ hb2_ hb_ hsz2_
            have hX_ := vr_mk HB.out.size hb2_ len_id
            have hf_ := hb_.mono HB.out.size
            generalize hg_ : w_.heap.size = g17 at hX_ ⊢
            refine hK _ _ (fun _ => hf_) ?_
            have V17 := Lib.hid hX_
            clear hK K hX_ hg_ hb2_ hsz2_
            have HB_ := Lib.hid (HB.out.trans hf_)
            clear HB
            have HB := HB_
            clear HB_
            clear hb_ hf_
            try clear w_
            rename World => w_
            have HX17 := Lib.hid V17.out.at_
            have HG17 := Lib.hid V17.out.base
            clear V17
            refine pl_act rfl (by first | exact wanted_none rfl | (go_simp; done) | rfl) (fun K hK => ?_)
            show wpList _ _ _ [⟨none, .store _ _ _, _, _, _, _⟩] _ _
            go_wp2_with (first | (with_reducible refine wpl_storeb (o := ⟨none, .store _ _ _, _, _, _, _⟩) rfl rfl row_id HX17.out.blk rfl rfl HX17.out.len HZ.out.len HZ.out.one ?_))
            intro w2_ hb2_ hg2_ hsz2_
            have HB_ := Lib.hid (put_below HB.out HG17.out hg2_)
            have HX_ := Lib.hid (at_mk hb2_ HZ.out.len)
            clear hb2_ hg2_ hsz2_ HB HX17
            have HB := HB_
            have HX17 := HX_
            clear HB_ HX_
            try clear w_
            rename World => w_
            go_wp2_with fail
            refine hK _ _ (fun h => by cases h) ?_
            clear hK K
            repeat (first | (refine pl_calm rfl rfl (by first | exact wanted_none rfl | (go_simp; done) | rfl) (fun w_ => by first | (go_simp; rfl) | (go_simp; done) | rfl) (fun K hK => ?_); go_simp; refine hK _ _ ?_; clear hK K) | (refine pl_loadB rfl rfl (by first | exact wanted_none rfl | (go_simp; done) | rfl) rfl (by first | rfl | (go_simp; rfl)) (by kernel_rfl) (HCK.out.grow HB.out) HCB.out (fun K hK => ?_); go_simp; refine hK _ _ ?_; clear hK K) | (refine pl_loadbB rfl rfl (by first | exact wanted_none rfl | (go_simp; done) | rfl) rfl row_id (HVR.out.grow HB.out).blk HVR.out.lt (by first | rfl | (go_simp; done) | rfl) HVR.out.len (fun K hK => ?_); go_simp; refine hK _ _ ?_; clear hK K))
            refine pl_done ?_
            exact HEX.out HB.out
          · skip
            refine pl_act rfl (by exact wanted_none rfl) (fun K hK => ?_)
            show wpList _ _ _ [⟨some _, .alloc _, _, _, _, _⟩] _ _
            go_wp2_with (first | (with_reducible refine wpl_alloc (o := ⟨some 14, _, _, _, _, _⟩) rfl rfl zero_id ?_))
            intro w2_ hb2_ hb_ hsz2_
            have hX_ := vr_mk HB.out.size hb2_ len_id
            have hf_ := hb_.mono HB.out.size
            generalize hg_ : w_.heap.size = g17 at hX_ ⊢
            refine hK _ _ (fun _ => hf_) ?_
            have V17 := Lib.hid hX_
            clear hK K hX_ hg_ hb2_ hsz2_
            have HB_ := Lib.hid (HB.out.trans hf_)
            have HI12_ := Lib.hid (HI12.out.grow hb_)
            clear HB HI12
            have HB := HB_
            have HI12 := HI12_
            clear HB_ HI12_
            clear hb_ hf_
            try clear w_
            rename World => w_
            refine pl_act rfl (by exact wanted_none rfl) (fun K hK => ?_)
            go_wp2_with fail
            refine (tclimb_any _ _ _ _ _ _ bk k n (ds ++ [r]) HZ.out _ (HSK.out.grow HB.out) hck (by omega) HI12.out (by omega) (HT.out.grow HB.out)).mono ?_
            rintro e w2_ ⟨rfl, hb_⟩
            rw [HNO.out]
            have hf_ := hb_.mono HB.out.size
            go_wp2_with fail
            refine hK _ _ (fun _ => hf_) ?_
            clear hK K
            have HB_ := Lib.hid (HB.out.trans hf_)
            have V17_ := Lib.hid (V17.out.grow hb_)
            clear HB V17
            have HB := HB_
            have V17 := V17_
            clear HB_ V17_
            clear hb_ hf_ HI12
            try clear w_
            rename World => w_
            repeat (first | (refine pl_calm rfl rfl (by first | exact wanted_none rfl | (go_simp; done) | rfl) (fun w_ => by first | (go_simp; rfl) | (go_simp; done) | rfl) (fun K hK => ?_); go_simp; refine hK _ _ ?_; clear hK K) | (refine pl_loadB rfl rfl (by first | exact wanted_none rfl | (go_simp; done) | rfl) rfl (by first | rfl | (go_simp; rfl)) (by kernel_rfl) (HCK.out.grow HB.out) HCB.out (fun K hK => ?_); go_simp; refine hK _ _ ?_; clear hK K) | (refine pl_loadbB rfl rfl (by first | exact wanted_none rfl | (go_simp; done) | rfl) rfl row_id (HVR.out.grow HB.out).blk HVR.out.lt (by first | rfl | (go_simp; done) | rfl) HVR.out.len (fun K hK => ?_); go_simp; refine hK _ _ ?_; clear hK K))
            have HX17 := Lib.hid V17.out.at_
            have HG17 := Lib.hid V17.out.base
            clear V17
            refine pl_act rfl (by first | exact wanted_none rfl | (go_simp; done) | rfl) (fun K hK => ?_)
            show wpList _ _ _ [⟨none, .store _ _ _, _, _, _, _⟩] _ _
            go_wp2_with (first | (with_reducible refine wpl_storeb (o := ⟨none, .store _ _ _, _, _, _, _⟩) rfl rfl row_id HX17.out.blk rfl rfl HX17.out.len HZ.out.len HZ.out.one ?_))
            intro w2_ hb2_ hg2_ hsz2_
            have HB_ := Lib.hid (put_below HB.out HG17.out hg2_)
            have HX_ := Lib.hid (at_mk hb2_ HZ.out.len)
            clear hb2_ hg2_ hsz2_ HB HX17
            have HB := HB_
            have HX17 := HX_
            clear HB_ HX_
            try clear w_
            rename World => w_
            go_wp2_with fail
            refine hK _ _ (fun h => by cases h) ?_
            clear hK K
            repeat (first | (refine pl_calm rfl rfl (by first | exact wanted_none rfl | (go_simp; done) | rfl) (fun w_ => by first | (go_simp; rfl) | (go_simp; done) | rfl) (fun K hK => ?_); go_simp; refine hK _ _ ?_; clear hK K) | (refine pl_loadB rfl rfl (by first | exact wanted_none rfl | (go_simp; done) | rfl) rfl (by first | rfl | (go_simp; rfl)) (by kernel_rfl) (HCK.out.grow HB.out) HCB.out (fun K hK => ?_); go_simp; refine hK _ _ ?_; clear hK K) | (refine pl_loadbB rfl rfl (by first | exact wanted_none rfl | (go_simp; done) | rfl) rfl row_id (HVR.out.grow HB.out).blk HVR.out.lt (by first | rfl | (go_simp; done) | rfl) HVR.out.len (fun K hK => ?_); go_simp; refine hK _ _ ?_; clear hK K))
            refine pl_done ?_
            exact HEX.out HB.out
        · skip
          refine pl_act rfl (by exact wanted_none rfl) (fun K hK => ?_)
          show wpList _ _ _ [⟨some _, .alloc _, _, _, _, _⟩] _ _
          go_wp2_with (first | (with_reducible refine wpl_alloc (o := ⟨some 14, _, _, _, _, _⟩) rfl rfl zero_id ?_))
          intro w2_ hb2_ hb_ hsz2_
          have hX_ := vr_mk HB.out.size hb2_ len_id
          have hf_ := hb_.mono HB.out.size
          have FV17 := Lib.hid (fr_row R9.out)
          generalize hg_ : w_.heap.size = g17 at hX_ FV17 ⊢
          refine hK _ _ (fun _ => hf_) ?_
          have V17 := Lib.hid hX_
          clear hK K hX_ hg_ hb2_ hsz2_
          have HB_ := Lib.hid (HB.out.trans hf_)
          have V11_ := Lib.hid (V11.out.grow hb_)
          have R9_ := Lib.hid (R9.out.grow hb_)
          clear HB V11 R9
          have HB := HB_
          have V11 := V11_
          have R9 := R9_
          clear HB_ V11_ R9_
          clear hb_ hf_
          try clear w_
          rename World => w_
          refine pl_act rfl (by exact wanted_none rfl) (fun K hK => ?_)
          have HSL := Lib.hid V11.out.sl
          refine wpl_apps rfl rfl el_id R9.out rfl HSL.out rfl HX.out.one (by omega) (by omega) HB.out.size ?_
          intro A12 c12 w2_ hX_ hg_ hA_
          have hf_ := below_grown (Below.refl _ _) hg_ HB.out.size (own_from R9.out)
          go_wp2_with fail
          refine hK _ _ (fun _ => hf_) ?_
          clear hK K
          have HI12 := Lib.hid (row_ids HI.out HDG.out hX_)
          have HB_ := Lib.hid (HB.out.trans hf_)
          have V17_ := Lib.hid (V17.out.far hg_ FV17.out)
          clear HB V17
          have HB := HB_
          have V17 := V17_
          clear HB_ V17_
          clear hf_ hg_ hA_ HSL hX_ R9 V11 FV11 FV17
          try clear w_
          rename World => w_
          refine pl_act rfl (by exact wanted_none rfl) (fun K hK => ?_)
          go_wp2_with fail
          refine (tclimb_any _ _ _ _ _ _ bk k n (ds ++ [r]) HZ.out _ (HSK.out.grow HB.out) hck (by omega) HI12.out (by omega) (HT.out.grow HB.out)).mono ?_
          rintro e w2_ ⟨rfl, hb_⟩
          rw [HNO.out]
          have hf_ := hb_.mono HB.out.size
          go_wp2_with fail
          refine hK _ _ (fun _ => hf_) ?_
          clear hK K
          have HB_ := Lib.hid (HB.out.trans hf_)
          have V17_ := Lib.hid (V17.out.grow hb_)
          clear HB V17
          have HB := HB_
          have V17 := V17_
          clear HB_ V17_
          clear hb_ hf_ HI12
          try clear w_
          rename World => w_
          repeat (first | (refine pl_calm rfl rfl (by first | exact wanted_none rfl | (go_simp; done) | rfl) (fun w_ => by first | (go_simp; rfl) | (go_simp; done) | rfl) (fun K hK => ?_); go_simp; refine hK _ _ ?_; clear hK K) | (refine pl_loadB rfl rfl (by first | exact wanted_none rfl | (go_simp; done) | rfl) rfl (by first | rfl | (go_simp; rfl)) (by kernel_rfl) (HCK.out.grow HB.out) HCB.out (fun K hK => ?_); go_simp; refine hK _ _ ?_; clear hK K) | (refine pl_loadbB rfl rfl (by first | exact wanted_none rfl | (go_simp; done) | rfl) rfl row_id (HVR.out.grow HB.out).blk HVR.out.lt (by first | rfl | (go_simp; done) | rfl) HVR.out.len (fun K hK => ?_); go_simp; refine hK _ _ ?_; clear hK K))
          have HX17 := Lib.hid V17.out.at_
          have HG17 := Lib.hid V17.out.base
          clear V17
          refine pl_act rfl (by first | exact wanted_none rfl | (go_simp; done) | rfl) (fun K hK => ?_)
          show wpList _ _ _ [⟨none, .store _ _ _, _, _, _, _⟩] _ _
          go_wp2_with (first | (with_reducible refine wpl_storeb (o := ⟨none, .store _ _ _, _, _, _, _⟩) rfl rfl row_id HX17.out.blk rfl rfl HX17.out.len HZ.out.len HZ.out.one ?_))
          intro w2_ hb2_ hg2_ hsz2_
          have HB_ := Lib.hid (put_below HB.out HG17.out hg2_)
          have HX_ := Lib.hid (at_mk hb2_ HZ.out.len)
          clear hb2_ hg2_ hsz2_ HB HX17
          have HB := HB_
          have HX17 := HX_
          clear HB_ HX_
          try clear w_
          rename World => w_
          go_wp2_with fail
          refine hK _ _ (fun h => by cases h) ?_
          clear hK K
          repeat (first | (refine pl_calm rfl rfl (by first | exact wanted_none rfl | (go_simp; done) | rfl) (fun w_ => by first | (go_simp; rfl) | (go_simp; done) | rfl) (fun K hK => ?_); go_simp; refine hK _ _ ?_; clear hK K) | (refine pl_loadB rfl rfl (by first | exact wanted_none rfl | (go_simp; done) | rfl) rfl (by first | rfl | (go_simp; rfl)) (by kernel_rfl) (HCK.out.grow HB.out) HCB.out (fun K hK => ?_); go_simp; refine hK _ _ ?_; clear hK K) | (refine pl_loadbB rfl rfl (by first | exact wanted_none rfl | (go_simp; done) | rfl) rfl row_id (HVR.out.grow HB.out).blk HVR.out.lt (by first | rfl | (go_simp; done) | rfl) HVR.out.len (fun K hK => ?_); go_simp; refine hK _ _ ?_; clear hK K))
          refine pl_done ?_
          exact HEX.out HB.out
      · skip
        refine pl_act rfl (by exact wanted_none rfl) (fun K hK => ?_)
        show wpList _ _ _ [⟨some _, .alloc _, _, _, _, _⟩] _ _
        go_wp2_with (first | (with_reducible refine wpl_alloc (o := ⟨some 14, _, _, _, _, _⟩) rfl rfl zero_id ?_))
        intro w2_ hb2_ hb_ hsz2_
        have hX_ := vr_mk HB.out.size hb2_ len_id
        have hf_ := hb_.mono HB.out.size
        have FV17 := Lib.hid (fr_row R9.out)
        generalize hg_ : w_.heap.size = g17 at hX_ FV17 ⊢
        refine hK _ _ (fun _ => hf_) ?_
        have V17 := Lib.hid hX_
        clear hK K hX_ hg_ hb2_ hsz2_
        have HB_ := Lib.hid (HB.out.trans hf_)
        have R9_ := Lib.hid (R9.out.grow hb_)
        clear HB R9
        have HB := HB_
        have R9 := R9_
        clear HB_ R9_
        clear hb_ hf_
        try clear w_
        rename World => w_
        refine pl_act rfl (by exact wanted_none rfl) (fun K hK => ?_)
        have hysl := HX.out.len
        go_wp2_with fail
        generalize hw_ : World.alloc w_ _ = w2_
        clear hysl
        obtain ⟨hY_, hb_, hs_⟩ := alloc_eq hw_
        have hX_ := vr_mk HB.out.size (by have h := hY_; rw [fold_set _ xs (by rw [HX.out.len]; rfl)] at h; exact h) HX.out.len
        have hf_ := hb_.mono HB.out.size
        have FV11 := Lib.hid (fr_row R9.out)
        generalize hg_ : w_.heap.size = g11 at hX_ FV11 ⊢
        refine hK _ _ (fun _ => hf_) ?_
        have V11 := Lib.hid hX_
        clear hK K hX_ hg_ hw_ hY_ hs_
        have HB_ := Lib.hid (HB.out.trans hf_)
        have V17_ := Lib.hid (V17.out.grow hb_)
        have R9_ := Lib.hid (R9.out.grow hb_)
        clear HB V17 R9
        have HB := HB_
        have V17 := V17_
        have R9 := R9_
        clear HB_ V17_ R9_
        clear hb_ hf_
        try clear w_
        rename World => w_
        refine pl_act rfl (by exact wanted_none rfl) (fun K hK => ?_)
        have HSL := Lib.hid V11.out.sl
        refine wpl_apps rfl rfl el_id R9.out rfl HSL.out rfl HX.out.one (by omega) (by omega) HB.out.size ?_
        intro A12 c12 w2_ hX_ hg_ hA_
        have hf_ := below_grown (Below.refl _ _) hg_ HB.out.size (own_from R9.out)
        go_wp2_with fail
        refine hK _ _ (fun _ => hf_) ?_
        clear hK K
        have HI12 := Lib.hid (row_ids HI.out HDG.out hX_)
        have HB_ := Lib.hid (HB.out.trans hf_)
        have V17_ := Lib.hid (V17.out.far hg_ FV17.out)
        clear HB V17
        have HB := HB_
        have V17 := V17_
        clear HB_ V17_
        clear hf_ hg_ hA_ HSL hX_ R9 V11 FV11 FV17
        try clear w_
        rename World => w_
        refine pl_act rfl (by exact wanted_none rfl) (fun K hK => ?_)
        go_wp2_with fail
        refine (tclimb_any _ _ _ _ _ _ bk k n (ds ++ [r]) HZ.out _ (HSK.out.grow HB.out) hck (by omega) HI12.out (by omega) (HT.out.grow HB.out)).mono ?_
        rintro e w2_ ⟨rfl, hb_⟩
        rw [HNO.out]
        have hf_ := hb_.mono HB.out.size
        go_wp2_with fail
        refine hK _ _ (fun _ => hf_) ?_
        clear hK K
        have HB_ := Lib.hid (HB.out.trans hf_)
        have V17_ := Lib.hid (V17.out.grow hb_)
        clear HB V17
        have HB := HB_
        have V17 := V17_
        clear HB_ V17_
        clear hb_ hf_ HI12
        try clear w_
        rename World => w_
        repeat (first | (refine pl_calm rfl rfl (by first | exact wanted_none rfl | (go_simp; done) | rfl) (fun w_ => by first | (go_simp; rfl) | (go_simp; done) | rfl) (fun K hK => ?_); go_simp; refine hK _ _ ?_; clear hK K) | (refine pl_loadB rfl rfl (by first | exact wanted_none rfl | (go_simp; done) | rfl) rfl (by first | rfl | (go_simp; rfl)) (by kernel_rfl) (HCK.out.grow HB.out) HCB.out (fun K hK => ?_); go_simp; refine hK _ _ ?_; clear hK K) | (refine pl_loadbB rfl rfl (by first | exact wanted_none rfl | (go_simp; done) | rfl) rfl row_id (HVR.out.grow HB.out).blk HVR.out.lt (by first | rfl | (go_simp; done) | rfl) HVR.out.len (fun K hK => ?_); go_simp; refine hK _ _ ?_; clear hK K))
        have HX17 := Lib.hid V17.out.at_
        have HG17 := Lib.hid V17.out.base
        clear V17
        refine pl_act rfl (by first | exact wanted_none rfl | (go_simp; done) | rfl) (fun K hK => ?_)
        show wpList _ _ _ [⟨none, .store _ _ _, _, _, _, _⟩] _ _
        go_wp2_with (first | (with_reducible refine wpl_storeb (o := ⟨none, .store _ _ _, _, _, _, _⟩) rfl rfl row_id HX17.out.blk rfl rfl HX17.out.len HZ.out.len HZ.out.one ?_))
        intro w2_ hb2_ hg2_ hsz2_
        have HB_ := Lib.hid (put_below HB.out HG17.out hg2_)
        have HX_ := Lib.hid (at_mk hb2_ HZ.out.len)
        clear hb2_ hg2_ hsz2_ HB HX17
        have HB := HB_
        have HX17 := HX_
        clear HB_ HX_
        try clear w_
        rename World => w_
        go_wp2_with fail
        refine hK _ _ (fun h => by cases h) ?_
        clear hK K
        repeat (first | (refine pl_calm rfl rfl (by first | exact wanted_none rfl | (go_simp; done) | rfl) (fun w_ => by first | (go_simp; rfl) | (go_simp; done) | rfl) (fun K hK => ?_); go_simp; refine hK _ _ ?_; clear hK K) | (refine pl_loadB rfl rfl (by first | exact wanted_none rfl | (go_simp; done) | rfl) rfl (by first | rfl | (go_simp; rfl)) (by kernel_rfl) (HCK.out.grow HB.out) HCB.out (fun K hK => ?_); go_simp; refine hK _ _ ?_; clear hK K) | (refine pl_loadbB rfl rfl (by first | exact wanted_none rfl | (go_simp; done) | rfl) rfl row_id (HVR.out.grow HB.out).blk HVR.out.lt (by first | rfl | (go_simp; done) | rfl) HVR.out.len (fun K hK => ?_); go_simp; refine hK _ _ ?_; clear hK K))
        refine pl_done ?_
        exact HEX.out HB.out
    · skip
      refine pl_fork rfl (by exact wanted_none rfl) (fun K hK => ?_) ?_
      · skip
        have hysl := HX.out.len
        go_wp2_with fail
        generalize hw_ : World.alloc w_ _ = w2_
        clear hysl
        obtain ⟨hY_, hb_, hs_⟩ := alloc_eq hw_
        have hX_ := vr_mk HB.out.size (by have h := hY_; rw [fold_set _ xs (by rw [HX.out.len]; rfl)] at h; exact h) HX.out.len
        have hf_ := hb_.mono HB.out.size
        have FV11 := Lib.hid (fr_row R7.out)
        generalize hg_ : w_.heap.size = g11 at hX_ FV11 ⊢
        refine hK _ _ (fun _ => hf_) ?_
        have V11 := Lib.hid hX_
        clear hK K hX_ hg_ hw_ hY_ hs_
        have HB_ := Lib.hid (HB.out.trans hf_)
        have R7_ := Lib.hid (R7.out.grow hb_)
        clear HB R7
        have HB := HB_
        have R7 := R7_
        clear HB_ R7_
        clear hb_ hf_
        try clear w_
        rename World => w_
        refine pl_fork rfl (by exact wanted_none rfl) (fun K hK => ?_) ?_
        · skip
          have HSL := Lib.hid (HI.out.grow HB.out).1
          refine wpl_apps rfl rfl el_id R7.out rfl HSL.out rfl HONE.out (by omega) (by omega) HB.out.size ?_
          intro A9 c9 w2_ hX_ hg_ hA_
          try simp only [Nat.zero_add]
          have hf_ := below_grown (Below.refl _ _) hg_ HB.out.size (own_from R7.out)
          go_wp2_with fail
          refine hK _ _ (fun _ => hf_) ?_
          clear hK K
          have R9 := Lib.hid (row_r9 hX_)
          have NV11 := Lib.hid (fr_step hA_ FV11.out V11.out.lt)
          have HB_ := Lib.hid (HB.out.trans hf_)
          have V11_ := Lib.hid (V11.out.far hg_ FV11.out)
          clear HB V11
          have HB := HB_
          have V11 := V11_
          clear HB_ V11_
          clear hf_ hg_ hA_ HSL hX_ R7 FV11
          have FV11 := NV11
          clear NV11
          try clear w_
          rename World => w_
          refine pl_fork rfl (by exact wanted_none rfl) (fun K hK => ?_) ?_
          · skip
            have HSL := Lib.hid V11.out.sl
            refine wpl_apps rfl rfl el_id R9.out rfl HSL.out rfl HX.out.one (by omega) (by omega) HB.out.size ?_
            intro A12 c12 w2_ hX_ hg_ hA_
            have hf_ := below_grown (Below.refl _ _) hg_ HB.out.size (own_from R9.out)
            go_wp2_with fail
            refine hK _ _ (fun _ => hf_) ?_
            clear hK K
            have HI12 := Lib.hid (row_ids HI.out HDG.out hX_)
            have HB_ := Lib.hid (HB.out.trans hf_)
            clear HB
            have HB := HB_
            clear HB_
            clear hf_ hg_ hA_ HSL hX_ R9 V11 FV11
            try clear w_
            rename World => w_
            refine pl_fork rfl (by exact wanted_none rfl) (fun K hK => ?_) ?_
            · skip
              go_wp2_with fail
              refine (tclimb_any _ _ _ _ _ _ bk k n (ds ++ [r]) HZ.out _ (HSK.out.grow HB.out) hck (by omega) HI12.out (by omega) (HT.out.grow HB.out)).mono ?_
              rintro e w2_ ⟨rfl, hb_⟩
              rw [HNO.out]
              have hf_ := hb_.mono HB.out.size
              go_wp2_with fail
              refine hK _ _ (fun _ => hf_) ?_
              clear hK K
              have HB_ := Lib.hid (HB.out.trans hf_)
              clear HB
              have HB := HB_
              clear HB_
              clear hb_ hf_ HI12
              try clear w_
              rename World => w_
              repeat (first | (refine pl_calm rfl rfl (by first | exact wanted_none rfl | (go_simp; done) | rfl) (fun w_ => by first | (go_simp; rfl) | (go_simp; done) | rfl) (fun K hK => ?_); go_simp; refine hK _ _ ?_; clear hK K) | (refine pl_loadB rfl rfl (by first | exact wanted_none rfl | (go_simp; done) | rfl) rfl (by first | rfl | (go_simp; rfl)) (by kernel_rfl) (HCK.out.grow HB.out) HCB.out (fun K hK => ?_); go_simp; refine hK _ _ ?_; clear hK K) | (refine pl_loadbB rfl rfl (by first | exact wanted_none rfl | (go_simp; done) | rfl) rfl row_id (HVR.out.grow HB.out).blk HVR.out.lt (by first | rfl | (go_simp; done) | rfl) HVR.out.len (fun K hK => ?_); go_simp; refine hK _ _ ?_; clear hK K))
              refine pl_act rfl (by exact wanted_none rfl) (fun K hK => ?_)
              show wpList _ _ _ [⟨some _, .alloc _, _, _, _, _⟩] _ _
              go_wp2_with (first | (with_reducible refine wpl_alloc (o := ⟨some 14, _, _, _, _, _⟩) rfl rfl zero_id ?_))
              intro w2_ hb2_ hb_ hsz2_
              have hX_ := vr_mk HB.out.size hb2_ len_id
              have hf_ := hb_.mono HB.out.size
              generalize hg_ : w_.heap.size = g17 at hX_ ⊢
              refine hK _ _ (fun _ => hf_) ?_
              have V17 := Lib.hid hX_
              clear hK K hX_ hg_ hb2_ hsz2_
              have HB_ := Lib.hid (HB.out.trans hf_)
              clear HB
              have HB := HB_
              clear HB_
              clear hb_ hf_
              try clear w_
              rename World => w_
              have HX17 := Lib.hid V17.out.at_
              have HG17 := Lib.hid V17.out.base
              clear V17
              refine pl_act rfl (by first | exact wanted_none rfl | (go_simp; done) | rfl) (fun K hK => ?_)
              show wpList _ _ _ [⟨none, .store _ _ _, _, _, _, _⟩] _ _
              go_wp2_with (first | (with_reducible refine wpl_storeb (o := ⟨none, .store _ _ _, _, _, _, _⟩) rfl rfl row_id HX17.out.blk rfl rfl HX17.out.len HZ.out.len HZ.out.one ?_))
              intro w2_ hb2_ hg2_ hsz2_
              have HB_ := Lib.hid (put_below HB.out HG17.out hg2_)
              have HX_ := Lib.hid (at_mk hb2_ HZ.out.len)
              clear hb2_ hg2_ hsz2_ HB HX17
              have HB := HB_
              have HX17 := HX_
              clear HB_ HX_
              try clear w_
              rename World => w_
              go_wp2_with fail
              refine hK _ _ (fun h => by cases h) ?_
              clear hK K
              repeat (first | (refine pl_calm rfl rfl (by first | exact wanted_none rfl | (go_simp; done) | rfl) (fun w_ => by first | (go_simp; rfl) | (go_simp; done) | rfl) (fun K hK => ?_); go_simp; refine hK _ _ ?_; clear hK K) | (refine pl_loadB rfl rfl (by first | exact wanted_none rfl | (go_simp; done) | rfl) rfl (by first | rfl | (go_simp; rfl)) (by kernel_rfl) (HCK.out.grow HB.out) HCB.out (fun K hK => ?_); go_simp; refine hK _ _ ?_; clear hK K) | (refine pl_loadbB rfl rfl (by first | exact wanted_none rfl | (go_simp; done) | rfl) rfl row_id (HVR.out.grow HB.out).blk HVR.out.lt (by first | rfl | (go_simp; done) | rfl) HVR.out.len (fun K hK => ?_); go_simp; refine hK _ _ ?_; clear hK K))
              refine pl_done ?_
              exact HEX.out HB.out
            · skip
              refine pl_act rfl (by exact wanted_none rfl) (fun K hK => ?_)
              show wpList _ _ _ [⟨some _, .alloc _, _, _, _, _⟩] _ _
              go_wp2_with (first | (with_reducible refine wpl_alloc (o := ⟨some 14, _, _, _, _, _⟩) rfl rfl zero_id ?_))
              intro w2_ hb2_ hb_ hsz2_
              have hX_ := vr_mk HB.out.size hb2_ len_id
              have hf_ := hb_.mono HB.out.size
              generalize hg_ : w_.heap.size = g17 at hX_ ⊢
              refine hK _ _ (fun _ => hf_) ?_
              have V17 := Lib.hid hX_
              clear hK K hX_ hg_ hb2_ hsz2_
              have HB_ := Lib.hid (HB.out.trans hf_)
              have HI12_ := Lib.hid (HI12.out.grow hb_)
              clear HB HI12
              have HB := HB_
              have HI12 := HI12_
              clear HB_ HI12_
              clear hb_ hf_
              try clear w_
              rename World => w_
              refine pl_act rfl (by exact wanted_none rfl) (fun K hK => ?_)
              go_wp2_with fail
              refine (tclimb_any _ _ _ _ _ _ bk k n (ds ++ [r]) HZ.out _ (HSK.out.grow HB.out) hck (by omega) HI12.out (by omega) (HT.out.grow HB.out)).mono ?_
              rintro e w2_ ⟨rfl, hb_⟩
              rw [HNO.out]
              have hf_ := hb_.mono HB.out.size
              go_wp2_with fail
              refine hK _ _ (fun _ => hf_) ?_
              clear hK K
              have HB_ := Lib.hid (HB.out.trans hf_)
              have V17_ := Lib.hid (V17.out.grow hb_)
              clear HB V17
              have HB := HB_
              have V17 := V17_
              clear HB_ V17_
              clear hb_ hf_ HI12
              try clear w_
              rename World => w_
              repeat (first | (refine pl_calm rfl rfl (by first | exact wanted_none rfl | (go_simp; done) | rfl) (fun w_ => by first | (go_simp; rfl) | (go_simp; done) | rfl) (fun K hK => ?_); go_simp; refine hK _ _ ?_; clear hK K) | (refine pl_loadB rfl rfl (by first | exact wanted_none rfl | (go_simp; done) | rfl) rfl (by first | rfl | (go_simp; rfl)) (by kernel_rfl) (HCK.out.grow HB.out) HCB.out (fun K hK => ?_); go_simp; refine hK _ _ ?_; clear hK K) | (refine pl_loadbB rfl rfl (by first | exact wanted_none rfl | (go_simp; done) | rfl) rfl row_id (HVR.out.grow HB.out).blk HVR.out.lt (by first | rfl | (go_simp; done) | rfl) HVR.out.len (fun K hK => ?_); go_simp; refine hK _ _ ?_; clear hK K))
              have HX17 := Lib.hid V17.out.at_
              have HG17 := Lib.hid V17.out.base
              clear V17
              refine pl_act rfl (by first | exact wanted_none rfl | (go_simp; done) | rfl) (fun K hK => ?_)
              show wpList _ _ _ [⟨none, .store _ _ _, _, _, _, _⟩] _ _
              go_wp2_with (first | (with_reducible refine wpl_storeb (o := ⟨none, .store _ _ _, _, _, _, _⟩) rfl rfl row_id HX17.out.blk rfl rfl HX17.out.len HZ.out.len HZ.out.one ?_))
              intro w2_ hb2_ hg2_ hsz2_
              have HB_ := Lib.hid (put_below HB.out HG17.out hg2_)
              have HX_ := Lib.hid (at_mk hb2_ HZ.out.len)
              clear hb2_ hg2_ hsz2_ HB HX17
              have HB := HB_
              have HX17 := HX_
              clear HB_ HX_
              try clear w_
              rename World => w_
              go_wp2_with fail
              refine hK _ _ (fun h => by cases h) ?_
              clear hK K
              repeat (first | (refine pl_calm rfl rfl (by first | exact wanted_none rfl | (go_simp; done) | rfl) (fun w_ => by first | (go_simp; rfl) | (go_simp; done) | rfl) (fun K hK => ?_); go_simp; refine hK _ _ ?_; clear hK K) | (refine pl_loadB rfl rfl (by first | exact wanted_none rfl | (go_simp; done) | rfl) rfl (by first | rfl | (go_simp; rfl)) (by kernel_rfl) (HCK.out.grow HB.out) HCB.out (fun K hK => ?_); go_simp; refine hK _ _ ?_; clear hK K) | (refine pl_loadbB rfl rfl (by first | exact wanted_none rfl | (go_simp; done) | rfl) rfl row_id (HVR.out.grow HB.out).blk HVR.out.lt (by first | rfl | (go_simp; done) | rfl) HVR.out.len (fun K hK => ?_); go_simp; refine hK _ _ ?_; clear hK K))
              refine pl_done ?_
              exact HEX.out HB.out
          · skip
            refine pl_act rfl (by exact wanted_none rfl) (fun K hK => ?_)
            show wpList _ _ _ [⟨some _, .alloc _, _, _, _, _⟩] _ _
            go_wp2_with (first | (with_reducible refine wpl_alloc (o := ⟨some 14, _, _, _, _, _⟩) rfl rfl zero_id ?_))
            intro w2_ hb2_ hb_ hsz2_
            have hX_ := vr_mk HB.out.size hb2_ len_id
            have hf_ := hb_.mono HB.out.size
            have FV17 := Lib.hid (fr_row R9.out)
            generalize hg_ : w_.heap.size = g17 at hX_ FV17 ⊢
            refine hK _ _ (fun _ => hf_) ?_
            have V17 := Lib.hid hX_
            clear hK K hX_ hg_ hb2_ hsz2_
            have HB_ := Lib.hid (HB.out.trans hf_)
            have V11_ := Lib.hid (V11.out.grow hb_)
            have R9_ := Lib.hid (R9.out.grow hb_)
            clear HB V11 R9
            have HB := HB_
            have V11 := V11_
            have R9 := R9_
            clear HB_ V11_ R9_
            clear hb_ hf_
            try clear w_
            rename World => w_
            refine pl_act rfl (by exact wanted_none rfl) (fun K hK => ?_)
            have HSL := Lib.hid V11.out.sl
            refine wpl_apps rfl rfl el_id R9.out rfl HSL.out rfl HX.out.one (by omega) (by omega) HB.out.size ?_
            intro A12 c12 w2_ hX_ hg_ hA_
            have hf_ := below_grown (Below.refl _ _) hg_ HB.out.size (own_from R9.out)
            go_wp2_with fail
            refine hK _ _ (fun _ => hf_) ?_
            clear hK K
            have HI12 := Lib.hid (row_ids HI.out HDG.out hX_)
            have HB_ := Lib.hid (HB.out.trans hf_)
            have V17_ := Lib.hid (V17.out.far hg_ FV17.out)
            clear HB V17
            have HB := HB_
            have V17 := V17_
            clear HB_ V17_
            clear hf_ hg_ hA_ HSL hX_ R9 V11 FV11 FV17
            try clear w_
            rename World => w_
            refine pl_act rfl (by exact wanted_none rfl) (fun K hK => ?_)
            go_wp2_with fail
            refine (tclimb_any _ _ _ _ _ _ bk k n (ds ++ [r]) HZ.out _ (HSK.out.grow HB.out) hck (by omega) HI12.out (by omega) (HT.out.grow HB.out)).mono ?_
            rintro e w2_ ⟨rfl, hb_⟩
            rw [HNO.out]
            have hf_ := hb_.mono HB.out.size
            go_wp2_with fail
            refine hK _ _ (fun _ => hf_) ?_
            clear hK K
            have HB_ := Lib.hid (HB.out.trans hf_)
            have V17_ := Lib.hid (V17.out.grow hb_)
            clear HB V17
            have HB := HB_
            have V17 := V17_
            clear HB_ V17_
            clear hb_ hf_ HI12
            try clear w_
            rename World => w_
            repeat (first | (refine pl_calm rfl rfl (by first | exact wanted_none rfl | (go_simp; done) | rfl) (fun w_ => by first | (go_simp; rfl) | (go_simp; done) | rfl) (fun K hK => ?_); go_simp; refine hK _ _ ?_; clear hK K) | (refine pl_loadB rfl rfl (by first | exact wanted_none rfl | (go_simp; done) | rfl) rfl (by first | rfl | (go_simp; rfl)) (by kernel_rfl) (HCK.out.grow HB.out) HCB.out (fun K hK => ?_); go_simp; refine hK _ _ ?_; clear hK K) | (refine pl_loadbB rfl rfl (by first | exact wanted_none rfl | (go_simp; done) | rfl) rfl row_id (HVR.out.grow HB.out).blk HVR.out.lt (by first | rfl | (go_simp; done) | rfl) HVR.out.len (fun K hK => ?_); go_simp; refine hK _ _ ?_; clear hK K))
            have HX17 := Lib.hid V17.out.at_
            have HG17 := Lib.hid V17.out.base
            clear V17
            refine pl_act rfl (by first | exact wanted_none rfl | (go_simp; done) | rfl) (fun K hK => ?_)
            show wpList _ _ _ [⟨none, .store _ _ _, _, _, _, _⟩] _ _
            go_wp2_with (first | (with_reducible refine wpl_storeb (o := ⟨none, .store _ _ _, _, _, _, _⟩) rfl rfl row_id HX17.out.blk rfl rfl HX17.out.len HZ.out.len HZ.out.one ?_))
            intro w2_ hb2_ hg2_ hsz2_
            have HB_ := Lib.hid (put_below HB.out HG17.out hg2_)
            have HX_ := Lib.hid (at_mk hb2_ HZ.out.len)
            clear hb2_ hg2_ hsz2_ HB HX17
            have HB := HB_
            have HX17 := HX_
            clear HB_ HX_
            try clear w_
            rename World => w_
            go_wp2_with fail
            refine hK _ _ (fun h => by cases h) ?_
            clear hK K
            repeat (first | (refine pl_calm rfl rfl (by first | exact wanted_none rfl | (go_simp; done) | rfl) (fun w_ => by first | (go_simp; rfl) | (go_simp; done) | rfl) (fun K hK => ?_); go_simp; refine hK _ _ ?_; clear hK K) | (refine pl_loadB rfl rfl (by first | exact wanted_none rfl | (go_simp; done) | rfl) rfl (by first | rfl | (go_simp; rfl)) (by kernel_rfl) (HCK.out.grow HB.out) HCB.out (fun K hK => ?_); go_simp; refine hK _ _ ?_; clear hK K) | (refine pl_loadbB rfl rfl (by first | exact wanted_none rfl | (go_simp; done) | rfl) rfl row_id (HVR.out.grow HB.out).blk HVR.out.lt (by first | rfl | (go_simp; done) | rfl) HVR.out.len (fun K hK => ?_); go_simp; refine hK _ _ ?_; clear hK K))
            refine pl_done ?_
            exact HEX.out HB.out
        · skip
          refine pl_act rfl (by exact wanted_none rfl) (fun K hK => ?_)
          show wpList _ _ _ [⟨some _, .alloc _, _, _, _, _⟩] _ _
          go_wp2_with (first | (with_reducible refine wpl_alloc (o := ⟨some 14, _, _, _, _, _⟩) rfl rfl zero_id ?_))
          intro w2_ hb2_ hb_ hsz2_
          have hX_ := vr_mk HB.out.size hb2_ len_id
          have hf_ := hb_.mono HB.out.size
          have FV17 := Lib.hid (fr_row R7.out)
          generalize hg_ : w_.heap.size = g17 at hX_ FV17 ⊢
          refine hK _ _ (fun _ => hf_) ?_
          have V17 := Lib.hid hX_
          clear hK K hX_ hg_ hb2_ hsz2_
          have HB_ := Lib.hid (HB.out.trans hf_)
          have V11_ := Lib.hid (V11.out.grow hb_)
          have R7_ := Lib.hid (R7.out.grow hb_)
          clear HB V11 R7
          have HB := HB_
          have V11 := V11_
          have R7 := R7_
          clear HB_ V11_ R7_
          clear hb_ hf_
          try clear w_
          rename World => w_
          refine pl_act rfl (by exact wanted_none rfl) (fun K hK => ?_)
          have HSL := Lib.hid (HI.out.grow HB.out).1
          refine wpl_apps rfl rfl el_id R7.out rfl HSL.out rfl HONE.out (by omega) (by omega) HB.out.size ?_
          intro A9 c9 w2_ hX_ hg_ hA_
          try simp only [Nat.zero_add]
          have hf_ := below_grown (Below.refl _ _) hg_ HB.out.size (own_from R7.out)
          go_wp2_with fail
          refine hK _ _ (fun _ => hf_) ?_
          clear hK K
          have R9 := Lib.hid (row_r9 hX_)
          have NV11 := Lib.hid (fr_step hA_ FV11.out V11.out.lt)
          have NV17 := Lib.hid (fr_step hA_ FV17.out V17.out.lt)
          have HB_ := Lib.hid (HB.out.trans hf_)
          have V11_ := Lib.hid (V11.out.far hg_ FV11.out)
          have V17_ := Lib.hid (V17.out.far hg_ FV17.out)
          clear HB V11 V17
          have HB := HB_
          have V11 := V11_
          have V17 := V17_
          clear HB_ V11_ V17_
          clear hf_ hg_ hA_ HSL hX_ R7 FV11 FV17
          have FV11 := NV11
          clear NV11
          have FV17 := NV17
          clear NV17
          try clear w_
          rename World => w_
          refine pl_act rfl (by exact wanted_none rfl) (fun K hK => ?_)
          have HSL := Lib.hid V11.out.sl
          refine wpl_apps rfl rfl el_id R9.out rfl HSL.out rfl HX.out.one (by omega) (by omega) HB.out.size ?_
          intro A12 c12 w2_ hX_ hg_ hA_
          have hf_ := below_grown (Below.refl _ _) hg_ HB.out.size (own_from R9.out)
          go_wp2_with fail
          refine hK _ _ (fun _ => hf_) ?_
          clear hK K
          have HI12 := Lib.hid (row_ids HI.out HDG.out hX_)
          have HB_ := Lib.hid (HB.out.trans hf_)
          have V17_ := Lib.hid (V17.out.far hg_ FV17.out)
          clear HB V17
          have HB := HB_
          have V17 := V17_
          clear HB_ V17_
          clear hf_ hg_ hA_ HSL hX_ R9 V11 FV11 FV17
          try clear w_
          rename World => w_
          refine pl_act rfl (by exact wanted_none rfl) (fun K hK => ?_)
          go_wp2_with fail
          refine (tclimb_any _ _ _ _ _ _ bk k n (ds ++ [r]) HZ.out _ (HSK.out.grow HB.out) hck (by omega) HI12.out (by omega) (HT.out.grow HB.out)).mono ?_
          rintro e w2_ ⟨rfl, hb_⟩
          rw [HNO.out]
          have hf_ := hb_.mono HB.out.size
          go_wp2_with fail
          refine hK _ _ (fun _ => hf_) ?_
          clear hK K
          have HB_ := Lib.hid (HB.out.trans hf_)
          have V17_ := Lib.hid (V17.out.grow hb_)
          clear HB V17
          have HB := HB_
          have V17 := V17_
          clear HB_ V17_
          clear hb_ hf_ HI12
          try clear w_
          rename World => w_
          repeat (first | (refine pl_calm rfl rfl (by first | exact wanted_none rfl | (go_simp; done) | rfl) (fun w_ => by first | (go_simp; rfl) | (go_simp; done) | rfl) (fun K hK => ?_); go_simp; refine hK _ _ ?_; clear hK K) | (refine pl_loadB rfl rfl (by first | exact wanted_none rfl | (go_simp; done) | rfl) rfl (by first | rfl | (go_simp; rfl)) (by kernel_rfl) (HCK.out.grow HB.out) HCB.out (fun K hK => ?_); go_simp; refine hK _ _ ?_; clear hK K) | (refine pl_loadbB rfl rfl (by first | exact wanted_none rfl | (go_simp; done) | rfl) rfl row_id (HVR.out.grow HB.out).blk HVR.out.lt (by first | rfl | (go_simp; done) | rfl) HVR.out.len (fun K hK => ?_); go_simp; refine hK _ _ ?_; clear hK K))
          have HX17 := Lib.hid V17.out.at_
          have HG17 := Lib.hid V17.out.base
          clear V17
          refine pl_act rfl (by first | exact wanted_none rfl | (go_simp; done) | rfl) (fun K hK => ?_)
          show wpList _ _ _ [⟨none, .store _ _ _, _, _, _, _⟩] _ _
          go_wp2_with (first | (with_reducible refine wpl_storeb (o := ⟨none, .store _ _ _, _, _, _, _⟩) rfl rfl row_id HX17.out.blk rfl rfl HX17.out.len HZ.out.len HZ.out.one ?_))
          intro w2_ hb2_ hg2_ hsz2_
          have HB_ := Lib.hid (put_below HB.out HG17.out hg2_)
          have HX_ := Lib.hid (at_mk hb2_ HZ.out.len)
          clear hb2_ hg2_ hsz2_ HB HX17
          have HB := HB_
          have HX17 := HX_
          clear HB_ HX_
          try clear w_
          rename World => w_
          go_wp2_with fail
          refine hK _ _ (fun h => by cases h) ?_
          clear hK K
          repeat (first | (refine pl_calm rfl rfl (by first | exact wanted_none rfl | (go_simp; done) | rfl) (fun w_ => by first | (go_simp; rfl) | (go_simp; done) | rfl) (fun K hK => ?_); go_simp; refine hK _ _ ?_; clear hK K) | (refine pl_loadB rfl rfl (by first | exact wanted_none rfl | (go_simp; done) | rfl) rfl (by first | rfl | (go_simp; rfl)) (by kernel_rfl) (HCK.out.grow HB.out) HCB.out (fun K hK => ?_); go_simp; refine hK _ _ ?_; clear hK K) | (refine pl_loadbB rfl rfl (by first | exact wanted_none rfl | (go_simp; done) | rfl) rfl row_id (HVR.out.grow HB.out).blk HVR.out.lt (by first | rfl | (go_simp; done) | rfl) HVR.out.len (fun K hK => ?_); go_simp; refine hK _ _ ?_; clear hK K))
          refine pl_done ?_
          exact HEX.out HB.out
      · skip
        refine pl_act rfl (by exact wanted_none rfl) (fun K hK => ?_)
        show wpList _ _ _ [⟨some _, .alloc _, _, _, _, _⟩] _ _
        go_wp2_with (first | (with_reducible refine wpl_alloc (o := ⟨some 14, _, _, _, _, _⟩) rfl rfl zero_id ?_))
        intro w2_ hb2_ hb_ hsz2_
        have hX_ := vr_mk HB.out.size hb2_ len_id
        have hf_ := hb_.mono HB.out.size
        have FV17 := Lib.hid (fr_row R7.out)
        generalize hg_ : w_.heap.size = g17 at hX_ FV17 ⊢
        refine hK _ _ (fun _ => hf_) ?_
        have V17 := Lib.hid hX_
        clear hK K hX_ hg_ hb2_ hsz2_
        have HB_ := Lib.hid (HB.out.trans hf_)
        have R7_ := Lib.hid (R7.out.grow hb_)
        clear HB R7
        have HB := HB_
        have R7 := R7_
        clear HB_ R7_
        clear hb_ hf_
        try clear w_
        rename World => w_
        refine pl_fork rfl (by exact wanted_none rfl) (fun K hK => ?_) ?_
        · skip
          have HSL := Lib.hid (HI.out.grow HB.out).1
          refine wpl_apps rfl rfl el_id R7.out rfl HSL.out rfl HONE.out (by omega) (by omega) HB.out.size ?_
          intro A9 c9 w2_ hX_ hg_ hA_
          try simp only [Nat.zero_add]
          have hf_ := below_grown (Below.refl _ _) hg_ HB.out.size (own_from R7.out)
          go_wp2_with fail
          refine hK _ _ (fun _ => hf_) ?_
          clear hK K
          have R9 := Lib.hid (row_r9 hX_)
          have NV17 := Lib.hid (fr_step hA_ FV17.out V17.out.lt)
          have HB_ := Lib.hid (HB.out.trans hf_)
          have V17_ := Lib.hid (V17.out.far hg_ FV17.out)
          clear HB V17
          have HB := HB_
          have V17 := V17_
          clear HB_ V17_
          clear hf_ hg_ hA_ HSL hX_ R7 FV17
          have FV17 := NV17
          clear NV17
          try clear w_
          rename World => w_
          refine pl_act rfl (by exact wanted_none rfl) (fun K hK => ?_)
          have hysl := HX.out.len
          go_wp2_with fail
          generalize hw_ : World.alloc w_ _ = w2_
          clear hysl
          obtain ⟨hY_, hb_, hs_⟩ := alloc_eq hw_
          have hX_ := vr_mk HB.out.size (by have h := hY_; rw [fold_set _ xs (by rw [HX.out.len]; rfl)] at h; exact h) HX.out.len
          have hf_ := hb_.mono HB.out.size
          have FV11 := Lib.hid (fr_row R9.out)
          generalize hg_ : w_.heap.size = g11 at hX_ FV11 ⊢
          refine hK _ _ (fun _ => hf_) ?_
          have V11 := Lib.hid hX_
          clear hK K hX_ hg_ hw_ hY_ hs_
          have HB_ := Lib.hid (HB.out.trans hf_)
          have V17_ := Lib.hid (V17.out.grow hb_)
          have R9_ := Lib.hid (R9.out.grow hb_)
          clear HB V17 R9
          have HB := HB_
          have V17 := V17_
          have R9 := R9_
          clear HB_ V17_ R9_
          clear hb_ hf_
          try clear w_
          rename World => w_
          refine pl_act rfl (by exact wanted_none rfl) (fun K hK => ?_)
          have HSL := Lib.hid V11.out.sl
          refine wpl_apps rfl rfl el_id R9.out rfl HSL.out rfl HX.out.one (by omega) (by omega) HB.out.size ?_
          intro A12 c12 w2_ hX_ hg_ hA_
          have hf_ := below_grown (Below.refl _ _) hg_ HB.out.size (own_from R9.out)
          go_wp2_with fail
          refine hK _ _ (fun _ => hf_) ?_
          clear hK K
          have HI12 := Lib.hid (row_ids HI.out HDG.out hX_)
          have HB_ := Lib.hid (HB.out.trans hf_)
          have V17_ := Lib.hid (V17.out.far hg_ FV17.out)
          clear HB V17
          have HB := HB_
          have V17 := V17_
          clear HB_ V17_
          clear hf_ hg_ hA_ HSL hX_ R9 V11 FV11 FV17
          try clear w_
          rename World => w_
          refine pl_act rfl (by exact wanted_none rfl) (fun K hK => ?_)
          go_wp2_with fail
          refine (tclimb_any _ _ _ _ _ _ bk k n (ds ++ [r]) HZ.out _ (HSK.out.grow HB.out) hck (by omega) HI12.out (by omega) (HT.out.grow HB.out)).mono ?_
          rintro e w2_ ⟨rfl, hb_⟩
          rw [HNO.out]
          have hf_ := hb_.mono HB.out.size
          go_wp2_with fail
          refine hK _ _ (fun _ => hf_) ?_
          clear hK K
          have HB_ := Lib.hid (HB.out.trans hf_)
          have V17_ := Lib.hid (V17.out.grow hb_)
          clear HB V17
          have HB := HB_
          have V17 := V17_
          clear HB_ V17_
          clear hb_ hf_ HI12
          try clear w_
          rename World => w_
          repeat (first | (refine pl_calm rfl rfl (by first | exact wanted_none rfl | (go_simp; done) | rfl) (fun w_ => by first | (go_simp; rfl) | (go_simp; done) | rfl) (fun K hK => ?_); go_simp; refine hK _ _ ?_; clear hK K) | (refine pl_loadB rfl rfl (by first | exact wanted_none rfl | (go_simp; done) | rfl) rfl (by first | rfl | (go_simp; rfl)) (by kernel_rfl) (HCK.out.grow HB.out) HCB.out (fun K hK => ?_); go_simp; refine hK _ _ ?_; clear hK K) | (refine pl_loadbB rfl rfl (by first | exact wanted_none rfl | (go_simp; done) | rfl) rfl row_id (HVR.out.grow HB.out).blk HVR.out.lt (by first | rfl | (go_simp; done) | rfl) HVR.out.len (fun K hK => ?_); go_simp; refine hK _ _ ?_; clear hK K))
          have HX17 := Lib.hid V17.out.at_
          have HG17 := Lib.hid V17.out.base
          clear V17
          refine pl_act rfl (by first | exact wanted_none rfl | (go_simp; done) | rfl) (fun K hK => ?_)
          show wpList _ _ _ [⟨none, .store _ _ _, _, _, _, _⟩] _ _
          go_wp2_with (first | (with_reducible refine wpl_storeb (o := ⟨none, .store _ _ _, _, _, _, _⟩) rfl rfl row_id HX17.out.blk rfl rfl HX17.out.len HZ.out.len HZ.out.one ?_))
          intro w2_ hb2_ hg2_ hsz2_
          have HB_ := Lib.hid (put_below HB.out HG17.out hg2_)
          have HX_ := Lib.hid (at_mk hb2_ HZ.out.len)
          clear hb2_ hg2_ hsz2_ HB HX17
          have HB := HB_
          have HX17 := HX_
          clear HB_ HX_
          try clear w_
          rename World => w_
          go_wp2_with fail
          refine hK _ _ (fun h => by cases h) ?_
          clear hK K
          repeat (first | (refine pl_calm rfl rfl (by first | exact wanted_none rfl | (go_simp; done) | rfl) (fun w_ => by first | (go_simp; rfl) | (go_simp; done) | rfl) (fun K hK => ?_); go_simp; refine hK _ _ ?_; clear hK K) | (refine pl_loadB rfl rfl (by first | exact wanted_none rfl | (go_simp; done) | rfl) rfl (by first | rfl | (go_simp; rfl)) (by kernel_rfl) (HCK.out.grow HB.out) HCB.out (fun K hK => ?_); go_simp; refine hK _ _ ?_; clear hK K) | (refine pl_loadbB rfl rfl (by first | exact wanted_none rfl | (go_simp; done) | rfl) rfl row_id (HVR.out.grow HB.out).blk HVR.out.lt (by first | rfl | (go_simp; done) | rfl) HVR.out.len (fun K hK => ?_); go_simp; refine hK _ _ ?_; clear hK K))
          refine pl_done ?_
          exact HEX.out HB.out
        · skip
          refine pl_act rfl (by exact wanted_none rfl) (fun K hK => ?_)
          have hysl := HX.out.len
          go_wp2_with fail
          generalize hw_ : World.alloc w_ _ = w2_
          clear hysl
          obtain ⟨hY_, hb_, hs_⟩ := alloc_eq hw_
          have hX_ := vr_mk HB.out.size (by have h := hY_; rw [fold_set _ xs (by rw [HX.out.len]; rfl)] at h; exact h) HX.out.len
          have hf_ := hb_.mono HB.out.size
          have FV11 := Lib.hid (fr_row R7.out)
          generalize hg_ : w_.heap.size = g11 at hX_ FV11 ⊢
          refine hK _ _ (fun _ => hf_) ?_
          have V11 := Lib.hid hX_
          clear hK K hX_ hg_ hw_ hY_ hs_
          have HB_ := Lib.hid (HB.out.trans hf_)
          have V17_ := Lib.hid (V17.out.grow hb_)
          have R7_ := Lib.hid (R7.out.grow hb_)
          clear HB V17 R7
          have HB := HB_
          have V17 := V17_
          have R7 := R7_
          clear HB_ V17_ R7_
          clear hb_ hf_
          try clear w_
          rename World => w_
          refine pl_act rfl (by exact wanted_none rfl) (fun K hK => ?_)
          have HSL := Lib.hid (HI.out.grow HB.out).1
          refine wpl_apps rfl rfl el_id R7.out rfl HSL.out rfl HONE.out (by omega) (by omega) HB.out.size ?_
          intro A9 c9 w2_ hX_ hg_ hA_
          try simp only [Nat.zero_add]
          have hf_ := below_grown (Below.refl _ _) hg_ HB.out.size (own_from R7.out)
          go_wp2_with fail
          refine hK _ _ (fun _ => hf_) ?_
          clear hK K
          have R9 := Lib.hid (row_r9 hX_)
          have NV11 := Lib.hid (fr_step hA_ FV11.out V11.out.lt)
          have NV17 := Lib.hid (fr_step hA_ FV17.out V17.out.lt)
          have HB_ := Lib.hid (HB.out.trans hf_)
          have V11_ := Lib.hid (V11.out.far hg_ FV11.out)
          have V17_ := Lib.hid (V17.out.far hg_ FV17.out)
          clear HB V11 V17
          have HB := HB_
          have V11 := V11_
          have V17 := V17_
          clear HB_ V11_ V17_
          clear hf_ hg_ hA_ HSL hX_ R7 FV11 FV17
          have FV11 := NV11
          clear NV11
          have FV17 := NV17
          clear NV17
          try clear w_
          rename World => w_
          refine pl_act rfl (by exact wanted_none rfl) (fun K hK => ?_)
          have HSL := Lib.hid V11.out.sl
          refine wpl_apps rfl rfl el_id R9.out rfl HSL.out rfl HX.out.one (by omega) (by omega) HB.out.size ?_
          intro A12 c12 w2_ hX_ hg_ hA_
          have hf_ := below_grown (Below.refl _ _) hg_ HB.out.size (own_from R9.out)
          go_wp2_with fail
          refine hK _ _ (fun _ => hf_) ?_
          clear hK K
          have HI12 := Lib.hid (row_ids HI.out HDG.out hX_)
          have HB_ := Lib.hid (HB.out.trans hf_)
          have V17_ := Lib.hid (V17.out.far hg_ FV17.out)
          clear HB V17
          have HB := HB_
          have V17 := V17_
          clear HB_ V17_
          clear hf_ hg_ hA_ HSL hX_ R9 V11 FV11 FV17
          try clear w_
          rename World => w_
          refine pl_act rfl (by exact wanted_none rfl) (fun K hK => ?_)
          go_wp2_with fail
          refine (tclimb_any _ _ _ _ _ _ bk k n (ds ++ [r]) HZ.out _ (HSK.out.grow HB.out) hck (by omega) HI12.out (by omega) (HT.out.grow HB.out)).mono ?_
          rintro e w2_ ⟨rfl, hb_⟩
          rw [HNO.out]
          have hf_ := hb_.mono HB.out.size
          go_wp2_with fail
          refine hK _ _ (fun _ => hf_) ?_
          clear hK K
          have HB_ := Lib.hid (HB.out.trans hf_)
          have V17_ := Lib.hid (V17.out.grow hb_)
          clear HB V17
          have HB := HB_
          have V17 := V17_
          clear HB_ V17_
          clear hb_ hf_ HI12
          try clear w_
          rename World => w_
          repeat (first | (refine pl_calm rfl rfl (by first | exact wanted_none rfl | (go_simp; done) | rfl) (fun w_ => by first | (go_simp; rfl) | (go_simp; done) | rfl) (fun K hK => ?_); go_simp; refine hK _ _ ?_; clear hK K) | (refine pl_loadB rfl rfl (by first | exact wanted_none rfl | (go_simp; done) | rfl) rfl (by first | rfl | (go_simp; rfl)) (by kernel_rfl) (HCK.out.grow HB.out) HCB.out (fun K hK => ?_); go_simp; refine hK _ _ ?_; clear hK K) | (refine pl_loadbB rfl rfl (by first | exact wanted_none rfl | (go_simp; done) | rfl) rfl row_id (HVR.out.grow HB.out).blk HVR.out.lt (by first | rfl | (go_simp; done) | rfl) HVR.out.len (fun K hK => ?_); go_simp; refine hK _ _ ?_; clear hK K))
          have HX17 := Lib.hid V17.out.at_
          have HG17 := Lib.hid V17.out.base
          clear V17
          refine pl_act rfl (by first | exact wanted_none rfl | (go_simp; done) | rfl) (fun K hK => ?_)
          show wpList _ _ _ [⟨none, .store _ _ _, _, _, _, _⟩] _ _
          go_wp2_with (first | (with_reducible refine wpl_storeb (o := ⟨none, .store _ _ _, _, _, _, _⟩) rfl rfl row_id HX17.out.blk rfl rfl HX17.out.len HZ.out.len HZ.out.one ?_))
          intro w2_ hb2_ hg2_ hsz2_
          have HB_ := Lib.hid (put_below HB.out HG17.out hg2_)
          have HX_ := Lib.hid (at_mk hb2_ HZ.out.len)
          clear hb2_ hg2_ hsz2_ HB HX17
          have HB := HB_
          have HX17 := HX_
          clear HB_ HX_
          try clear w_
          rename World => w_
          go_wp2_with fail
          refine hK _ _ (fun h => by cases h) ?_
          clear hK K
          repeat (first | (refine pl_calm rfl rfl (by first | exact wanted_none rfl | (go_simp; done) | rfl) (fun w_ => by first | (go_simp; rfl) | (go_simp; done) | rfl) (fun K hK => ?_); go_simp; refine hK _ _ ?_; clear hK K) | (refine pl_loadB rfl rfl (by first | exact wanted_none rfl | (go_simp; done) | rfl) rfl (by first | rfl | (go_simp; rfl)) (by kernel_rfl) (HCK.out.grow HB.out) HCB.out (fun K hK => ?_); go_simp; refine hK _ _ ?_; clear hK K) | (refine pl_loadbB rfl rfl (by first | exact wanted_none rfl | (go_simp; done) | rfl) rfl row_id (HVR.out.grow HB.out).blk HVR.out.lt (by first | rfl | (go_simp; done) | rfl) HVR.out.len (fun K hK => ?_); go_simp; refine hK _ _ ?_; clear hK K))
          refine pl_done ?_
          exact HEX.out HB.out
  · skip
    refine pl_fork rfl (by exact wanted_none rfl) (fun K hK => ?_) ?_
    · skip
      have hysl := HX.out.len
      go_wp2_with fail
      generalize hw_ : World.alloc w_ _ = w2_
      clear hysl
      obtain ⟨hY_, hb_, hs_⟩ := alloc_eq hw_
      have hX_ := vr_mk HB.out.size (by have h := hY_; rw [fold_set _ xs (by rw [HX.out.len]; rfl)] at h; exact h) HX.out.len
      have hf_ := hb_.mono HB.out.size
      generalize hg_ : w_.heap.size = g11 at hX_ ⊢
      refine hK _ _ (fun _ => hf_) ?_
      have V11 := Lib.hid hX_
      clear hK K hX_ hg_ hw_ hY_ hs_
      have HB_ := Lib.hid (HB.out.trans hf_)
      clear HB
      have HB := HB_
      clear HB_
      clear hb_ hf_
      try clear w_
      rename World => w_
      refine pl_fork rfl (by exact wanted_none rfl) (fun K hK => ?_) ?_
      · skip
        go_wp2_with fail
        generalize hw_ : World.alloc w_ _ = w2_
        obtain ⟨hX_, hb_⟩ := row_eq HB.out.size hw_
        have hf_ := hb_.mono HB.out.size
        have FV11 := Lib.hid (fr_new V11.out.lt)
        generalize hg_ : w_.heap.size = g7 at hX_ FV11 ⊢
        refine hK _ _ (fun _ => hf_) ?_
        have R7 := Lib.hid hX_
        clear hK K hX_ hg_ hw_
        have HB_ := Lib.hid (HB.out.trans hf_)
        have V11_ := Lib.hid (V11.out.grow hb_)
        clear HB V11
        have HB := HB_
        have V11 := V11_
        clear HB_ V11_
        clear hb_ hf_
        try clear w_
        rename World => w_
        refine pl_fork rfl (by exact wanted_none rfl) (fun K hK => ?_) ?_
        · skip
          have HSL := Lib.hid (HI.out.grow HB.out).1
          refine wpl_apps rfl rfl el_id R7.out rfl HSL.out rfl HONE.out (by omega) (by omega) HB.out.size ?_
          intro A9 c9 w2_ hX_ hg_ hA_
          try simp only [Nat.zero_add]
          have hf_ := below_grown (Below.refl _ _) hg_ HB.out.size (own_from R7.out)
          go_wp2_with fail
          refine hK _ _ (fun _ => hf_) ?_
          clear hK K
          have R9 := Lib.hid (row_r9 hX_)
          have NV11 := Lib.hid (fr_step hA_ FV11.out V11.out.lt)
          have HB_ := Lib.hid (HB.out.trans hf_)
          have V11_ := Lib.hid (V11.out.far hg_ FV11.out)
          clear HB V11
          have HB := HB_
          have V11 := V11_
          clear HB_ V11_
          clear hf_ hg_ hA_ HSL hX_ R7 FV11
          have FV11 := NV11
          clear NV11
          try clear w_
          rename World => w_
          refine pl_fork rfl (by exact wanted_none rfl) (fun K hK => ?_) ?_
          · skip
            have HSL := Lib.hid V11.out.sl
            refine wpl_apps rfl rfl el_id R9.out rfl HSL.out rfl HX.out.one (by omega) (by omega) HB.out.size ?_
            intro A12 c12 w2_ hX_ hg_ hA_
            have hf_ := below_grown (Below.refl _ _) hg_ HB.out.size (own_from R9.out)
            go_wp2_with fail
            refine hK _ _ (fun _ => hf_) ?_
            clear hK K
            have HI12 := Lib.hid (row_ids HI.out HDG.out hX_)
            have HB_ := Lib.hid (HB.out.trans hf_)
            clear HB
            have HB := HB_
            clear HB_
            clear hf_ hg_ hA_ HSL hX_ R9 V11 FV11
            try clear w_
            rename World => w_
            refine pl_fork rfl (by exact wanted_none rfl) (fun K hK => ?_) ?_
            · skip
              go_wp2_with fail
              refine (tclimb_any _ _ _ _ _ _ bk k n (ds ++ [r]) HZ.out _ (HSK.out.grow HB.out) hck (by omega) HI12.out (by omega) (HT.out.grow HB.out)).mono ?_
              rintro e w2_ ⟨rfl, hb_⟩
              rw [HNO.out]
              have hf_ := hb_.mono HB.out.size
              go_wp2_with fail
              refine hK _ _ (fun _ => hf_) ?_
              clear hK K
              have HB_ := Lib.hid (HB.out.trans hf_)
              clear HB
              have HB := HB_
              clear HB_
              clear hb_ hf_ HI12
              try clear w_
              rename World => w_
              repeat (first | (refine pl_calm rfl rfl (by first | exact wanted_none rfl | (go_simp; done) | rfl) (fun w_ => by first | (go_simp; rfl) | (go_simp; done) | rfl) (fun K hK => ?_); go_simp; refine hK _ _ ?_; clear hK K) | (refine pl_loadB rfl rfl (by first | exact wanted_none rfl | (go_simp; done) | rfl) rfl (by first | rfl | (go_simp; rfl)) (by kernel_rfl) (HCK.out.grow HB.out) HCB.out (fun K hK => ?_); go_simp; refine hK _ _ ?_; clear hK K) | (refine pl_loadbB rfl rfl (by first | exact wanted_none rfl | (go_simp; done) | rfl) rfl row_id (HVR.out.grow HB.out).blk HVR.out.lt (by first | rfl | (go_simp; done) | rfl) HVR.out.len (fun K hK => ?_); go_simp; refine hK _ _ ?_; clear hK K))
              refine pl_act rfl (by exact wanted_none rfl) (fun K hK => ?_)
              show wpList _ _ _ [⟨some _, .alloc _, _, _, _, _⟩] _ _
              go_wp2_with (first | (with_reducible refine wpl_alloc (o := ⟨some 14, _, _, _, _, _⟩) rfl rfl zero_id ?_))
              intro w2_ hb2_ hb_ hsz2_
              have hX_ := vr_mk HB.out.size hb2_ len_id
              have hf_ := hb_.mono HB.out.size
              generalize hg_ : w_.heap.size = g17 at hX_ ⊢
              refine hK _ _ (fun _ => hf_) ?_
              have V17 := Lib.hid hX_
              clear hK K hX_ hg_ hb2_ hsz2_
              have HB_ := Lib.hid (HB.out.trans hf_)
              clear HB
              have HB := HB_
              clear HB_
              clear hb_ hf_
              try clear w_
              rename World => w_
              have HX17 := Lib.hid V17.out.at_
              have HG17 := Lib.hid V17.out.base
              clear V17
              refine pl_act rfl (by first | exact wanted_none rfl | (go_simp; done) | rfl) (fun K hK => ?_)
              show wpList _ _ _ [⟨none, .store _ _ _, _, _, _, _⟩] _ _
              go_wp2_with (first | (with_reducible refine wpl_storeb (o := ⟨none, .store _ _ _, _, _, _, _⟩) rfl rfl row_id HX17.out.blk rfl rfl HX17.out.len HZ.out.len HZ.out.one ?_))
              intro w2_ hb2_ hg2_ hsz2_
              have HB_ := Lib.hid (put_below HB.out HG17.out hg2_)
              have HX_ := Lib.hid (at_mk hb2_ HZ.out.len)
              clear hb2_ hg2_ hsz2_ HB HX17
              have HB := HB_
              have HX17 := HX_
              clear HB_ HX_
              try clear w_
              rename World => w_
              go_wp2_with fail
              refine hK _ _ (fun h => by cases h) ?_
              clear hK K
              repeat (first | (refine pl_calm rfl rfl (by first | exact wanted_none rfl | (go_simp; done) | rfl) (fun w_ => by first | (go_simp; rfl) | (go_simp; done) | rfl) (fun K hK => ?_); go_simp; refine hK _ _ ?_; clear hK K) | (refine pl_loadB rfl rfl (by first | exact wanted_none rfl | (go_simp; done) | rfl) rfl (by first | rfl | (go_simp; rfl)) (by kernel_rfl) (HCK.out.grow HB.out) HCB.out (fun K hK => ?_); go_simp; refine hK _ _ ?_; clear hK K) | (refine pl_loadbB rfl rfl (by first | exact wanted_none rfl | (go_simp; done) | rfl) rfl row_id (HVR.out.grow HB.out).blk HVR.out.lt (by first | rfl | (go_simp; done) | rfl) HVR.out.len (fun K hK => ?_); go_simp; refine hK _ _ ?_; clear hK K))
              refine pl_done ?_
              exact HEX.out HB.out
            · skip
              refine pl_act rfl (by exact wanted_none rfl) (fun K hK => ?_)
              show wpList _ _ _ [⟨some _, .alloc _, _, _, _, _⟩] _ _
              go_wp2_with (first | (with_reducible refine wpl_alloc (o := ⟨some 14, _, _, _, _, _⟩) rfl rfl zero_id ?_))
              intro w2_ hb2_ hb_ hsz2_
              have hX_ := vr_mk HB.out.size hb2_ len_id
              have hf_ := hb_.mono HB.out.size
              generalize hg_ : w_.heap.size = g17 at hX_ ⊢
              refine hK _ _ (fun _ => hf_) ?_
              have V17 := Lib.hid hX_
              clear hK K hX_ hg_ hb2_ hsz2_
              have HB_ := Lib.hid (HB.out.trans hf_)
              have HI12_ := Lib.hid (HI12.out.grow hb_)
              clear HB HI12
              have HB := HB_
              have HI12 := HI12_
              clear HB_ HI12_
              clear hb_ hf_
              try clear w_
              rename World => w_
              refine pl_act rfl (by exact wanted_none rfl) (fun K hK => ?_)
              go_wp2_with fail
              refine (tclimb_any _ _ _ _ _ _ bk k n (ds ++ [r]) HZ.out _ (HSK.out.grow HB.out) hck (by omega) HI12.out (by omega) (HT.out.grow HB.out)).mono ?_
              rintro e w2_ ⟨rfl, hb_⟩
              rw [HNO.out]
              have hf_ := hb_.mono HB.out.size
              go_wp2_with fail
              refine hK _ _ (fun _ => hf_) ?_
              clear hK K
              have HB_ := Lib.hid (HB.out.trans hf_)
              have V17_ := Lib.hid (V17.out.grow hb_)
              clear HB V17
              have HB := HB_
              have V17 := V17_
              clear HB_ V17_
              clear hb_ hf_ HI12
              try clear w_
              rename World => w_
              repeat (first | (refine pl_calm rfl rfl (by first | exact wanted_none rfl | (go_simp; done) | rfl) (fun w_ => by first | (go_simp; rfl) | (go_simp; done) | rfl) (fun K hK => ?_); go_simp; refine hK _ _ ?_; clear hK K) | (refine pl_loadB rfl rfl (by first | exact wanted_none rfl | (go_simp; done) | rfl) rfl (by first | rfl | (go_simp; rfl)) (by kernel_rfl) (HCK.out.grow HB.out) HCB.out (fun K hK => ?_); go_simp; refine hK _ _ ?_; clear hK K) | (refine pl_loadbB rfl rfl (by first | exact wanted_none rfl | (go_simp; done) | rfl) rfl row_id (HVR.out.grow HB.out).blk HVR.out.lt (by first | rfl | (go_simp; done) | rfl) HVR.out.len (fun K hK => ?_); go_simp; refine hK _ _ ?_; clear hK K))
              have HX17 := Lib.hid V17.out.at_
              have HG17 := Lib.hid V17.out.base
              clear V17
              refine pl_act rfl (by first | exact wanted_none rfl | (go_simp; done) | rfl) (fun K hK => ?_)
              show wpList _ _ _ [⟨none, .store _ _ _, _, _, _, _⟩] _ _
              go_wp2_with (first | (with_reducible refine wpl_storeb (o := ⟨none, .store _ _ _, _, _, _, _⟩) rfl rfl row_id HX17.out.blk rfl rfl HX17.out.len HZ.out.len HZ.out.one ?_))
              intro w2_ hb2_ hg2_ hsz2_
              have HB_ := Lib.hid (put_below HB.out HG17.out hg2_)
              have HX_ := Lib.hid (at_mk hb2_ HZ.out.len)
              clear hb2_ hg2_ hsz2_ HB HX17
              have HB := HB_
              have HX17 := HX_
              clear HB_ HX_
              try clear w_
              rename World => w_
              go_wp2_with fail
              refine hK _ _ (fun h => by cases h) ?_
              clear hK K
              repeat (first | (refine pl_calm rfl rfl (by first | exact wanted_none rfl | (go_simp; done) | rfl) (fun w_ => by first | (go_simp; rfl) | (go_simp; done) | rfl) (fun K hK => ?_); go_simp; refine hK _ _ ?_; clear hK K) | (refine pl_loadB rfl rfl (by first | exact wanted_none rfl | (go_simp; done) | rfl) rfl (by first | rfl | (go_simp; rfl)) (by kernel_rfl) (HCK.out.grow HB.out) HCB.out (fun K hK => ?_); go_simp; refine hK _ _ ?_; clear hK K) | (refine pl_loadbB rfl rfl (by first | exact wanted_none rfl | (go_simp; done) | rfl) rfl row_id (HVR.out.grow HB.out).blk HVR.out.lt (by first | rfl | (go_simp; done) | rfl) HVR.out.len (fun K hK => ?_); go_simp; refine hK _ _ ?_; clear hK K))
              refine pl_done ?_
              exact HEX.out HB.out
          · skip
            refine pl_act rfl (by exact wanted_none rfl) (fun K hK => ?_)
            show wpList _ _ _ [⟨some _, .alloc _, _, _, _, _⟩] _ _
            go_wp2_with (first | (with_reducible refine wpl_alloc (o := ⟨some 14, _, _, _, _, _⟩) rfl rfl zero_id ?_))
            intro w2_ hb2_ hb_ hsz2_
            have hX_ := vr_mk HB.out.size hb2_ len_id
            have hf_ := hb_.mono HB.out.size
            have FV17 := Lib.hid (fr_row R9.out)
            generalize hg_ : w_.heap.size = g17 at hX_ FV17 ⊢
            refine hK _ _ (fun _ => hf_) ?_
            have V17 := Lib.hid hX_
            clear hK K hX_ hg_ hb2_ hsz2_
            have HB_ := Lib.hid (HB.out.trans hf_)
            have V11_ := Lib.hid (V11.out.grow hb_)
            have R9_ := Lib.hid (R9.out.grow hb_)
            clear HB V11 R9
            have HB := HB_
            have V11 := V11_
            have R9 := R9_
            clear HB_ V11_ R9_
            clear hb_ hf_
            try clear w_
            rename World => w_
            refine pl_act rfl (by exact wanted_none rfl) (fun K hK => ?_)
            have HSL := Lib.hid V11.out.sl
            refine wpl_apps rfl rfl el_id R9.out rfl HSL.out rfl HX.out.one (by omega) (by omega) HB.out.size ?_
            intro A12 c12 w2_ hX_ hg_ hA_
            have hf_ := below_grown (Below.refl _ _) hg_ HB.out.size (own_from R9.out)
            go_wp2_with fail
            refine hK _ _ (fun _ => hf_) ?_
            clear hK K
            have HI12 := Lib.hid (row_ids HI.out HDG.out hX_)
            have HB_ := Lib.hid (HB.out.trans hf_)
            have V17_ := Lib.hid (V17.out.far hg_ FV17.out)
            clear HB V17
            have HB := HB_
            have V17 := V17_
            clear HB_ V17_
            clear hf_ hg_ hA_ HSL hX_ R9 V11 FV11 FV17
            try clear w_
            rename World => w_
            refine pl_act rfl (by exact wanted_none rfl) (fun K hK => ?_)
            go_wp2_with fail
            refine (tclimb_any _ _ _ _ _ _ bk k n (ds ++ [r]) HZ.out _ (HSK.out.grow HB.out) hck (by omega) HI12.out (by omega) (HT.out.grow HB.out)).mono ?_
            rintro e w2_ ⟨rfl, hb_⟩
            rw [HNO.out]
            have hf_ := hb_.mono HB.out.size
            go_wp2_with fail
            refine hK _ _ (fun _ => hf_) ?_
            clear hK K
            have HB_ := Lib.hid (HB.out.trans hf_)
            have V17_ := Lib.hid (V17.out.grow hb_)
            clear HB V17
            have HB := HB_
            have V17 := V17_
            clear HB_ V17_
            clear hb_ hf_ HI12
            try clear w_
            rename World => w_
            repeat (first | (refine pl_calm rfl rfl (by first | exact wanted_none rfl | (go_simp; done) | rfl) (fun w_ => by first | (go_simp; rfl) | (go_simp; done) | rfl) (fun K hK => ?_); go_simp; refine hK _ _ ?_; clear hK K) | (refine pl_loadB rfl rfl (by first | exact wanted_none rfl | (go_simp; done) | rfl) rfl (by first | rfl | (go_simp; rfl)) (by kernel_rfl) (HCK.out.grow HB.out) HCB.out (fun K hK => ?_); go_simp; refine hK _ _ ?_; clear hK K) | (refine pl_loadbB rfl rfl (by first | exact wanted_none rfl | (go_simp; done) | rfl) rfl row_id (HVR.out.grow HB.out).blk HVR.out.lt (by first | rfl | (go_simp; done) | rfl) HVR.out.len (fun K hK => ?_); go_simp; refine hK _ _ ?_; clear hK K))
            have HX17 := Lib.hid V17.out.at_
            have HG17 := Lib.hid V17.out.base
            clear V17
            refine pl_act rfl (by first | exact wanted_none rfl | (go_simp; done) | rfl) (fun K hK => ?_)
            show wpList _ _ _ [⟨none, .store _ _ _, _, _, _, _⟩] _ _
            go_wp2_with (first | (with_reducible refine wpl_storeb (o := ⟨none, .store _ _ _, _, _, _, _⟩) rfl rfl row_id HX17.out.blk rfl rfl HX17.out.len HZ.out.len HZ.out.one ?_))
            intro w2_ hb2_ hg2_ hsz2_
            have HB_ := Lib.hid (put_below HB.out HG17.out hg2_)
            have HX_ := Lib.hid (at_mk hb2_ HZ.out.len)
            clear hb2_ hg2_ hsz2_ HB HX17
            have HB := HB_
            have HX17 := HX_
            clear HB_ HX_
            try clear w_
            rename World => w_
            go_wp2_with fail
            refine hK _ _ (fun h => by cases h) ?_
            clear hK K
            repeat (first | (refine pl_calm rfl rfl (by first | exact wanted_none rfl | (go_simp; done) | rfl) (fun w_ => by first | (go_simp; rfl) | (go_simp; done) | rfl) (fun K hK => ?_); go_simp; refine hK _ _ ?_; clear hK K) | (refine pl_loadB rfl rfl (by first | exact wanted_none rfl | (go_simp; done) | rfl) rfl (by first | rfl | (go_simp; rfl)) (by kernel_rfl) (HCK.out.grow HB.out) HCB.out (fun K hK => ?_); go_simp; refine hK _ _ ?_; clear hK K) | (refine pl_loadbB rfl rfl (by first | exact wanted_none rfl | (go_simp; done) | rfl) rfl row_id (HVR.out.grow HB.out).blk HVR.out.lt (by first | rfl | (go_simp; done) | rfl) HVR.out.len (fun K hK => ?_); go_simp; refine hK _ _ ?_; clear hK K))
            refine pl_done ?_
            exact HEX.out HB.out
        · skip
          refine pl_act rfl (by exact wanted_none rfl) (fun K hK => ?_)
          show wpList _ _ _ [⟨some _, .alloc _, _, _, _, _⟩] _ _
          go_wp2_with (first | (with_reducible refine wpl_alloc (o := ⟨some 14, _, _, _, _, _⟩) rfl rfl zero_id ?_))
          intro w2_ hb2_ hb_ hsz2_
          have hX_ := vr_mk HB.out.size hb2_ len_id
          have hf_ := hb_.mono HB.out.size
          have FV17 := Lib.hid (fr_row R7.out)
          generalize hg_ : w_.heap.size = g17 at hX_ FV17 ⊢
          refine hK _ _ (fun _ => hf_) ?_
          have V17 := Lib.hid hX_
          clear hK K hX_ hg_ hb2_ hsz2_
          have HB_ := Lib.hid (HB.out.trans hf_)
          have V11_ := Lib.hid (V11.out.grow hb_)
          have R7_ := Lib.hid (R7.out.grow hb_)
          clear HB V11 R7
          have HB := HB_
          have V11 := V11_
          have R7 := R7_
          clear HB_ V11_ R7_
          clear hb_ hf_
          try clear w_
          rename World => w_
          refine pl_act rfl (by exact wanted_none rfl) (fun K hK => ?_)
          have HSL := Lib.hid (HI.out.grow HB.out).1
          refine wpl_apps rfl rfl el_id R7.out rfl HSL.out rfl HONE.out (by omega) (by omega) HB.out.size ?_
          intro A9 c9 w2_ hX_ hg_ hA_
          try simp only [Nat.zero_add]
          have hf_ := below_grown (Below.refl _ _) hg_ HB.out.size (own_from R7.out)
          go_wp2_with fail
          refine hK _ _ (fun _ => hf_) ?_
          clear hK K
          have R9 := Lib.hid (row_r9 hX_)
          have NV11 := Lib.hid (fr_step hA_ FV11.out V11.out.lt)
          have NV17 := Lib.hid (fr_step hA_ FV17.out V17.out.lt)
          have HB_ := Lib.hid (HB.out.trans hf_)
          have V11_ := Lib.hid (V11.out.far hg_ FV11.out)
          have V17_ := Lib.hid (V17.out.far hg_ FV17.out)
          clear HB V11 V17
          have HB := HB_
          have V11 := V11_
          have V17 := V17_
          clear HB_ V11_ V17_
          clear hf_ hg_ hA_ HSL hX_ R7 FV11 FV17
          have FV11 := NV11
          clear NV11
          have FV17 := NV17
          clear NV17
          try clear w_
          rename World => w_
          refine pl_act rfl (by exact wanted_none rfl) (fun K hK => ?_)
          have HSL := Lib.hid V11.out.sl
          refine wpl_apps rfl rfl el_id R9.out rfl HSL.out rfl HX.out.one (by omega) (by omega) HB.out.size ?_
          intro A12 c12 w2_ hX_ hg_ hA_
          have hf_ := below_grown (Below.refl _ _) hg_ HB.out.size (own_from R9.out)
          go_wp2_with fail
          refine hK _ _ (fun _ => hf_) ?_
          clear hK K
          have HI12 := Lib.hid (row_ids HI.out HDG.out hX_)
          have HB_ := Lib.hid (HB.out.trans hf_)
          have V17_ := Lib.hid (V17.out.far hg_ FV17.out)
          clear HB V17
          have HB := HB_
          have V17 := V17_
          clear HB_ V17_
          clear hf_ hg_ hA_ HSL hX_ R9 V11 FV11 FV17
          try clear w_
          rename World => w_
          refine pl_act rfl (by exact wanted_none rfl) (fun K hK => ?_)
          go_wp2_with fail
          refine (tclimb_any _ _ _ _ _ _ bk k n (ds ++ [r]) HZ.out _ (HSK.out.grow HB.out) hck (by omega) HI12.out (by omega) (HT.out.grow HB.out)).mono ?_
          rintro e w2_ ⟨rfl, hb_⟩
          rw [HNO.out]
          have hf_ := hb_.mono HB.out.size
          go_wp2_with fail
          refine hK _ _ (fun _ => hf_) ?_
          clear hK K
          have HB_ := Lib.hid (HB.out.trans hf_)
          have V17_ := Lib.hid (V17.out.grow hb_)
          clear HB V17
          have HB := HB_
          have V17 := V17_
          clear HB_ V17_
          clear hb_ hf_ HI12
          try clear w_
          rename World => w_
          repeat (first | (refine pl_calm rfl rfl (by first | exact wanted_none rfl | (go_simp; done) | rfl) (fun w_ => by first | (go_simp; rfl) | (go_simp; done) | rfl) (fun K hK => ?_); go_simp; refine hK _ _ ?_; clear hK K) | (refine pl_loadB rfl rfl (by first | exact wanted_none rfl | (go_simp; done) | rfl) rfl (by first | rfl | (go_simp; rfl)) (by kernel_rfl) (HCK.out.grow HB.out) HCB.out (fun K hK => ?_); go_simp; refine hK _ _ ?_; clear hK K) | (refine pl_loadbB rfl rfl (by first | exact wanted_none rfl | (go_simp; done) | rfl) rfl row_id (HVR.out.grow HB.out).blk HVR.out.lt (by first | rfl | (go_simp; done) | rfl) HVR.out.len (fun K hK => ?_); go_simp; refine hK _ _ ?_; clear hK K))
          have HX17 := Lib.hid V17.out.at_
          have HG17 := Lib.hid V17.out.base
          clear V17
          refine pl_act rfl (by first | exact wanted_none rfl | (go_simp; done) | rfl) (fun K hK => ?_)
          show wpList _ _ _ [⟨none, .store _ _ _, _, _, _, _⟩] _ _
          go_wp2_with (first | (with_reducible refine wpl_storeb (o := ⟨none, .store _ _ _, _, _, _, _⟩) rfl rfl row_id HX17.out.blk rfl rfl HX17.out.len HZ.out.len HZ.out.one ?_))
          intro w2_ hb2_ hg2_ hsz2_
          have HB_ := Lib.hid (put_below HB.out HG17.out hg2_)
          have HX_ := Lib.hid (at_mk hb2_ HZ.out.len)
          clear hb2_ hg2_ hsz2_ HB HX17
          have HB := HB_
          have HX17 := HX_
          clear HB_ HX_
          try clear w_
          rename World => w_
          go_wp2_with fail
          refine hK _ _ (fun h => by cases h) ?_
          clear hK K
          repeat (first | (refine pl_calm rfl rfl (by first | exact wanted_none rfl | (go_simp; done) | rfl) (fun w_ => by first | (go_simp; rfl) | (go_simp; done) | rfl) (fun K hK => ?_); go_simp; refine hK _ _ ?_; clear hK K) | (refine pl_loadB rfl rfl (by first | exact wanted_none rfl | (go_simp; done) | rfl) rfl (by first | rfl | (go_simp; rfl)) (by kernel_rfl) (HCK.out.grow HB.out) HCB.out (fun K hK => ?_); go_simp; refine hK _ _ ?_; clear hK K) | (refine pl_loadbB rfl rfl (by first | exact wanted_none rfl | (go_simp; done) | rfl) rfl row_id (HVR.out.grow HB.out).blk HVR.out.lt (by first | rfl | (go_simp; done) | rfl) HVR.out.len (fun K hK => ?_); go_simp; refine hK _ _ ?_; clear hK K))
          refine pl_done ?_
          exact HEX.out HB.out
      · skip
        refine pl_act rfl (by exact wanted_none rfl) (fun K hK => ?_)
        show wpList _ _ _ [⟨some _, .alloc _, _, _, _, _⟩] _ _
        go_wp2_with (first | (with_reducible refine wpl_alloc (o := ⟨some 14, _, _, _, _, _⟩) rfl rfl zero_id ?_))
        intro w2_ hb2_ hb_ hsz2_
        have hX_ := vr_mk HB.out.size hb2_ len_id
        have hf_ := hb_.mono HB.out.size
        generalize hg_ : w_.heap.size = g17 at hX_ ⊢
        refine hK _ _ (fun _ => hf_) ?_
        have V17 := Lib.hid hX_
        clear hK K hX_ hg_ hb2_ hsz2_
        have HB_ := Lib.hid (HB.out.trans hf_)
        have V11_ := Lib.hid (V11.out.grow hb_)
        clear HB V11
        have HB := HB_
        have V11 := V11_
        clear HB_ V11_
        clear hb_ hf_
        try clear w_
        rename World => w_
        refine pl_act rfl (by exact wanted_none rfl) (fun K hK => ?_)
        go_wp2_with fail
        generalize hw_ : World.alloc w_ _ = w2_
        obtain ⟨hX_, hb_⟩ := row_eq HB.out.size hw_
        have hf_ := hb_.mono HB.out.size
        have FV11 := Lib.hid (fr_new V11.out.lt)
        have FV17 := Lib.hid (fr_new V17.out.lt)
        generalize hg_ : w_.heap.size = g7 at hX_ FV11 FV17 ⊢
        refine hK _ _ (fun _ => hf_) ?_
        have R7 := Lib.hid hX_
        clear hK K hX_ hg_ hw_
        have HB_ := Lib.hid (HB.out.trans hf_)
        have V11_ := Lib.hid (V11.out.grow hb_)
        have V17_ := Lib.hid (V17.out.grow hb_)
        clear HB V11 V17
        have HB := HB_
        have V11 := V11_
        have V17 := V17_
        clear HB_ V11_ V17_
        clear hb_ hf_
        try clear w_
        rename World => w_
        refine pl_act rfl (by exact wanted_none rfl) (fun K hK => ?_)
        have HSL := Lib.hid (HI.out.grow HB.out).1
        refine wpl_apps rfl rfl el_id R7.out rfl HSL.out rfl HONE.out (by omega) (by omega) HB.out.size ?_
        intro A9 c9 w2_ hX_ hg_ hA_
        try simp only [Nat.zero_add]
        have hf_ := below_grown (Below.refl _ _) hg_ HB.out.size (own_from R7.out)
        go_wp2_with fail
        refine hK _ _ (fun _ => hf_) ?_
        clear hK K
        have R9 := Lib.hid (row_r9 hX_)
        have NV11 := Lib.hid (fr_step hA_ FV11.out V11.out.lt)
        have NV17 := Lib.hid (fr_step hA_ FV17.out V17.out.lt)
        have HB_ := Lib.hid (HB.out.trans hf_)
        have V11_ := Lib.hid (V11.out.far hg_ FV11.out)
        have V17_ := Lib.hid (V17.out.far hg_ FV17.out)
        clear HB V11 V17
        have HB := HB_
        have V11 := V11_
        have V17 := V17_
        clear HB_ V11_ V17_
        clear hf_ hg_ hA_ HSL hX_ R7 FV11 FV17
        have FV11 := NV11
        clear NV11
        have FV17 := NV17
        clear NV17
        try clear w_
        rename World => w_
        refine pl_act rfl (by exact wanted_none rfl) (fun K hK => ?_)
        have HSL := Lib.hid V11.out.sl
        refine wpl_apps rfl rfl el_id R9.out rfl HSL.out rfl HX.out.one (by omega) (by omega) HB.out.size ?_
        intro A12 c12 w2_ hX_ hg_ hA_
        have hf_ := below_grown (Below.refl _ _) hg_ HB.out.size (own_from R9.out)
        go_wp2_with fail
        refine hK _ _ (fun _ => hf_) ?_
        clear hK K
        have HI12 := Lib.hid (row_ids HI.out HDG.out hX_)
        have HB_ := Lib.hid (HB.out.trans hf_)
        have V17_ := Lib.hid (V17.out.far hg_ FV17.out)
        clear HB V17
        have HB := HB_
        have V17 := V17_
        clear HB_ V17_
        clear hf_ hg_ hA_ HSL hX_ R9 V11 FV11 FV17
        try clear w_
        rename World => w_
        refine pl_act rfl (by exact wanted_none rfl) (fun K hK => ?_)
        go_wp2_with fail
        refine (tclimb_any _ _ _ _ _ _ bk k n (ds ++ [r]) HZ.out _ (HSK.out.grow HB.out) hck (by omega) HI12.out (by omega) (HT.out.grow HB.out)).mono ?_
        rintro e w2_ ⟨rfl, hb_⟩
        rw [HNO.out]
        have hf_ := hb_.mono HB.out.size
        go_wp2_with fail
        refine hK _ _ (fun _ => hf_) ?_
        clear hK K
        have HB_ := Lib.hid (HB.out.trans hf_)
        have V17_ := Lib.hid (V17.out.grow hb_)
        clear HB V17
        have HB := HB_
        have V17 := V17_
        clear HB_ V17_
        clear hb_ hf_ HI12
        try clear w_
        rename World => w_
        repeat (first | (refine pl_calm rfl rfl (by first | exact wanted_none rfl | (go_simp; done) | rfl) (fun w_ => by first | (go_simp; rfl) | (go_simp; done) | rfl) (fun K hK => ?_); go_simp; refine hK _ _ ?_; clear hK K) | (refine pl_loadB rfl rfl (by first | exact wanted_none rfl | (go_simp; done) | rfl) rfl (by first | rfl | (go_simp; rfl)) (by kernel_rfl) (HCK.out.grow HB.out) HCB.out (fun K hK => ?_); go_simp; refine hK _ _ ?_; clear hK K) | (refine pl_loadbB rfl rfl (by first | exact wanted_none rfl | (go_simp; done) | rfl) rfl row_id (HVR.out.grow HB.out).blk HVR.out.lt (by first | rfl | (go_simp; done) | rfl) HVR.out.len (fun K hK => ?_); go_simp; refine hK _ _ ?_; clear hK K))
        have HX17 := Lib.hid V17.out.at_
        have HG17 := Lib.hid V17.out.base
        clear V17
        refine pl_act rfl (by first | exact wanted_none rfl | (go_simp; done) | rfl) (fun K hK => ?_)
        show wpList _ _ _ [⟨none, .store _ _ _, _, _, _, _⟩] _ _
        go_wp2_with (first | (with_reducible refine wpl_storeb (o := ⟨none, .store _ _ _, _, _, _, _⟩) rfl rfl row_id HX17.out.blk rfl rfl HX17.out.len HZ.out.len HZ.out.one ?_))
        intro w2_ hb2_ hg2_ hsz2_
        have HB_ := Lib.hid (put_below HB.out HG17.out hg2_)
        have HX_ := Lib.hid (at_mk hb2_ HZ.out.len)
        clear hb2_ hg2_ hsz2_ HB HX17
        have HB := HB_
        have HX17 := HX_
        clear HB_ HX_
        try clear w_
        rename World => w_
        go_wp2_with fail
        refine hK _ _ (fun h => by cases h) ?_
        clear hK K
        repeat (first | (refine pl_calm rfl rfl (by first | exact wanted_none rfl | (go_simp; done) | rfl) (fun w_ => by first | (go_simp; rfl) | (go_simp; done) | rfl) (fun K hK => ?_); go_simp; refine hK _ _ ?_; clear hK K) | (refine pl_loadB rfl rfl (by first | exact wanted_none rfl | (go_simp; done) | rfl) rfl (by first | rfl | (go_simp; rfl)) (by kernel_rfl) (HCK.out.grow HB.out) HCB.out (fun K hK => ?_); go_simp; refine hK _ _ ?_; clear hK K) | (refine pl_loadbB rfl rfl (by first | exact wanted_none rfl | (go_simp; done) | rfl) rfl row_id (HVR.out.grow HB.out).blk HVR.out.lt (by first | rfl | (go_simp; done) | rfl) HVR.out.len (fun K hK => ?_); go_simp; refine hK _ _ ?_; clear hK K))
        refine pl_done ?_
        exact HEX.out HB.out
    · skip
      refine pl_act rfl (by exact wanted_none rfl) (fun K hK => ?_)
      show wpList _ _ _ [⟨some _, .alloc _, _, _, _, _⟩] _ _
      go_wp2_with (first | (with_reducible refine wpl_alloc (o := ⟨some 14, _, _, _, _, _⟩) rfl rfl zero_id ?_))
      intro w2_ hb2_ hb_ hsz2_
      have hX_ := vr_mk HB.out.size hb2_ len_id
      have hf_ := hb_.mono HB.out.size
      generalize hg_ : w_.heap.size = g17 at hX_ ⊢
      refine hK _ _ (fun _ => hf_) ?_
      have V17 := Lib.hid hX_
      clear hK K hX_ hg_ hb2_ hsz2_
      have HB_ := Lib.hid (HB.out.trans hf_)
      clear HB
      have HB := HB_
      clear HB_
      clear hb_ hf_
      try clear w_
      rename World => w_
      refine pl_fork rfl (by exact wanted_none rfl) (fun K hK => ?_) ?_
      · skip
        go_wp2_with fail
        generalize hw_ : World.alloc w_ _ = w2_
        obtain ⟨hX_, hb_⟩ := row_eq HB.out.size hw_
        have hf_ := hb_.mono HB.out.size
        have FV17 := Lib.hid (fr_new V17.out.lt)
        generalize hg_ : w_.heap.size = g7 at hX_ FV17 ⊢
        refine hK _ _ (fun _ => hf_) ?_
        have R7 := Lib.hid hX_
        clear hK K hX_ hg_ hw_
        have HB_ := Lib.hid (HB.out.trans hf_)
        have V17_ := Lib.hid (V17.out.grow hb_)
        clear HB V17
        have HB := HB_
        have V17 := V17_
        clear HB_ V17_
        clear hb_ hf_
        try clear w_
        rename World => w_
        refine pl_fork rfl (by exact wanted_none rfl) (fun K hK => ?_) ?_
        · skip
          have HSL := Lib.hid (HI.out.grow HB.out).1
          refine wpl_apps rfl rfl el_id R7.out rfl HSL.out rfl HONE.out (by omega) (by omega) HB.out.size ?_
          intro A9 c9 w2_ hX_ hg_ hA_
          try simp only [Nat.zero_add]
          have hf_ := below_grown (Below.refl _ _) hg_ HB.out.size (own_from R7.out)
          go_wp2_with fail
          refine hK _ _ (fun _ => hf_) ?_
          clear hK K
          have R9 := Lib.hid (row_r9 hX_)
          have NV17 := Lib.hid (fr_step hA_ FV17.out V17.out.lt)
          have HB_ := Lib.hid (HB.out.trans hf_)
          have V17_ := Lib.hid (V17.out.far hg_ FV17.out)
          clear HB V17
          have HB := HB_
          have V17 := V17_
          clear HB_ V17_
          clear hf_ hg_ hA_ HSL hX_ R7 FV17
          have FV17 := NV17
          clear NV17
          try clear w_
          rename World => w_
          refine pl_act rfl (by exact wanted_none rfl) (fun K hK => ?_)
          have hysl := HX.out.len
          go_wp2_with fail
          generalize hw_ : World.alloc w_ _ = w2_
          clear hysl
          obtain ⟨hY_, hb_, hs_⟩ := alloc_eq hw_
          have hX_ := vr_mk HB.out.size (by have h := hY_; rw [fold_set _ xs (by rw [HX.out.len]; rfl)] at h; exact h) HX.out.len
          have hf_ := hb_.mono HB.out.size
          have FV11 := Lib.hid (fr_row R9.out)
          generalize hg_ : w_.heap.size = g11 at hX_ FV11 ⊢
          refine hK _ _ (fun _ => hf_) ?_
          have V11 := Lib.hid hX_
          clear hK K hX_ hg_ hw_ hY_ hs_
          have HB_ := Lib.hid (HB.out.trans hf_)
          have V17_ := Lib.hid (V17.out.grow hb_)
          have R9_ := Lib.hid (R9.out.grow hb_)
          clear HB V17 R9
          have HB := HB_
          have V17 := V17_
          have R9 := R9_
          clear HB_ V17_ R9_
          clear hb_ hf_
          try clear w_
          rename World => w_
          refine pl_act rfl (by exact wanted_none rfl) (fun K hK => ?_)
          have HSL := Lib.hid V11.out.sl
          refine wpl_apps rfl rfl el_id R9.out rfl HSL.out rfl HX.out.one (by omega) (by omega) HB.out.size ?_
          intro A12 c12 w2_ hX_ hg_ hA_
          have hf_ := below_grown (Below.refl _ _) hg_ HB.out.size (own_from R9.out)
          go_wp2_with fail
          refine hK _ _ (fun _ => hf_) ?_
          clear hK K
          have HI12 := Lib.hid (row_ids HI.out HDG.out hX_)
          have HB_ := Lib.hid (HB.out.trans hf_)
          have V17_ := Lib.hid (V17.out.far hg_ FV17.out)
          clear HB V17
          have HB := HB_
          have V17 := V17_
          clear HB_ V17_
          clear hf_ hg_ hA_ HSL hX_ R9 V11 FV11 FV17
          try clear w_
          rename World => w_
          refine pl_act rfl (by exact wanted_none rfl) (fun K hK => ?_)
          go_wp2_with fail
          refine (tclimb_any _ _ _ _ _ _ bk k n (ds ++ [r]) HZ.out _ (HSK.out.grow HB.out) hck (by omega) HI12.out (by omega) (HT.out.grow HB.out)).mono ?_
          rintro e w2_ ⟨rfl, hb_⟩
          rw [HNO.out]
          have hf_ := hb_.mono HB.out.size
          go_wp2_with fail
          refine hK _ _ (fun _ => hf_) ?_
          clear hK K
          have HB_ := Lib.hid (HB.out.trans hf_)
          have V17_ := Lib.hid (V17.out.grow hb_)
          clear HB V17
          have HB := HB_
          have V17 := V17_
          clear HB_ V17_
          clear hb_ hf_ HI12
          try clear w_
          rename World => w_
          repeat (first | (refine pl_calm rfl rfl (by first | exact wanted_none rfl | (go_simp; done) | rfl) (fun w_ => by first | (go_simp; rfl) | (go_simp; done) | rfl) (fun K hK => ?_); go_simp; refine hK _ _ ?_; clear hK K) | (refine pl_loadB rfl rfl (by first | exact wanted_none rfl | (go_simp; done) | rfl) rfl (by first | rfl | (go_simp; rfl)) (by kernel_rfl) (HCK.out.grow HB.out) HCB.out (fun K hK => ?_); go_simp; refine hK _ _ ?_; clear hK K) | (refine pl_loadbB rfl rfl (by first | exact wanted_none rfl | (go_simp; done) | rfl) rfl row_id (HVR.out.grow HB.out).blk HVR.out.lt (by first | rfl | (go_simp; done) | rfl) HVR.out.len (fun K hK => ?_); go_simp; refine hK _ _ ?_; clear hK K))
          have HX17 := Lib.hid V17.out.at_
          have HG17 := Lib.hid V17.out.base
          clear V17
          refine pl_act rfl (by first | exact wanted_none rfl | (go_simp; done) | rfl) (fun K hK => ?_)
          show wpList _ _ _ [⟨none, .store _ _ _, _, _, _, _⟩] _ _
          go_wp2_with (first | (with_reducible refine wpl_storeb (o := ⟨none, .store _ _ _, _, _, _, _⟩) rfl rfl row_id HX17.out.blk rfl rfl HX17.out.len HZ.out.len HZ.out.one ?_))
          intro w2_ hb2_ hg2_ hsz2_
          have HB_ := Lib.hid (put_below HB.out HG17.out hg2_)
          have HX_ := Lib.hid (at_mk hb2_ HZ.out.len)
          clear hb2_ hg2_ hsz2_ HB HX17
          have HB := HB_
          have HX17 := HX_
          clear HB_ HX_
          try clear w_
          rename World => w_
          go_wp2_with fail
          refine hK _ _ (fun h => by cases h) ?_
          clear hK K
          repeat (first | (refine pl_calm rfl rfl (by first | exact wanted_none rfl | (go_simp; done) | rfl) (fun w_ => by first | (go_simp; rfl) | (go_simp; done) | rfl) (fun K hK => ?_); go_simp; refine hK _ _ ?_; clear hK K) | (refine pl_loadB rfl rfl (by first | exact wanted_none rfl | (go_simp; done) | rfl) rfl (by first | rfl | (go_simp; rfl)) (by kernel_rfl) (HCK.out.grow HB.out) HCB.out (fun K hK => ?_); go_simp; refine hK _ _ ?_; clear hK K) | (refine pl_loadbB rfl rfl (by first | exact wanted_none rfl | (go_simp; done) | rfl) rfl row_id (HVR.out.grow HB.out).blk HVR.out.lt (by first | rfl | (go_simp; done) | rfl) HVR.out.len (fun K hK => ?_); go_simp; refine hK _ _ ?_; clear hK K))
          refine pl_done ?_
          exact HEX.out HB.out
        · skip
          refine pl_act rfl (by exact wanted_none rfl) (fun K hK => ?_)
          have hysl := HX.out.len
          go_wp2_with fail
          generalize hw_ : World.alloc w_ _ = w2_
          clear hysl
          obtain ⟨hY_, hb_, hs_⟩ := alloc_eq hw_
          have hX_ := vr_mk HB.out.size (by have h := hY_; rw [fold_set _ xs (by rw [HX.out.len]; rfl)] at h; exact h) HX.out.len
          have hf_ := hb_.mono HB.out.size
          have FV11 := Lib.hid (fr_row R7.out)
          generalize hg_ : w_.heap.size = g11 at hX_ FV11 ⊢
          refine hK _ _ (fun _ => hf_) ?_
          have V11 := Lib.hid hX_
          clear hK K hX_ hg_ hw_ hY_ hs_
          have HB_ := Lib.hid (HB.out.trans hf_)
          have V17_ := Lib.hid (V17.out.grow hb_)
          have R7_ := Lib.hid (R7.out.grow hb_)
          clear HB V17 R7
          have HB := HB_
          have V17 := V17_
          have R7 := R7_
          clear HB_ V17_ R7_
          clear hb_ hf_
          try clear w_
          rename World => w_
          refine pl_act rfl (by exact wanted_none rfl) (fun K hK => ?_)
          have HSL := Lib.hid (HI.out.grow HB.out).1
          refine wpl_apps rfl rfl el_id R7.out rfl HSL.out rfl HONE.out (by omega) (by omega) HB.out.size ?_
          intro A9 c9 w2_ hX_ hg_ hA_
          try simp only [Nat.zero_add]
          have hf_ := below_grown (Below.refl _ _) hg_ HB.out.size (own_from R7.out)
          go_wp2_with fail
          refine hK _ _ (fun _ => hf_) ?_
          clear hK K
          have R9 := Lib.hid (row_r9 hX_)
          have NV11 := Lib.hid (fr_step hA_ FV11.out V11.out.lt)
          have NV17 := Lib.hid (fr_step hA_ FV17.out V17.out.lt)
          have HB_ := Lib.hid (HB.out.trans hf_)
          have V11_ := Lib.hid (V11.out.far hg_ FV11.out)
          have V17_ := Lib.hid (V17.out.far hg_ FV17.out)
          clear HB V11 V17
          have HB := HB_
          have V11 := V11_
          have V17 := V17_
          clear HB_ V11_ V17_
          clear hf_ hg_ hA_ HSL hX_ R7 FV11 FV17
          have FV11 := NV11
          clear NV11
          have FV17 := NV17
          clear NV17
          try clear w_
          rename World => w_
          refine pl_act rfl (by exact wanted_none rfl) (fun K hK => ?_)
          have HSL := Lib.hid V11.out.sl
          refine wpl_apps rfl rfl el_id R9.out rfl HSL.out rfl HX.out.one (by omega) (by omega) HB.out.size ?_
          intro A12 c12 w2_ hX_ hg_ hA_
          have hf_ := below_grown (Below.refl _ _) hg_ HB.out.size (own_from R9.out)
          go_wp2_with fail
          refine hK _ _ (fun _ => hf_) ?_
          clear hK K
          have HI12 := Lib.hid (row_ids HI.out HDG.out hX_)
          have HB_ := Lib.hid (HB.out.trans hf_)
          have V17_ := Lib.hid (V17.out.far hg_ FV17.out)
          clear HB V17
          have HB := HB_
          have V17 := V17_
          clear HB_ V17_
          clear hf_ hg_ hA_ HSL hX_ R9 V11 FV11 FV17
          try clear w_
          rename World => w_
          refine pl_act rfl (by exact wanted_none rfl) (fun K hK => ?_)
          go_wp2_with fail
          refine (tclimb_any _ _ _ _ _ _ bk k n (ds ++ [r]) HZ.out _ (HSK.out.grow HB.out) hck (by omega) HI12.out (by omega) (HT.out.grow HB.out)).mono ?_
          rintro e w2_ ⟨rfl, hb_⟩
          rw [HNO.out]
          have hf_ := hb_.mono HB.out.size
          go_wp2_with fail
          refine hK _ _ (fun _ => hf_) ?_
          clear hK K
          have HB_ := Lib.hid (HB.out.trans hf_)
          have V17_ := Lib.hid (V17.out.grow hb_)
          clear HB V17
          have HB := HB_
          have V17 := V17_
          clear HB_ V17_
          clear hb_ hf_ HI12
          try clear w_
          rename World => w_
          repeat (first | (refine pl_calm rfl rfl (by first | exact wanted_none rfl | (go_simp; done) | rfl) (fun w_ => by first | (go_simp; rfl) | (go_simp; done) | rfl) (fun K hK => ?_); go_simp; refine hK _ _ ?_; clear hK K) | (refine pl_loadB rfl rfl (by first | exact wanted_none rfl | (go_simp; done) | rfl) rfl (by first | rfl | (go_simp; rfl)) (by kernel_rfl) (HCK.out.grow HB.out) HCB.out (fun K hK => ?_); go_simp; refine hK _ _ ?_; clear hK K) | (refine pl_loadbB rfl rfl (by first | exact wanted_none rfl | (go_simp; done) | rfl) rfl row_id (HVR.out.grow HB.out).blk HVR.out.lt (by first | rfl | (go_simp; done) | rfl) HVR.out.len (fun K hK => ?_); go_simp; refine hK _ _ ?_; clear hK K))
          have HX17 := Lib.hid V17.out.at_
          have HG17 := Lib.hid V17.out.base
          clear V17
          refine pl_act rfl (by first | exact wanted_none rfl | (go_simp; done) | rfl) (fun K hK => ?_)
          show wpList _ _ _ [⟨none, .store _ _ _, _, _, _, _⟩] _ _
          go_wp2_with (first | (with_reducible refine wpl_storeb (o := ⟨none, .store _ _ _, _, _, _, _⟩) rfl rfl row_id HX17.out.blk rfl rfl HX17.out.len HZ.out.len HZ.out.one ?_))
          intro w2_ hb2_ hg2_ hsz2_
          have HB_ := Lib.hid (put_below HB.out HG17.out hg2_)
          have HX_ := Lib.hid (at_mk hb2_ HZ.out.len)
          clear hb2_ hg2_ hsz2_ HB HX17
          have HB := HB_
          have HX17 := HX_
          clear HB_ HX_
          try clear w_
          rename World => w_
          go_wp2_with fail
          refine hK _ _ (fun h => by cases h) ?_
          clear hK K
          repeat (first | (refine pl_calm rfl rfl (by first | exact wanted_none rfl | (go_simp; done) | rfl) (fun w_ => by first | (go_simp; rfl) | (go_simp; done) | rfl) (fun K hK => ?_); go_simp; refine hK _ _ ?_; clear hK K) | (refine pl_loadB rfl rfl (by first | exact wanted_none rfl | (go_simp; done) | rfl) rfl (by first | rfl | (go_simp; rfl)) (by kernel_rfl) (HCK.out.grow HB.out) HCB.out (fun K hK => ?_); go_simp; refine hK _ _ ?_; clear hK K) | (refine pl_loadbB rfl rfl (by first | exact wanted_none rfl | (go_simp; done) | rfl) rfl row_id (HVR.out.grow HB.out).blk HVR.out.lt (by first | rfl | (go_simp; done) | rfl) HVR.out.len (fun K hK => ?_); go_simp; refine hK _ _ ?_; clear hK K))
          refine pl_done ?_
          exact HEX.out HB.out
      · skip
        refine pl_act rfl (by exact wanted_none rfl) (fun K hK => ?_)
        have hysl := HX.out.len
        go_wp2_with fail
        generalize hw_ : World.alloc w_ _ = w2_
        clear hysl
        obtain ⟨hY_, hb_, hs_⟩ := alloc_eq hw_
        have hX_ := vr_mk HB.out.size (by have h := hY_; rw [fold_set _ xs (by rw [HX.out.len]; rfl)] at h; exact h) HX.out.len
        have hf_ := hb_.mono HB.out.size
        generalize hg_ : w_.heap.size = g11 at hX_ ⊢
        refine hK _ _ (fun _ => hf_) ?_
        have V11 := Lib.hid hX_
        clear hK K hX_ hg_ hw_ hY_ hs_
        have HB_ := Lib.hid (HB.out.trans hf_)
        have V17_ := Lib.hid (V17.out.grow hb_)
        clear HB V17
        have HB := HB_
        have V17 := V17_
        clear HB_ V17_
        clear hb_ hf_
        try clear w_
        rename World => w_
        refine pl_act rfl (by exact wanted_none rfl) (fun K hK => ?_)
        go_wp2_with fail
        generalize hw_ : World.alloc w_ _ = w2_
        obtain ⟨hX_, hb_⟩ := row_eq HB.out.size hw_
        have hf_ := hb_.mono HB.out.size
        have FV11 := Lib.hid (fr_new V11.out.lt)
        have FV17 := Lib.hid (fr_new V17.out.lt)
        generalize hg_ : w_.heap.size = g7 at hX_ FV11 FV17 ⊢
        refine hK _ _ (fun _ => hf_) ?_
        have R7 := Lib.hid hX_
        clear hK K hX_ hg_ hw_
        have HB_ := Lib.hid (HB.out.trans hf_)
        have V11_ := Lib.hid (V11.out.grow hb_)
        have V17_ := Lib.hid (V17.out.grow hb_)
        clear HB V11 V17
        have HB := HB_
        have V11 := V11_
        have V17 := V17_
        clear HB_ V11_ V17_
        clear hb_ hf_
        try clear w_
        rename World => w_
        refine pl_act rfl (by exact wanted_none rfl) (fun K hK => ?_)
        have HSL := Lib.hid (HI.out.grow HB.out).1
        refine wpl_apps rfl rfl el_id R7.out rfl HSL.out rfl HONE.out (by omega) (by omega) HB.out.size ?_
        intro A9 c9 w2_ hX_ hg_ hA_
        try simp only [Nat.zero_add]
        have hf_ := below_grown (Below.refl _ _) hg_ HB.out.size (own_from R7.out)
        go_wp2_with fail
        refine hK _ _ (fun _ => hf_) ?_
        clear hK K
        have R9 := Lib.hid (row_r9 hX_)
        have NV11 := Lib.hid (fr_step hA_ FV11.out V11.out.lt)
        have NV17 := Lib.hid (fr_step hA_ FV17.out V17.out.lt)
        have HB_ := Lib.hid (HB.out.trans hf_)
        have V11_ := Lib.hid (V11.out.far hg_ FV11.out)
        have V17_ := Lib.hid (V17.out.far hg_ FV17.out)
        clear HB V11 V17
        have HB := HB_
        have V11 := V11_
        have V17 := V17_
        clear HB_ V11_ V17_
        clear hf_ hg_ hA_ HSL hX_ R7 FV11 FV17
        have FV11 := NV11
        clear NV11
        have FV17 := NV17
        clear NV17
        try clear w_
        rename World => w_
        refine pl_act rfl (by exact wanted_none rfl) (fun K hK => ?_)
        have HSL := Lib.hid V11.out.sl
        refine wpl_apps rfl rfl el_id R9.out rfl HSL.out rfl HX.out.one (by omega) (by omega) HB.out.size ?_
        intro A12 c12 w2_ hX_ hg_ hA_
        have hf_ := below_grown (Below.refl _ _) hg_ HB.out.size (own_from R9.out)
        go_wp2_with fail
        refine hK _ _ (fun _ => hf_) ?_
        clear hK K
        have HI12 := Lib.hid (row_ids HI.out HDG.out hX_)
        have HB_ := Lib.hid (HB.out.trans hf_)
        have V17_ := Lib.hid (V17.out.far hg_ FV17.out)
        clear HB V17
        have HB := HB_
        have V17 := V17_
        clear HB_ V17_
        clear hf_ hg_ hA_ HSL hX_ R9 V11 FV11 FV17
        try clear w_
        rename World => w_
        refine pl_act rfl (by exact wanted_none rfl) (fun K hK => ?_)
        go_wp2_with fail
        refine (tclimb_any _ _ _ _ _ _ bk k n (ds ++ [r]) HZ.out _ (HSK.out.grow HB.out) hck (by omega) HI12.out (by omega) (HT.out.grow HB.out)).mono ?_
        rintro e w2_ ⟨rfl, hb_⟩
        rw [HNO.out]
        have hf_ := hb_.mono HB.out.size
        go_wp2_with fail
        refine hK _ _ (fun _ => hf_) ?_
        clear hK K
        have HB_ := Lib.hid (HB.out.trans hf_)
        have V17_ := Lib.hid (V17.out.grow hb_)
        clear HB V17
        have HB := HB_
        have V17 := V17_
        clear HB_ V17_
        clear hb_ hf_ HI12
        try clear w_
        rename World => w_
        repeat (first | (refine pl_calm rfl rfl (by first | exact wanted_none rfl | (go_simp; done) | rfl) (fun w_ => by first | (go_simp; rfl) | (go_simp; done) | rfl) (fun K hK => ?_); go_simp; refine hK _ _ ?_; clear hK K) | (refine pl_loadB rfl rfl (by first | exact wanted_none rfl | (go_simp; done) | rfl) rfl (by first | rfl | (go_simp; rfl)) (by kernel_rfl) (HCK.out.grow HB.out) HCB.out (fun K hK => ?_); go_simp; refine hK _ _ ?_; clear hK K) | (refine pl_loadbB rfl rfl (by first | exact wanted_none rfl | (go_simp; done) | rfl) rfl row_id (HVR.out.grow HB.out).blk HVR.out.lt (by first | rfl | (go_simp; done) | rfl) HVR.out.len (fun K hK => ?_); go_simp; refine hK _ _ ?_; clear hK K))
        have HX17 := Lib.hid V17.out.at_
        have HG17 := Lib.hid V17.out.base
        clear V17
        refine pl_act rfl (by first | exact wanted_none rfl | (go_simp; done) | rfl) (fun K hK => ?_)
        show wpList _ _ _ [⟨none, .store _ _ _, _, _, _, _⟩] _ _
        go_wp2_with (first | (with_reducible refine wpl_storeb (o := ⟨none, .store _ _ _, _, _, _, _⟩) rfl rfl row_id HX17.out.blk rfl rfl HX17.out.len HZ.out.len HZ.out.one ?_))
        intro w2_ hb2_ hg2_ hsz2_
        have HB_ := Lib.hid (put_below HB.out HG17.out hg2_)
        have HX_ := Lib.hid (at_mk hb2_ HZ.out.len)
        clear hb2_ hg2_ hsz2_ HB HX17
        have HB := HB_
        have HX17 := HX_
        clear HB_ HX_
        try clear w_
        rename World => w_
        go_wp2_with fail
        refine hK _ _ (fun h => by cases h) ?_
        clear hK K
        repeat (first | (refine pl_calm rfl rfl (by first | exact wanted_none rfl | (go_simp; done) | rfl) (fun w_ => by first | (go_simp; rfl) | (go_simp; done) | rfl) (fun K hK => ?_); go_simp; refine hK _ _ ?_; clear hK K) | (refine pl_loadB rfl rfl (by first | exact wanted_none rfl | (go_simp; done) | rfl) rfl (by first | rfl | (go_simp; rfl)) (by kernel_rfl) (HCK.out.grow HB.out) HCB.out (fun K hK => ?_); go_simp; refine hK _ _ ?_; clear hK K) | (refine pl_loadbB rfl rfl (by first | exact wanted_none rfl | (go_simp; done) | rfl) rfl row_id (HVR.out.grow HB.out).blk HVR.out.lt (by first | rfl | (go_simp; done) | rfl) HVR.out.len (fun K hK => ?_); go_simp; refine hK _ _ ?_; clear hK K))
        refine pl_done ?_
        exact HEX.out HB.out
end Go.Proofs.YtlondennhhffdaaDoor
