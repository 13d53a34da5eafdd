/- What seisinref03.Sum keeps from round to round; its loops' bodies. -/
import Derived.Test.YtnnjjbkdjkjnpaaGreatDoorSpendOnceT5
import Derived.Test.YtnnjjbkdjkjnpaaGreatDoorSpendOnceT6
set_option linter.unusedSimpArgs false
/- What seisinref03.Sum keeps from round to round; its loops' bodies. -/
namespace Go.Proofs.YtnnjjbkdjkjnpaaGreatDoor
open Go.RowKit Go.Shelf
set_option linter.unusedVariables false
attribute [local go_sem ↓ high] add_w
attribute [local go_sem high] xor_w and_w or_w not_w shr_w shl_w wrap_b8
theorem all_words (l : List UInt32) : ∀ v ∈ l.map W, v.oneCell' = true := fun v hv => by obtain ⟨x, _, rfl⟩ := List.mem_map.1 hv; rfl
theorem not_sub (x : UInt32) : Op.intArith .sub .u32 4294967295 (w32 x) = pure (.int .u32 (w32 (~~~x))) := by
  have : IntKind.u32.wrap (4294967295 - w32 x) = w32 (~~~x) := by
    have h1 : (~~~x).toNat = 4294967295 - x.toNat := by rw [UInt32.toNat_not]; rfl
    have := x.toNat_lt
    rw [IntKind.wrap_u32]
    unfold w32
    rw [h1]
    omega
  show pure (Value.int .u32 (IntKind.u32.wrap (4294967295 - w32 x))) = _
  rw [this]
attribute [local go_sem ↓ high] not_sub
theorem stN_zero (b : List UInt8) (h : St) : stN b h 0 = h := by rw [stN]
theorem stN_succ (b : List UInt8) (h : St) (k : Nat) : stN b h (k + 1) = roundF (roundKs[k]?.getD 0) (sw b k) (stN b h k) := by rw [stN]
theorem grown_alloc (w : World) (o : Obj) : w.grownBy (w.alloc o) none := ⟨rfl, rfl, rfl, by simp, fun k hk _ => Below.heap_alloc w o k hk⟩
theorem stB_zero (m : List UInt8) : stB m 0 = firstSt := by rw [← stL_range]; show stL m [] = _; rw [stL]; rfl
theorem stB_succ (m : List UInt8) (k : Nat) : stB m (k + 1) = compress roundKs (stB m k) (chunkAt m k) := by
  rw [← stL_range, List.range_succ, stL_snoc, stL_range]
theorem range_snoc {α : Type} (f : Nat → α) (k : Nat) : (List.range (k + 1)).map f = (List.range k).map f ++ [f k] := by rw [List.range_succ]; simp
/-- What a round of the sum leaves as it is; hl: the words of h. -/
structure KeepR (g s1 s2 gm gh nb cm ch : Nat) (m : List UInt8) (hl : List Value) (w V : World) : Prop where
  msg : V.ownsRow (g + 1) 5 1 (.slice (some ⟨gm, 0, none⟩) (64 * nb) cm) (64 * nb) (m.map B)
  hs : V.ownsRow s1 175 1 (.slice (some ⟨gh, 0, none⟩) 8 ch) 8 hl
  res : Blk V g 46 (List.replicate 32 (B 0))
  low : Below g w V
  sz : s2 ≤ V.heap.size
  lm : gm < s2
  lh : gh < s2
  lg : g < s2
  mh : gm < gh
  g0 : g < gh
section
variable {g s1 s2 s3 gm gh nb cm ch : Nat} {m : List UInt8} {hl : List Value} {w V V' : World}
theorem KeepR.grown {row : Option Nat} (h : KeepR g s1 s2 gm gh nb cm ch m hl w V) (hg : V.grownBy V' row) (hr : ∀ k, row = some k → s2 ≤ k) : KeepR g s1 s2 gm gh nb cm ch m hl w V' :=
  ⟨own_kept h.msg hg (fun k hk e => by cases hk; have := hr _ e.symm; have := h.lm; omega), own_kept h.hs hg (fun k hk e => by cases hk; have := hr _ e.symm; have := h.lh; omega),
   h.res.grown hg (fun e => by have := hr _ e.symm; have := h.lg; omega), h.low.grown hg (Nat.le_trans (Nat.le_of_lt h.lg) h.sz) (fun k hk => by have := hr k hk; have := h.lg; omega), Nat.le_trans h.sz hg.size, h.lm, h.lh, h.lg, h.mh, h.g0⟩
theorem KeepR.drawn (h : KeepR g s1 s2 gm gh nb cm ch m hl w V) (hd : Drawn V V') : KeepR g s1 s2 gm gh nb cm ch m hl w V' :=
  ⟨hd.own h.msg, hd.own h.hs, hd.blk h.res, hd.below h.low, by rw [hd.size]; exact h.sz, h.lm, h.lh, h.lg, h.mh, h.g0⟩
theorem KeepR.more (h : KeepR g s1 s2 gm gh nb cm ch m hl w V) (h1 : s2 ≤ s3) (h2 : s3 ≤ V.heap.size) : KeepR g s1 s3 gm gh nb cm ch m hl w V :=
  ⟨h.msg, h.hs, h.res, h.low, h2, Nat.lt_of_lt_of_le h.lm h1, Nat.lt_of_lt_of_le h.lh h1, Nat.lt_of_lt_of_le h.lg h1, h.mh, h.g0⟩
theorem KeepR.less (h : KeepR g s1 s3 gm gh nb cm ch m hl w V) (h1 : s2 ≤ s3) (lm : gm < s2) (lh : gh < s2) (lg : g < s2) : KeepR g s1 s2 gm gh nb cm ch m hl w V :=
  ⟨h.msg, h.hs, h.res, h.low, Nat.le_trans h1 h.sz, lm, lh, lg, h.mh, h.g0⟩
theorem KeepR.store (h : KeepR g s1 s2 gm gh nb cm ch m hl w V) (k : Nat) (v : Value) : KeepR g s1 s2 gm gh nb cm ch m (hl.set k v) w (V.setCell ⟨gh, k, none⟩ v) :=
  have hg := grown_set V gh k v
  ⟨own_kept h.msg hg (fun j hj e => by cases hj; have := h.mh; cases e; omega), (h.hs.stored k v).1, h.res.grown hg (fun e => by have := h.g0; cases e; omega), h.low.grown hg (Nat.le_trans (Nat.le_of_lt h.lg) h.sz) (fun j hj => by cases hj; exact Nat.le_of_lt h.g0),
   Nat.le_trans h.sz hg.size, h.lm, h.lh, h.lg, h.mh, h.g0⟩
end
theorem range_getD {α : Type} (f : UInt8 → α) (l : List UInt8) (n : Nat) (h : l.length = n) : (List.range n).map (fun i => f (l[i]?.getD 0)) = l.map f := by
  apply List.ext_getElem (by simp [h])
  intro i h1 h2
  have hi : i < l.length := by simpa using h2
  simp [hi]
/-- h added to, as far as k. -/
def upTo8 (s t : St) (k : Nat) (xs : List Value) : Prop := xs.length = 8 ∧ (∀ i, i < k → xs[i]? = some (W ((s.add t).at_ i))) ∧ ∀ i, k ≤ i → i < 8 → xs[i]? = some (W (s.at_ i))
theorem upTo8_zero (s t : St) : upTo8 s t 0 (s.toList.map W) := ⟨rfl, fun i hi => absurd hi (by omega), fun i _ hi => s.get_at i hi⟩
theorem upTo8_all {s t : St} {xs : List Value} (h : upTo8 s t 8 xs) : xs = (s.add t).toList.map W := by
  apply List.ext_getElem?
  intro i
  by_cases hi : i < 8
  · rw [h.2.1 i hi, (s.add t).get_at i hi]
  · rw [List.getElem?_eq_none (by rw [h.1]; omega), List.getElem?_eq_none (by rw [List.length_map, St.length]; omega)]
theorem upTo8_set {s t : St} {k : Nat} {xs : List Value} (h : upTo8 s t k xs) (hk : k < 8) : upTo8 s t (k + 1) (xs.set k (W (s.at_ k + t.at_ k))) := by
  refine ⟨by rw [List.length_set]; exact h.1, fun i hi => ?_, fun i h1 h2 => ?_⟩
  · rw [List.getElem?_set]
    by_cases e : k = i
    · subst e
      rw [if_pos rfl, if_pos (by rw [h.1]; exact hk), St.add_at s t k hk]
    · rw [if_neg e]; exact h.2.1 i (by omega)
  · rw [List.getElem?_set, if_neg (by omega)]
    exact h.2.2 i (by omega) h2
theorem outB_get (s : St) (i : Nat) (hi : i < 32) : (outB s)[i]? = some (beByte (s.at_ (i / 4)).toNat 4 (i % 4)) := by
  have h1 := outB_take s (i / 4) (by omega)
  have hl1 : ((outB s).take (4 * (i / 4))).length = 4 * (i / 4) := by rw [List.length_take, outB_length]; omega
  have h2 : (outB s)[i]? = ((outB s).take (4 * (i / 4 + 1)))[i]? := by rw [List.getElem?_take_of_lt (by omega)]
  rw [h2, h1, List.getElem?_append_right (by rw [hl1]; omega), hl1, show i - 4 * (i / 4) = i % 4 by omega, beBytes, List.getElem?_map, List.getElem?_range (by omega)]
  rfl
def loopsOf : Code → List Code
  | .loop c => c :: loopsOf c
  | .seq a b => loopsOf a ++ loopsOf b
  | .block _ c => loopsOf c
  | .scope c => loopsOf c
  | .cond _ a b => loopsOf a ++ loopsOf b
  | _ => []
noncomputable def rsBody (k : Nat) : Code := ((Tryz.f87.body.map loopsOf).getD []).getD k .skip
end Go.Proofs.YtnnjjbkdjkjnpaaGreatDoor
/- The padding loops of seisinref03.Sum. -/
namespace Go.Proofs.YtnnjjbkdjkjnpaaGreatDoor
open Go.RowKit Go.Shelf
set_option linter.unusedVariables false
attribute [local go_sem ↓ high] add_w
attribute [local go_sem high] xor_w and_w or_w not_w shr_w shl_w wrap_b8
set_option maxRecDepth 100000 in
set_option maxHeartbeats 2000000 in
theorem rs_pad {q_0 q_1 q_2 q_3 q_4 q_5 q_6 q_8 q_9 q_10 q_11 q_12 q_13 q_14 q_15 q_16 q_17 q_18 q_19 q_20 q_21 q_22 q_23 q_24 q_25 q_26 q_27 q_28 q_29 q_30 q_31 q_32 q_33 q_34 q_35 q_36 q_37 q_38 q_39 q_40 q_41 q_42 q_43 q_44 q_45 q_46 q_47 q_48 q_49 q_50 q_51 q_52 q_53 q_54 q_55 q_56 q_57 q_58 q_59 q_60 q_61 q_62 q_63 q_64 q_65 q_66 q_67 q_68 q_69 q_70 q_71 q_72 q_73 q_74 q_75 q_76 q_77 q_78 q_79 q_80 q_81 q_82 q_83 q_84 q_85 q_86 q_87 q_88 q_89 q_90 q_91 q_92 q_93 q_94 q_95 q_96 q_97 q_98 q_99 q_100 q_101 q_102 q_103 q_104 q_105 q_106 q_107 q_108 q_109 q_110 q_111 q_112 q_113 q_114 q_115 q_116 q_117 q_118 q_119 q_120 q_121 q_122 q_123 q_124 q_125 q_126 q_127 q_128 q_129 q_130 q_131 q_132 q_133 q_134 q_135 q_136 q_137 q_138 q_139 q_140 q_141 q_142 q_143 q_144 q_145 q_146 q_147 q_148 q_149 q_150 q_151 q_152 q_153 q_154 q_155 q_156 q_157 q_158 q_159 q_160 q_161 q_162 q_163 q_164 q_165 q_166 q_167 q_168 q_169 q_170 q_171 q_172 q_173 q_174 q_175 q_176 q_177 q_178 q_179 q_180 q_181 q_182 q_183 q_184 q_185 q_186 q_187 q_188 q_189 q_190 q_191 q_192 q_193 q_194 q_195 q_196 q_197 q_198 q_199 q_200 q_201 q_202 q_203 q_204 q_205 q_206 q_207 q_208 q_209 q_210 q_211 q_212 q_213 q_214 q_215 q_216 q_217 q_218 q_219 q_220 q_221 q_222 q_223 q_224 q_225 q_226 q_227 q_228 q_229 q_230 q_231 q_232 q_233 q_234 q_235 q_236 q_237 q_238 q_239 q_240 q_241 q_242 q_243 q_244 q_245 q_246 q_247 q_248 q_249 q_250 q_251 q_252 q_253 q_254 q_255 q_256 q_257 q_258 q_259 q_260 q_261 q_262 q_263 q_264 q_265 q_266 q_267 q_268 q_269 q_270 q_271 q_272 q_273 q_274 q_275 q_276 q_277 q_278 q_279 q_280 q_281 q_282 q_283 q_284 q_285 q_286 q_287 q_288 q_289 q_290 q_291 q_292 q_293 q_294 q_295 q_296 q_297 q_298 q_299 q_300 q_301 q_302 q_303 q_304 q_305 q_306 q_307 q_308 q_309 q_310 q_311 q_312 q_313 q_314 q_315 q_316 q_317 q_318 q_319 q_320 q_321 q_322 q_323 : Value} {Q0 : Exit → Act → World → Prop} {g n Z : Nat} {bs : List UInt8} {A3 : Option Addr} {c3 : Nat} {w w3 : World} (HZ : Hid (∀ j, j < Z → (n + 1 + j) % 64 ≠ 56)) (HZE : Hid ((n + 1 + Z) % 64 = 56)) (hl : n ≤ 1099511627776) (hz1 : Z ≤ 63)
    (HO3 : Hid (w3.ownsRow (g + 1) 5 1 (.slice A3 (n + 1) c3) (n + 1) ((bs ++ [128]).map B))) (HB3 : Hid (Blk w3 g 46 (List.replicate 32 (B 0)))) (HBW3 : Hid (Below g w w3)) (HSZ3 : Hid (g + 1 ≤ w3.heap.size))
    (HEX : Hid (∀ {u_30 u_31 u_32 u_33 u_34 u_35 u_36 : Value} {A' : Option Addr} {c' : Nat} {wr : World}, wr.ownsRow (g + 1) 5 1 (.slice A' (n + 1 + Z) c') (n + 1 + Z) ((bs ++ [128] ++ List.replicate Z 0).map B) → Blk wr g 46 (List.replicate 32 (B 0)) → Below g w wr → g + 1 ≤ wr.heap.size → Q0 (.exit 0) ⟨(q_0 :: q_1 :: q_2 :: q_3 :: q_4 :: q_5 :: q_6 :: (.slice A' (n + 1 + Z) c') :: q_8 :: q_9 :: q_10 :: q_11 :: q_12 :: q_13 :: q_14 :: q_15 :: q_16 :: q_17 :: q_18 :: q_19 :: q_20 :: q_21 :: q_22 :: q_23 :: q_24 :: q_25 :: q_26 :: q_27 :: q_28 :: q_29 :: u_30 :: u_31 :: u_32 :: u_33 :: u_34 :: u_35 :: u_36 :: q_37 :: q_38 :: q_39 :: q_40 :: q_41 :: q_42 :: q_43 :: q_44 :: q_45 :: q_46 :: q_47 :: q_48 :: q_49 :: q_50 :: q_51 :: q_52 :: q_53 :: q_54 :: q_55 :: q_56 :: q_57 :: q_58 :: q_59 :: q_60 :: q_61 :: q_62 :: q_63 :: q_64 :: q_65 :: q_66 :: q_67 :: q_68 :: q_69 :: q_70 :: q_71 :: q_72 :: q_73 :: q_74 :: q_75 :: q_76 :: q_77 :: q_78 :: q_79 :: q_80 :: q_81 :: q_82 :: q_83 :: q_84 :: q_85 :: q_86 :: q_87 :: q_88 :: q_89 :: q_90 :: q_91 :: q_92 :: q_93 :: q_94 :: q_95 :: q_96 :: q_97 :: q_98 :: q_99 :: q_100 :: q_101 :: q_102 :: q_103 :: q_104 :: q_105 :: q_106 :: q_107 :: q_108 :: q_109 :: q_110 :: q_111 :: q_112 :: q_113 :: q_114 :: q_115 :: q_116 :: q_117 :: q_118 :: q_119 :: q_120 :: q_121 :: q_122 :: q_123 :: q_124 :: q_125 :: q_126 :: q_127 :: q_128 :: q_129 :: q_130 :: q_131 :: q_132 :: q_133 :: q_134 :: q_135 :: q_136 :: q_137 :: q_138 :: q_139 :: q_140 :: q_141 :: q_142 :: q_143 :: q_144 :: q_145 :: q_146 :: q_147 :: q_148 :: q_149 :: q_150 :: q_151 :: q_152 :: q_153 :: q_154 :: q_155 :: q_156 :: q_157 :: q_158 :: q_159 :: q_160 :: q_161 :: q_162 :: q_163 :: q_164 :: q_165 :: q_166 :: q_167 :: q_168 :: q_169 :: q_170 :: q_171 :: q_172 :: q_173 :: q_174 :: q_175 :: q_176 :: q_177 :: q_178 :: q_179 :: q_180 :: q_181 :: q_182 :: q_183 :: q_184 :: q_185 :: q_186 :: q_187 :: q_188 :: q_189 :: q_190 :: q_191 :: q_192 :: q_193 :: q_194 :: q_195 :: q_196 :: q_197 :: q_198 :: q_199 :: q_200 :: q_201 :: q_202 :: q_203 :: q_204 :: q_205 :: q_206 :: q_207 :: q_208 :: q_209 :: q_210 :: q_211 :: q_212 :: q_213 :: q_214 :: q_215 :: q_216 :: q_217 :: q_218 :: q_219 :: q_220 :: q_221 :: q_222 :: q_223 :: q_224 :: q_225 :: q_226 :: q_227 :: q_228 :: q_229 :: q_230 :: q_231 :: q_232 :: q_233 :: q_234 :: q_235 :: q_236 :: q_237 :: q_238 :: q_239 :: q_240 :: q_241 :: q_242 :: q_243 :: q_244 :: q_245 :: q_246 :: q_247 :: q_248 :: q_249 :: q_250 :: q_251 :: q_252 :: q_253 :: q_254 :: q_255 :: q_256 :: q_257 :: q_258 :: q_259 :: q_260 :: q_261 :: q_262 :: q_263 :: q_264 :: q_265 :: q_266 :: q_267 :: q_268 :: q_269 :: q_270 :: q_271 :: q_272 :: q_273 :: q_274 :: q_275 :: q_276 :: q_277 :: q_278 :: q_279 :: q_280 :: q_281 :: q_282 :: q_283 :: q_284 :: q_285 :: q_286 :: q_287 :: q_288 :: q_289 :: q_290 :: q_291 :: q_292 :: q_293 :: q_294 :: q_295 :: q_296 :: q_297 :: q_298 :: q_299 :: q_300 :: q_301 :: q_302 :: q_303 :: q_304 :: q_305 :: q_306 :: q_307 :: q_308 :: q_309 :: q_310 :: q_311 :: q_312 :: q_313 :: q_314 :: q_315 :: q_316 :: q_317 :: q_318 :: q_319 :: q_320 :: q_321 :: q_322 :: q_323 :: []).toArray, []⟩ wr)) :
    Code.wp Tryz.prog (.loop (rsBody 0)) Q0 ⟨(q_0 :: q_1 :: q_2 :: q_3 :: q_4 :: q_5 :: q_6 :: (.slice A3 (n + 1) c3) :: q_8 :: q_9 :: q_10 :: q_11 :: q_12 :: q_13 :: q_14 :: q_15 :: q_16 :: q_17 :: q_18 :: q_19 :: q_20 :: q_21 :: q_22 :: q_23 :: q_24 :: q_25 :: q_26 :: q_27 :: q_28 :: q_29 :: q_30 :: q_31 :: q_32 :: q_33 :: q_34 :: q_35 :: q_36 :: q_37 :: q_38 :: q_39 :: q_40 :: q_41 :: q_42 :: q_43 :: q_44 :: q_45 :: q_46 :: q_47 :: q_48 :: q_49 :: q_50 :: q_51 :: q_52 :: q_53 :: q_54 :: q_55 :: q_56 :: q_57 :: q_58 :: q_59 :: q_60 :: q_61 :: q_62 :: q_63 :: q_64 :: q_65 :: q_66 :: q_67 :: q_68 :: q_69 :: q_70 :: q_71 :: q_72 :: q_73 :: q_74 :: q_75 :: q_76 :: q_77 :: q_78 :: q_79 :: q_80 :: q_81 :: q_82 :: q_83 :: q_84 :: q_85 :: q_86 :: q_87 :: q_88 :: q_89 :: q_90 :: q_91 :: q_92 :: q_93 :: q_94 :: q_95 :: q_96 :: q_97 :: q_98 :: q_99 :: q_100 :: q_101 :: q_102 :: q_103 :: q_104 :: q_105 :: q_106 :: q_107 :: q_108 :: q_109 :: q_110 :: q_111 :: q_112 :: q_113 :: q_114 :: q_115 :: q_116 :: q_117 :: q_118 :: q_119 :: q_120 :: q_121 :: q_122 :: q_123 :: q_124 :: q_125 :: q_126 :: q_127 :: q_128 :: q_129 :: q_130 :: q_131 :: q_132 :: q_133 :: q_134 :: q_135 :: q_136 :: q_137 :: q_138 :: q_139 :: q_140 :: q_141 :: q_142 :: q_143 :: q_144 :: q_145 :: q_146 :: q_147 :: q_148 :: q_149 :: q_150 :: q_151 :: q_152 :: q_153 :: q_154 :: q_155 :: q_156 :: q_157 :: q_158 :: q_159 :: q_160 :: q_161 :: q_162 :: q_163 :: q_164 :: q_165 :: q_166 :: q_167 :: q_168 :: q_169 :: q_170 :: q_171 :: q_172 :: q_173 :: q_174 :: q_175 :: q_176 :: q_177 :: q_178 :: q_179 :: q_180 :: q_181 :: q_182 :: q_183 :: q_184 :: q_185 :: q_186 :: q_187 :: q_188 :: q_189 :: q_190 :: q_191 :: q_192 :: q_193 :: q_194 :: q_195 :: q_196 :: q_197 :: q_198 :: q_199 :: q_200 :: q_201 :: q_202 :: q_203 :: q_204 :: q_205 :: q_206 :: q_207 :: q_208 :: q_209 :: q_210 :: q_211 :: q_212 :: q_213 :: q_214 :: q_215 :: q_216 :: q_217 :: q_218 :: q_219 :: q_220 :: q_221 :: q_222 :: q_223 :: q_224 :: q_225 :: q_226 :: q_227 :: q_228 :: q_229 :: q_230 :: q_231 :: q_232 :: q_233 :: q_234 :: q_235 :: q_236 :: q_237 :: q_238 :: q_239 :: q_240 :: q_241 :: q_242 :: q_243 :: q_244 :: q_245 :: q_246 :: q_247 :: q_248 :: q_249 :: q_250 :: q_251 :: q_252 :: q_253 :: q_254 :: q_255 :: q_256 :: q_257 :: q_258 :: q_259 :: q_260 :: q_261 :: q_262 :: q_263 :: q_264 :: q_265 :: q_266 :: q_267 :: q_268 :: q_269 :: q_270 :: q_271 :: q_272 :: q_273 :: q_274 :: q_275 :: q_276 :: q_277 :: q_278 :: q_279 :: q_280 :: q_281 :: q_282 :: q_283 :: q_284 :: q_285 :: q_286 :: q_287 :: q_288 :: q_289 :: q_290 :: q_291 :: q_292 :: q_293 :: q_294 :: q_295 :: q_296 :: q_297 :: q_298 :: q_299 :: q_300 :: q_301 :: q_302 :: q_303 :: q_304 :: q_305 :: q_306 :: q_307 :: q_308 :: q_309 :: q_310 :: q_311 :: q_312 :: q_313 :: q_314 :: q_315 :: q_316 :: q_317 :: q_318 :: q_319 :: q_320 :: q_321 :: q_322 :: q_323 :: []).toArray, []⟩ w3 := by
  conv => arg 2; arg 1; whnf
  go_loopw [7] (fun v wr => ∃ j : Nat, ∃ A' c', j ≤ Z ∧ v = .slice A' (n + 1 + j) c' ∧ Hid (wr.ownsRow (g + 1) 5 1 (.slice A' (n + 1 + j) c') (n + 1 + j) ((bs ++ [128] ++ List.replicate j 0).map B)) ∧ Hid (Blk wr g 46 (List.replicate 32 (B 0))) ∧ Hid (Below g w wr) ∧ Hid (g + 1 ≤ wr.heap.size)) (fun v _ => match v with | .slice _ m _ => 2000 + n - m | _ => 0)
  case atStart => exact ⟨0, A3, c3, by omega, rfl, (show w3.ownsRow _ _ _ _ _ _ by simpa [i128] using HO3.out), HB3, HBW3, HSZ3⟩
  case round =>
    obtain ⟨j, A4, c4, hj, rfl, hown, hblk, hbw, hsz⟩ := hrel
    by_cases hlt : j < Z
    · have t1 : (((n + 1 + j : Nat) : Int) % 64 != 56) = true := by
        have := HZ.out j hlt
        rw [bne_iff_ne]; omega
      have t2 : (((n : Int) + 1 + (j : Int)) % 64 != 56) = true := by
        have := HZ.out j hlt
        rw [bne_iff_ne]; omega
      go_wp2_with (at_builtin; refine wpl_app1 rfl rfl el_u8 hown.out rfl (m := 1) rfl rfl ?_ ?_ ?_ hsz.out ?_)
      · simp [Value.oneCell']
      · omega
      · omega
      · intro A5 c5 w5 ho hg _
        have hb3 := below_grown hbw.out hg (by have := hsz.out; omega) (fun j hj => by have := own_from hown.out j hj; omega)
        have HO5 := Lib.hid ho
        have HB5 := Lib.hid (hblk.out.grown hg (fun e => by have := own_from hown.out g e.symm; omega))
        have HBW5 := Lib.hid hb3
        have HSZ5 := Lib.hid (Nat.le_trans hsz.out hg.size)
        clear ho hb3 hg
        go_wp2_with fail
        go_roundw
        case rel =>
          refine ⟨j + 1, A5, c5, by omega, rfl, ?_, HB5, HBW5, HSZ5⟩
          have h5 := HO5.out
          show w5.ownsRow _ _ _ _ _ _
          rw [List.replicate_succ', show n + 1 + (j + 1) = n + 1 + j + 1 by omega]
          simpa [i0] using h5
        case measure => simp; omega
    · obtain rfl : j = Z := by omega
      have t1 : (((n + 1 + j : Nat) : Int) % 64 != 56) = false := by
        have := HZE.out
        rw [bne_eq_false_iff_eq]; omega
      have t2 : (((n : Int) + 1 + (j : Int)) % 64 != 56) = false := by
        have := HZE.out
        rw [bne_eq_false_iff_eq]; omega
      go_wp2_with fail
      exact HEX.out hown.out hblk.out hbw.out hsz.out
end Go.Proofs.YtnnjjbkdjkjnpaaGreatDoor
/- The length loop of seisinref03.Sum. -/
namespace Go.Proofs.YtnnjjbkdjkjnpaaGreatDoor
open Go.RowKit Go.Shelf
set_option linter.unusedVariables false
attribute [local go_sem ↓ high] add_w
attribute [local go_sem high] xor_w and_w or_w not_w shr_w shl_w wrap_b8
attribute [local go_sem ↓ high] not_sub
set_option maxRecDepth 100000 in
set_option maxHeartbeats 4000000 in
theorem rs_bits {q_0 q_1 q_2 q_3 q_4 q_5 q_6 q_10 q_11 q_12 q_13 q_14 q_15 q_16 q_17 q_18 q_19 q_20 q_21 q_22 q_23 q_24 q_25 q_26 q_27 q_28 q_29 q_30 q_31 q_32 q_33 q_34 q_35 q_36 q_37 q_38 q_39 q_40 q_41 q_42 q_43 q_44 q_45 q_46 q_47 q_48 q_49 q_50 q_51 q_52 q_53 q_54 q_55 q_56 q_57 q_58 q_59 q_60 q_61 q_62 q_63 q_64 q_65 q_66 q_67 q_68 q_69 q_70 q_71 q_72 q_73 q_74 q_75 q_76 q_77 q_78 q_79 q_80 q_81 q_82 q_83 q_84 q_85 q_86 q_87 q_88 q_89 q_90 q_91 q_92 q_93 q_94 q_95 q_96 q_97 q_98 q_99 q_100 q_101 q_102 q_103 q_104 q_105 q_106 q_107 q_108 q_109 q_110 q_111 q_112 q_113 q_114 q_115 q_116 q_117 q_118 q_119 q_120 q_121 q_122 q_123 q_124 q_125 q_126 q_127 q_128 q_129 q_130 q_131 q_132 q_133 q_134 q_135 q_136 q_137 q_138 q_139 q_140 q_141 q_142 q_143 q_144 q_145 q_146 q_147 q_148 q_149 q_150 q_151 q_152 q_153 q_154 q_155 q_156 q_157 q_158 q_159 q_160 q_161 q_162 q_163 q_164 q_165 q_166 q_167 q_168 q_169 q_170 q_171 q_172 q_173 q_174 q_175 q_176 q_177 q_178 q_179 q_180 q_181 q_182 q_183 q_184 q_185 q_186 q_187 q_188 q_189 q_190 q_191 q_192 q_193 q_194 q_195 q_196 q_197 q_198 q_199 q_200 q_201 q_202 q_203 q_204 q_205 q_206 q_207 q_208 q_209 q_210 q_211 q_212 q_213 q_214 q_215 q_216 q_217 q_218 q_219 q_220 q_221 q_222 q_223 q_224 q_225 q_226 q_227 q_228 q_229 q_230 q_231 q_232 q_233 q_234 q_235 q_236 q_237 q_238 q_239 q_240 q_241 q_242 q_243 q_244 q_245 q_246 q_247 q_248 q_249 q_250 q_251 q_252 q_253 q_254 q_255 q_256 q_257 q_258 q_259 q_260 q_261 q_262 q_263 q_264 q_265 q_266 q_267 q_268 q_269 q_270 q_271 q_272 q_273 q_274 q_275 q_276 q_277 q_278 q_279 q_280 q_281 q_282 q_283 q_284 q_285 q_286 q_287 q_288 q_289 q_290 q_291 q_292 q_293 q_294 q_295 q_296 q_297 q_298 q_299 q_300 q_301 q_302 q_303 q_304 q_305 q_306 q_307 q_308 q_309 q_310 q_311 q_312 q_313 q_314 q_315 q_316 q_317 q_318 q_319 q_320 q_321 q_322 q_323 : Value} {Q0 : Exit → Act → World → Prop} {g n j : Nat} {bs : List UInt8} {A4 : Option Addr} {c4 : Nat} {w wo : World} (hl : n ≤ 1099511627776) (hz1 : j ≤ 63)
    (hown : Hid (wo.ownsRow (g + 1) 5 1 (.slice A4 (n + 1 + j) c4) (n + 1 + j) ((bs ++ [128] ++ List.replicate j 0).map B))) (hblk : Hid (Blk wo g 46 (List.replicate 32 (B 0)))) (hbw : Hid (Below g w wo)) (hsz : Hid (g + 1 ≤ wo.heap.size))
    (HEX : Hid (∀ {u_41 u_42 u_43 u_44 u_45 u_46 u_47 u_48 u_49 u_50 u_51 u_52 : Value} {A' : Option Addr} {c' : Nat} {wr : World}, wr.ownsRow (g + 1) 5 1 (.slice A' (n + 1 + j + 8) c') (n + 1 + j + 8) ((bs ++ [128] ++ List.replicate j 0 ++ (beBytes (8 * n) 8).take 8).map B) → Blk wr g 46 (List.replicate 32 (B 0)) → Below g w wr → g + 1 ≤ wr.heap.size → Q0 (.exit 2) ⟨(q_0 :: q_1 :: q_2 :: q_3 :: q_4 :: q_5 :: q_6 :: (.slice A' (n + 1 + j + 8) c') :: (.int .u64 ((n : Int) * 8)) :: (.int .i64 (-1)) :: q_10 :: q_11 :: q_12 :: q_13 :: q_14 :: q_15 :: q_16 :: q_17 :: q_18 :: q_19 :: q_20 :: q_21 :: q_22 :: q_23 :: q_24 :: q_25 :: q_26 :: q_27 :: q_28 :: q_29 :: q_30 :: q_31 :: q_32 :: q_33 :: q_34 :: q_35 :: q_36 :: q_37 :: q_38 :: q_39 :: q_40 :: u_41 :: u_42 :: u_43 :: u_44 :: u_45 :: u_46 :: u_47 :: u_48 :: u_49 :: u_50 :: u_51 :: u_52 :: q_53 :: q_54 :: q_55 :: q_56 :: q_57 :: q_58 :: q_59 :: q_60 :: q_61 :: q_62 :: q_63 :: q_64 :: q_65 :: q_66 :: q_67 :: q_68 :: q_69 :: q_70 :: q_71 :: q_72 :: q_73 :: q_74 :: q_75 :: q_76 :: q_77 :: q_78 :: q_79 :: q_80 :: q_81 :: q_82 :: q_83 :: q_84 :: q_85 :: q_86 :: q_87 :: q_88 :: q_89 :: q_90 :: q_91 :: q_92 :: q_93 :: q_94 :: q_95 :: q_96 :: q_97 :: q_98 :: q_99 :: q_100 :: q_101 :: q_102 :: q_103 :: q_104 :: q_105 :: q_106 :: q_107 :: q_108 :: q_109 :: q_110 :: q_111 :: q_112 :: q_113 :: q_114 :: q_115 :: q_116 :: q_117 :: q_118 :: q_119 :: q_120 :: q_121 :: q_122 :: q_123 :: q_124 :: q_125 :: q_126 :: q_127 :: q_128 :: q_129 :: q_130 :: q_131 :: q_132 :: q_133 :: q_134 :: q_135 :: q_136 :: q_137 :: q_138 :: q_139 :: q_140 :: q_141 :: q_142 :: q_143 :: q_144 :: q_145 :: q_146 :: q_147 :: q_148 :: q_149 :: q_150 :: q_151 :: q_152 :: q_153 :: q_154 :: q_155 :: q_156 :: q_157 :: q_158 :: q_159 :: q_160 :: q_161 :: q_162 :: q_163 :: q_164 :: q_165 :: q_166 :: q_167 :: q_168 :: q_169 :: q_170 :: q_171 :: q_172 :: q_173 :: q_174 :: q_175 :: q_176 :: q_177 :: q_178 :: q_179 :: q_180 :: q_181 :: q_182 :: q_183 :: q_184 :: q_185 :: q_186 :: q_187 :: q_188 :: q_189 :: q_190 :: q_191 :: q_192 :: q_193 :: q_194 :: q_195 :: q_196 :: q_197 :: q_198 :: q_199 :: q_200 :: q_201 :: q_202 :: q_203 :: q_204 :: q_205 :: q_206 :: q_207 :: q_208 :: q_209 :: q_210 :: q_211 :: q_212 :: q_213 :: q_214 :: q_215 :: q_216 :: q_217 :: q_218 :: q_219 :: q_220 :: q_221 :: q_222 :: q_223 :: q_224 :: q_225 :: q_226 :: q_227 :: q_228 :: q_229 :: q_230 :: q_231 :: q_232 :: q_233 :: q_234 :: q_235 :: q_236 :: q_237 :: q_238 :: q_239 :: q_240 :: q_241 :: q_242 :: q_243 :: q_244 :: q_245 :: q_246 :: q_247 :: q_248 :: q_249 :: q_250 :: q_251 :: q_252 :: q_253 :: q_254 :: q_255 :: q_256 :: q_257 :: q_258 :: q_259 :: q_260 :: q_261 :: q_262 :: q_263 :: q_264 :: q_265 :: q_266 :: q_267 :: q_268 :: q_269 :: q_270 :: q_271 :: q_272 :: q_273 :: q_274 :: q_275 :: q_276 :: q_277 :: q_278 :: q_279 :: q_280 :: q_281 :: q_282 :: q_283 :: q_284 :: q_285 :: q_286 :: q_287 :: q_288 :: q_289 :: q_290 :: q_291 :: q_292 :: q_293 :: q_294 :: q_295 :: q_296 :: q_297 :: q_298 :: q_299 :: q_300 :: q_301 :: q_302 :: q_303 :: q_304 :: q_305 :: q_306 :: q_307 :: q_308 :: q_309 :: q_310 :: q_311 :: q_312 :: q_313 :: q_314 :: q_315 :: q_316 :: q_317 :: q_318 :: q_319 :: q_320 :: q_321 :: q_322 :: q_323 :: []).toArray, []⟩ wr)) :
    Code.wp Tryz.prog (.loop (rsBody 1)) Q0 ⟨(q_0 :: q_1 :: q_2 :: q_3 :: q_4 :: q_5 :: q_6 :: (.slice A4 (n + 1 + j) c4) :: (.int .u64 ((n : Int) * 8)) :: (.int .i64 7) :: q_10 :: q_11 :: q_12 :: q_13 :: q_14 :: q_15 :: q_16 :: q_17 :: q_18 :: q_19 :: q_20 :: q_21 :: q_22 :: q_23 :: q_24 :: q_25 :: q_26 :: q_27 :: q_28 :: q_29 :: q_30 :: q_31 :: q_32 :: q_33 :: q_34 :: q_35 :: q_36 :: q_37 :: q_38 :: q_39 :: q_40 :: q_41 :: q_42 :: q_43 :: q_44 :: q_45 :: q_46 :: q_47 :: q_48 :: q_49 :: q_50 :: q_51 :: q_52 :: q_53 :: q_54 :: q_55 :: q_56 :: q_57 :: q_58 :: q_59 :: q_60 :: q_61 :: q_62 :: q_63 :: q_64 :: q_65 :: q_66 :: q_67 :: q_68 :: q_69 :: q_70 :: q_71 :: q_72 :: q_73 :: q_74 :: q_75 :: q_76 :: q_77 :: q_78 :: q_79 :: q_80 :: q_81 :: q_82 :: q_83 :: q_84 :: q_85 :: q_86 :: q_87 :: q_88 :: q_89 :: q_90 :: q_91 :: q_92 :: q_93 :: q_94 :: q_95 :: q_96 :: q_97 :: q_98 :: q_99 :: q_100 :: q_101 :: q_102 :: q_103 :: q_104 :: q_105 :: q_106 :: q_107 :: q_108 :: q_109 :: q_110 :: q_111 :: q_112 :: q_113 :: q_114 :: q_115 :: q_116 :: q_117 :: q_118 :: q_119 :: q_120 :: q_121 :: q_122 :: q_123 :: q_124 :: q_125 :: q_126 :: q_127 :: q_128 :: q_129 :: q_130 :: q_131 :: q_132 :: q_133 :: q_134 :: q_135 :: q_136 :: q_137 :: q_138 :: q_139 :: q_140 :: q_141 :: q_142 :: q_143 :: q_144 :: q_145 :: q_146 :: q_147 :: q_148 :: q_149 :: q_150 :: q_151 :: q_152 :: q_153 :: q_154 :: q_155 :: q_156 :: q_157 :: q_158 :: q_159 :: q_160 :: q_161 :: q_162 :: q_163 :: q_164 :: q_165 :: q_166 :: q_167 :: q_168 :: q_169 :: q_170 :: q_171 :: q_172 :: q_173 :: q_174 :: q_175 :: q_176 :: q_177 :: q_178 :: q_179 :: q_180 :: q_181 :: q_182 :: q_183 :: q_184 :: q_185 :: q_186 :: q_187 :: q_188 :: q_189 :: q_190 :: q_191 :: q_192 :: q_193 :: q_194 :: q_195 :: q_196 :: q_197 :: q_198 :: q_199 :: q_200 :: q_201 :: q_202 :: q_203 :: q_204 :: q_205 :: q_206 :: q_207 :: q_208 :: q_209 :: q_210 :: q_211 :: q_212 :: q_213 :: q_214 :: q_215 :: q_216 :: q_217 :: q_218 :: q_219 :: q_220 :: q_221 :: q_222 :: q_223 :: q_224 :: q_225 :: q_226 :: q_227 :: q_228 :: q_229 :: q_230 :: q_231 :: q_232 :: q_233 :: q_234 :: q_235 :: q_236 :: q_237 :: q_238 :: q_239 :: q_240 :: q_241 :: q_242 :: q_243 :: q_244 :: q_245 :: q_246 :: q_247 :: q_248 :: q_249 :: q_250 :: q_251 :: q_252 :: q_253 :: q_254 :: q_255 :: q_256 :: q_257 :: q_258 :: q_259 :: q_260 :: q_261 :: q_262 :: q_263 :: q_264 :: q_265 :: q_266 :: q_267 :: q_268 :: q_269 :: q_270 :: q_271 :: q_272 :: q_273 :: q_274 :: q_275 :: q_276 :: q_277 :: q_278 :: q_279 :: q_280 :: q_281 :: q_282 :: q_283 :: q_284 :: q_285 :: q_286 :: q_287 :: q_288 :: q_289 :: q_290 :: q_291 :: q_292 :: q_293 :: q_294 :: q_295 :: q_296 :: q_297 :: q_298 :: q_299 :: q_300 :: q_301 :: q_302 :: q_303 :: q_304 :: q_305 :: q_306 :: q_307 :: q_308 :: q_309 :: q_310 :: q_311 :: q_312 :: q_313 :: q_314 :: q_315 :: q_316 :: q_317 :: q_318 :: q_319 :: q_320 :: q_321 :: q_322 :: q_323 :: []).toArray, []⟩ wo := by
  conv => arg 2; arg 1; whnf
  have b0 : (n : Int) * 8 ≤ 18446744073709551615 := by omega
  go_loopw [7, 9] (fun v i wr => ∃ k : Nat, ∃ A' c', k ≤ 8 ∧ i = .int .i64 (7 - (k : Int)) ∧ v = .slice A' (n + 1 + j + k) c' ∧ Hid (wr.ownsRow (g + 1) 5 1 (.slice A' (n + 1 + j + k) c') (n + 1 + j + k) ((bs ++ [128] ++ List.replicate j 0 ++ (beBytes (8 * n) 8).take k).map B)) ∧ Hid (Blk wr g 46 (List.replicate 32 (B 0))) ∧ Hid (Below g w wr) ∧ Hid (g + 1 ≤ wr.heap.size)) (fun v i _ => (intOf i + 1).toNat)
  case atStart => exact ⟨0, A4, c4, by omega, rfl, rfl, (show wo.ownsRow _ _ _ _ _ _ by simpa using hown.out), hblk, hbw, hsz⟩
  case round =>
    clear hown hblk hbw hsz
    obtain ⟨k, A5, c5, hk, rfl, rfl, hown, hblk, hbw, hsz⟩ := hrel
    by_cases hlt : k < 8
    · as_aux_lemma =>
      have hbyte : ((n : Int) * 8) / 2 ^ (8 * (7 - k)) % 256 = b8 (beByte (8 * n) 8 k) := by
        have := beByte_div (8 * n) 8 k
        rw [show (n : Int) * 8 = ((8 * n : Nat) : Int) by omega]
        exact this
      have s0 : 0 ≤ 8 * (7 - (k : Int)) := by omega
      have s1 : 8 * (7 - (k : Int)) ≤ 63 := by omega
      have s2 : (8 * (7 - (k : Int))).toNat = 8 * (7 - k) := by omega
      have HSN := Lib.hid (show (beBytes (8 * n) 8).take (k + 1) = (beBytes (8 * n) 8).take k ++ [beByte (8 * n) 8 k] by
        rw [beBytes, ← List.map_take, ← List.map_take, List.take_range, List.take_range, Nat.min_eq_left (by omega), Nat.min_eq_left (by omega), List.range_succ]; simp)
      go_wp2_with (at_builtin; refine wpl_app1 rfl rfl el_u8 hown.out rfl (m := 1) rfl rfl ?_ ?_ ?_ hsz.out ?_)
      · simp [Value.oneCell']
      · omega
      · omega
      · intro A6 c6 w6 ho hg _
        have hb3 := below_grown hbw.out hg (by have := hsz.out; omega) (fun j hj => by have := own_from hown.out j hj; omega)
        have HO5 := Lib.hid ho
        have HB5 := Lib.hid (hblk.out.grown hg (fun e => by have := own_from hown.out g e.symm; omega))
        have HBW5 := Lib.hid hb3
        have HSZ5 := Lib.hid (Nat.le_trans hsz.out hg.size)
        clear ho hb3 hg
        go_wp2_with fail
        go_roundw
        case rel =>
          refine ⟨k + 1, A6, c6, by omega, by go_num, rfl, ?_, HB5, HBW5, HSZ5⟩
          have h5 := HO5.out
          show w6.ownsRow _ _ _ _ _ _
          rw [HSN.out, show n + 1 + j + (k + 1) = n + 1 + j + k + 1 by omega, ← List.append_assoc]
          simpa [show Value.int .u8 (b8 (beByte (8 * n) 8 k)) = B (beByte (8 * n) 8 k) from rfl] using h5
        case measure => simp [intOf]; omega
    · obtain rfl : k = 8 := by omega
      rw [show (7 - ((8 : Nat) : Int)) = -1 by omega]
      go_wp2_with fail
      exact HEX.out hown.out hblk.out hbw.out hsz.out
end Go.Proofs.YtnnjjbkdjkjnpaaGreatDoor
/- The last loop of seisinref03.Sum. -/
namespace Go.Proofs.YtnnjjbkdjkjnpaaGreatDoor
open Go.RowKit Go.Shelf
set_option linter.unusedVariables false
attribute [local go_sem ↓ high] add_w
attribute [local go_sem high] xor_w and_w or_w not_w shr_w shl_w wrap_b8
attribute [local go_sem ↓ high] not_sub
set_option maxRecDepth 100000 in
set_option maxHeartbeats 4000000 in
theorem rs_out {q_0 q_2 q_3 q_4 q_5 q_6 q_7 q_8 q_9 q_10 q_11 q_12 q_13 q_14 q_15 q_16 q_17 q_18 q_19 q_20 q_21 q_22 q_25 q_26 q_27 q_28 q_29 q_30 q_31 q_32 q_33 q_34 q_35 q_36 q_37 q_38 q_39 q_40 q_41 q_42 q_43 q_44 q_45 q_46 q_47 q_48 q_49 q_50 q_51 q_52 q_53 q_54 q_55 q_56 q_57 q_58 q_59 q_60 q_61 q_62 q_63 q_64 q_65 q_66 q_67 q_68 q_69 q_70 q_71 q_72 q_73 q_74 q_75 q_76 q_77 q_78 q_79 q_80 q_81 q_82 q_83 q_84 q_85 q_86 q_87 q_88 q_89 q_90 q_91 q_92 q_93 q_94 q_95 q_96 q_97 q_98 q_99 q_100 q_101 q_102 q_103 q_104 q_105 q_106 q_107 q_108 q_109 q_110 q_111 q_112 q_113 q_114 q_115 q_116 q_117 q_118 q_119 q_120 q_121 q_122 q_123 q_124 q_125 q_126 q_127 q_128 q_129 q_130 q_131 q_132 q_133 q_134 q_135 q_136 q_137 q_138 q_139 q_140 q_141 q_142 q_143 q_144 q_145 q_146 q_147 q_148 q_149 q_150 q_151 q_152 q_153 q_154 q_155 q_156 q_157 q_158 q_159 q_160 q_161 q_162 q_163 q_164 q_165 q_166 q_167 q_168 q_169 q_170 q_171 q_172 q_173 q_174 q_175 q_176 q_177 q_178 q_179 q_180 q_181 q_182 q_183 q_184 q_185 q_186 q_187 q_188 q_189 q_190 q_191 q_192 q_193 q_194 q_195 q_196 q_197 q_198 q_199 q_200 q_201 q_202 q_203 q_204 q_205 q_206 q_207 q_208 q_209 q_210 q_211 q_212 q_213 q_214 q_215 q_216 q_217 q_218 q_219 q_220 q_221 q_222 q_223 q_224 q_225 q_226 q_227 q_228 q_229 q_230 q_231 q_232 q_233 q_234 q_235 q_236 q_237 q_238 q_239 q_240 q_241 q_242 q_243 q_244 q_245 q_246 q_247 q_248 q_249 q_250 q_251 q_252 q_253 q_254 q_255 q_256 q_257 q_258 q_259 q_260 q_261 q_262 q_263 q_264 q_265 q_266 q_267 q_268 q_269 q_270 q_271 q_272 q_273 q_274 q_275 q_276 q_277 q_278 q_279 q_280 q_281 q_282 q_283 q_284 q_285 q_286 q_287 q_288 q_289 q_290 q_291 q_292 q_293 q_294 q_295 q_296 q_297 q_298 q_299 q_300 q_301 q_302 q_303 q_304 q_305 q_306 q_307 q_308 q_309 q_310 q_311 q_312 q_313 q_314 q_315 q_316 q_317 q_318 q_319 q_320 q_321 q_322 q_323 : Value} {Q0 : Exit → Act → World → Prop} {g s1 s2 gm gh go b c5 c7 : Nat} {M : List UInt8} {st : St} {w wf : World} (HGO : Hid (s2 ≤ go))
    (HOUT : Hid (Blk wf go 46 (List.replicate 32 (B 0)))) (HKO : Hid (KeepR g s1 s2 gm gh b c5 c7 M (st.toList.map W) w wf))
    (HEX : Hid (∀ {u_306 u_307 u_308 u_309 u_310 u_311 u_312 u_313 u_314 u_315 u_316 u_317 u_318 u_319 u_320 u_321 u_322 : Value} {wr : World}, Blk wr go 46 ((outB st).map B) → KeepR g s1 s2 gm gh b c5 c7 M (st.toList.map W) w wr → Q0 (.exit 12) ⟨(q_0 :: (.slice (some ⟨gh, 0, none⟩) 8 c7) :: q_2 :: q_3 :: q_4 :: q_5 :: q_6 :: q_7 :: q_8 :: q_9 :: q_10 :: q_11 :: q_12 :: q_13 :: q_14 :: q_15 :: q_16 :: q_17 :: q_18 :: q_19 :: q_20 :: q_21 :: q_22 :: (.pointer (some ⟨go, 0, none⟩)) :: (.int .i64 32) :: q_25 :: q_26 :: q_27 :: q_28 :: q_29 :: q_30 :: q_31 :: q_32 :: q_33 :: q_34 :: q_35 :: q_36 :: q_37 :: q_38 :: q_39 :: q_40 :: q_41 :: q_42 :: q_43 :: q_44 :: q_45 :: q_46 :: q_47 :: q_48 :: q_49 :: q_50 :: q_51 :: q_52 :: q_53 :: q_54 :: q_55 :: q_56 :: q_57 :: q_58 :: q_59 :: q_60 :: q_61 :: q_62 :: q_63 :: q_64 :: q_65 :: q_66 :: q_67 :: q_68 :: q_69 :: q_70 :: q_71 :: q_72 :: q_73 :: q_74 :: q_75 :: q_76 :: q_77 :: q_78 :: q_79 :: q_80 :: q_81 :: q_82 :: q_83 :: q_84 :: q_85 :: q_86 :: q_87 :: q_88 :: q_89 :: q_90 :: q_91 :: q_92 :: q_93 :: q_94 :: q_95 :: q_96 :: q_97 :: q_98 :: q_99 :: q_100 :: q_101 :: q_102 :: q_103 :: q_104 :: q_105 :: q_106 :: q_107 :: q_108 :: q_109 :: q_110 :: q_111 :: q_112 :: q_113 :: q_114 :: q_115 :: q_116 :: q_117 :: q_118 :: q_119 :: q_120 :: q_121 :: q_122 :: q_123 :: q_124 :: q_125 :: q_126 :: q_127 :: q_128 :: q_129 :: q_130 :: q_131 :: q_132 :: q_133 :: q_134 :: q_135 :: q_136 :: q_137 :: q_138 :: q_139 :: q_140 :: q_141 :: q_142 :: q_143 :: q_144 :: q_145 :: q_146 :: q_147 :: q_148 :: q_149 :: q_150 :: q_151 :: q_152 :: q_153 :: q_154 :: q_155 :: q_156 :: q_157 :: q_158 :: q_159 :: q_160 :: q_161 :: q_162 :: q_163 :: q_164 :: q_165 :: q_166 :: q_167 :: q_168 :: q_169 :: q_170 :: q_171 :: q_172 :: q_173 :: q_174 :: q_175 :: q_176 :: q_177 :: q_178 :: q_179 :: q_180 :: q_181 :: q_182 :: q_183 :: q_184 :: q_185 :: q_186 :: q_187 :: q_188 :: q_189 :: q_190 :: q_191 :: q_192 :: q_193 :: q_194 :: q_195 :: q_196 :: q_197 :: q_198 :: q_199 :: q_200 :: q_201 :: q_202 :: q_203 :: q_204 :: q_205 :: q_206 :: q_207 :: q_208 :: q_209 :: q_210 :: q_211 :: q_212 :: q_213 :: q_214 :: q_215 :: q_216 :: q_217 :: q_218 :: q_219 :: q_220 :: q_221 :: q_222 :: q_223 :: q_224 :: q_225 :: q_226 :: q_227 :: q_228 :: q_229 :: q_230 :: q_231 :: q_232 :: q_233 :: q_234 :: q_235 :: q_236 :: q_237 :: q_238 :: q_239 :: q_240 :: q_241 :: q_242 :: q_243 :: q_244 :: q_245 :: q_246 :: q_247 :: q_248 :: q_249 :: q_250 :: q_251 :: q_252 :: q_253 :: q_254 :: q_255 :: q_256 :: q_257 :: q_258 :: q_259 :: q_260 :: q_261 :: q_262 :: q_263 :: q_264 :: q_265 :: q_266 :: q_267 :: q_268 :: q_269 :: q_270 :: q_271 :: q_272 :: q_273 :: q_274 :: q_275 :: q_276 :: q_277 :: q_278 :: q_279 :: q_280 :: q_281 :: q_282 :: q_283 :: q_284 :: q_285 :: q_286 :: q_287 :: q_288 :: q_289 :: q_290 :: q_291 :: q_292 :: q_293 :: q_294 :: q_295 :: q_296 :: q_297 :: q_298 :: q_299 :: q_300 :: q_301 :: q_302 :: q_303 :: q_304 :: q_305 :: u_306 :: u_307 :: u_308 :: u_309 :: u_310 :: u_311 :: u_312 :: u_313 :: u_314 :: u_315 :: u_316 :: u_317 :: u_318 :: u_319 :: u_320 :: u_321 :: u_322 :: q_323 :: []).toArray, []⟩ wr)) :
    Code.wp Tryz.prog (.loop (rsBody 6)) Q0 ⟨(q_0 :: (.slice (some ⟨gh, 0, none⟩) 8 c7) :: q_2 :: q_3 :: q_4 :: q_5 :: q_6 :: q_7 :: q_8 :: q_9 :: q_10 :: q_11 :: q_12 :: q_13 :: q_14 :: q_15 :: q_16 :: q_17 :: q_18 :: q_19 :: q_20 :: q_21 :: q_22 :: (.pointer (some ⟨go, 0, none⟩)) :: (.int .i64 0) :: q_25 :: q_26 :: q_27 :: q_28 :: q_29 :: q_30 :: q_31 :: q_32 :: q_33 :: q_34 :: q_35 :: q_36 :: q_37 :: q_38 :: q_39 :: q_40 :: q_41 :: q_42 :: q_43 :: q_44 :: q_45 :: q_46 :: q_47 :: q_48 :: q_49 :: q_50 :: q_51 :: q_52 :: q_53 :: q_54 :: q_55 :: q_56 :: q_57 :: q_58 :: q_59 :: q_60 :: q_61 :: q_62 :: q_63 :: q_64 :: q_65 :: q_66 :: q_67 :: q_68 :: q_69 :: q_70 :: q_71 :: q_72 :: q_73 :: q_74 :: q_75 :: q_76 :: q_77 :: q_78 :: q_79 :: q_80 :: q_81 :: q_82 :: q_83 :: q_84 :: q_85 :: q_86 :: q_87 :: q_88 :: q_89 :: q_90 :: q_91 :: q_92 :: q_93 :: q_94 :: q_95 :: q_96 :: q_97 :: q_98 :: q_99 :: q_100 :: q_101 :: q_102 :: q_103 :: q_104 :: q_105 :: q_106 :: q_107 :: q_108 :: q_109 :: q_110 :: q_111 :: q_112 :: q_113 :: q_114 :: q_115 :: q_116 :: q_117 :: q_118 :: q_119 :: q_120 :: q_121 :: q_122 :: q_123 :: q_124 :: q_125 :: q_126 :: q_127 :: q_128 :: q_129 :: q_130 :: q_131 :: q_132 :: q_133 :: q_134 :: q_135 :: q_136 :: q_137 :: q_138 :: q_139 :: q_140 :: q_141 :: q_142 :: q_143 :: q_144 :: q_145 :: q_146 :: q_147 :: q_148 :: q_149 :: q_150 :: q_151 :: q_152 :: q_153 :: q_154 :: q_155 :: q_156 :: q_157 :: q_158 :: q_159 :: q_160 :: q_161 :: q_162 :: q_163 :: q_164 :: q_165 :: q_166 :: q_167 :: q_168 :: q_169 :: q_170 :: q_171 :: q_172 :: q_173 :: q_174 :: q_175 :: q_176 :: q_177 :: q_178 :: q_179 :: q_180 :: q_181 :: q_182 :: q_183 :: q_184 :: q_185 :: q_186 :: q_187 :: q_188 :: q_189 :: q_190 :: q_191 :: q_192 :: q_193 :: q_194 :: q_195 :: q_196 :: q_197 :: q_198 :: q_199 :: q_200 :: q_201 :: q_202 :: q_203 :: q_204 :: q_205 :: q_206 :: q_207 :: q_208 :: q_209 :: q_210 :: q_211 :: q_212 :: q_213 :: q_214 :: q_215 :: q_216 :: q_217 :: q_218 :: q_219 :: q_220 :: q_221 :: q_222 :: q_223 :: q_224 :: q_225 :: q_226 :: q_227 :: q_228 :: q_229 :: q_230 :: q_231 :: q_232 :: q_233 :: q_234 :: q_235 :: q_236 :: q_237 :: q_238 :: q_239 :: q_240 :: q_241 :: q_242 :: q_243 :: q_244 :: q_245 :: q_246 :: q_247 :: q_248 :: q_249 :: q_250 :: q_251 :: q_252 :: q_253 :: q_254 :: q_255 :: q_256 :: q_257 :: q_258 :: q_259 :: q_260 :: q_261 :: q_262 :: q_263 :: q_264 :: q_265 :: q_266 :: q_267 :: q_268 :: q_269 :: q_270 :: q_271 :: q_272 :: q_273 :: q_274 :: q_275 :: q_276 :: q_277 :: q_278 :: q_279 :: q_280 :: q_281 :: q_282 :: q_283 :: q_284 :: q_285 :: q_286 :: q_287 :: q_288 :: q_289 :: q_290 :: q_291 :: q_292 :: q_293 :: q_294 :: q_295 :: q_296 :: q_297 :: q_298 :: q_299 :: q_300 :: q_301 :: q_302 :: q_303 :: q_304 :: q_305 :: q_306 :: q_307 :: q_308 :: q_309 :: q_310 :: q_311 :: q_312 :: q_313 :: q_314 :: q_315 :: q_316 :: q_317 :: q_318 :: q_319 :: q_320 :: q_321 :: q_322 :: q_323 :: []).toArray, []⟩ wf := by
  conv => arg 2; arg 1; whnf
  go_loopw [24] (fun i wr => ∃ k : Nat, ∃ xs : List Value, k ≤ 32 ∧ i = .int .i64 k ∧ Hid (Blk wr go 46 xs) ∧ Hid (xs.length = 32 ∧ ∀ i, i < k → xs[i]? = some (B (((outB st)[i]?).getD 0))) ∧ Hid (KeepR g s1 s2 gm gh b c5 c7 M (st.toList.map W) w wr)) (fun i _ => 32 - (intOf i).toNat)
  case atStart => exact ⟨0, _, by omega, rfl, HOUT, Lib.hid ⟨by simp, fun i hi => absurd hi (by omega)⟩, HKO⟩
  case round =>
    clear HKO HOUT
    obtain ⟨k, xs, hk, rfl, hout, hxs, hkv⟩ := hrel
    by_cases hk32 : k < 32
    · as_aux_lemma =>
      obtain ⟨q, hq⟩ : ∃ q, q = k / 4 := ⟨_, rfl⟩
      obtain ⟨r, hr⟩ : ∃ r, r = k % 4 := ⟨_, rfl⟩
      have HOB := Lib.hid (show (outB st)[k]? = some (beByte (st.at_ q).toNat 4 r) by rw [hq, hr]; exact outB_get st k hk32)
      have gq : q < 8 := by omega
      have gr : r < 4 := by omega
      have y1 : (k : Int) / 4 = (q : Int) := by omega
      have y2 : (k : Int) % 4 = (r : Int) := by omega
      have t4 : (k : Int).tdiv 4 = (q : Int) := by rw [Int.tdiv_eq_ediv_of_nonneg (by omega)]; omega
      have m4 : (k : Int).tmod 4 = (r : Int) := by rw [Int.tmod_eq_emod_of_nonneg (by omega)]; omega
      clear hq hr
      have y4 : IntKind.i64.wrap (8 * (r : Int)) = 8 * (r : Int) := IntWalk.i64_in _ (by omega)
      have y3 : IntKind.i64.wrap (24 - 8 * (r : Int)) = 24 - 8 * (r : Int) := IntWalk.i64_in _ (by omega)
      have s0 : 0 ≤ 24 - 8 * (r : Int) := by omega
      have s1' : 24 - 8 * (r : Int) ≤ 31 := by omega
      have s2' : (24 - 8 * (r : Int)).toNat = 8 * (3 - r) := by omega
      have gk : (k : Int) < 32 := by omega
      have g8 : (q : Int) < 8 := by omega
      have hk6 := hkv.out
      have q1 : wr.cell? ⟨gh, q, none⟩ = some (.int .u32 (w32 (st.at_ q))) := (hk6.hs.cellAt q (by omega)).trans (st.get_at q gq)
      have hfz := hout.out.frozen k
      obtain ⟨u, hcl⟩ : ∃ u, wr.cell? ⟨go, k, none⟩ = some u := ⟨_, hout.out.at_ (List.getElem?_eq_getElem (by rw [hxs.out.1]; omega))⟩
      have HK6 := Lib.hid hk6
      clear hk6 hkv
      generalize st.at_ q = x at *
      have hby : w32 x / 2 ^ (8 * (3 - r)) % 256 = b8 (beByte x.toNat 4 r) := beByte_div x.toNat 4 r
      go_wp2_with fail
      have hset := set_upto (f := fun i => B (((outB st)[i]?).getD 0)) hxs.out.1 hk32 hxs.out.2
      rw [show B (((outB st)[k]?).getD 0) = .int .u8 (b8 (beByte x.toNat 4 r)) by rw [HOB.out]; rfl] at hset
      go_roundw
      case rel => exact ⟨k + 1, _, by omega, by go_num, hout.out.set_ k _, ⟨by simp [hxs.out.1], hset⟩, HK6.out.grown (grown_set wr go k _) (fun j hj => by cases hj; exact HGO.out)⟩
      case measure => simp [intOf]; omega
    · obtain rfl : k = 32 := by omega
      have hxx := eq_of_upto (f := fun i => B (((outB st)[i]?).getD 0)) hxs.out.1 hxs.out.2
      rw [range_getD _ (outB st) 32 (outB_length st)] at hxx
      rw [show ((32 : Nat) : Int) = 32 from rfl]
      rw [hxx] at hout
      go_wp2_with fail
      exact HEX.out hout.out hkv.out
end Go.Proofs.YtnnjjbkdjkjnpaaGreatDoor
