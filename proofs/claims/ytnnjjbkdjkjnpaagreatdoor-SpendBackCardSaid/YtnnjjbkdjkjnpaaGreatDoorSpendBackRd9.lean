/- The schedule loop of seisinref03.Sum. -/
import Derived.Test.YtnnjjbkdjkjnpaaGreatDoorSpendBackRd8
set_option linter.unusedSimpArgs false
set_option linter.unusedVariables false
set_option maxRecDepth 100000
set_option maxHeartbeats 16000000
namespace Go.Proofs.YtnnjjbkdjkjnpaaGreatDoor
open Go.RowKit Go.Shelf
attribute [local go_sem ↓ high] add_w
attribute [local go_sem high] xor_w and_w or_w not_w shr_w shl_w wrap_b8
attribute [local go_sem ↓ high] not_sub
theorem rs_w {q_0 q_1 q_2 q_3 q_4 q_5 q_6 q_8 q_9 q_13 q_14 q_15 q_16 q_17 q_18 q_19 q_20 q_21 q_22 q_23 q_24 q_25 q_26 q_27 q_28 q_29 q_30 q_31 q_32 q_33 q_34 q_35 q_36 q_37 q_38 q_39 q_40 q_41 q_42 q_43 q_44 q_45 q_46 q_47 q_48 q_49 q_50 q_51 q_52 q_53 q_54 q_55 q_56 q_57 q_58 q_59 q_60 q_61 q_62 q_63 q_64 q_65 q_66 q_67 q_68 q_69 q_70 q_71 q_72 q_73 q_74 q_75 q_76 q_77 q_78 q_79 q_80 q_81 q_82 q_83 q_84 q_85 q_86 q_87 q_88 q_89 q_90 q_91 q_92 q_93 q_94 q_95 q_96 q_97 q_98 q_99 q_100 q_101 q_102 q_103 q_104 q_105 q_106 q_107 q_108 q_109 q_110 q_111 q_112 q_113 q_114 q_115 q_116 q_117 q_118 q_119 q_120 q_121 q_122 q_123 q_124 q_125 q_126 q_127 q_128 q_129 q_130 q_131 q_132 q_133 q_134 q_135 q_136 q_137 q_138 q_139 q_140 q_141 q_142 q_143 q_144 q_145 q_146 q_147 q_148 q_149 q_150 q_151 q_152 q_153 q_154 q_155 q_156 q_157 q_158 q_159 q_160 q_161 q_162 q_163 q_164 q_165 q_166 q_167 q_168 q_169 q_170 q_171 q_172 q_173 q_174 q_175 q_176 q_177 q_178 q_179 q_180 q_181 q_182 q_183 q_184 q_185 q_186 q_187 q_188 q_189 q_190 q_191 q_192 q_193 q_194 q_195 q_196 q_197 q_198 q_199 q_200 q_201 q_202 q_203 q_204 q_205 q_206 q_207 q_208 q_209 q_210 q_211 q_212 q_213 q_214 q_215 q_216 q_217 q_218 q_219 q_220 q_221 q_222 q_223 q_224 q_225 q_226 q_227 q_228 q_229 q_230 q_231 q_232 q_233 q_234 q_235 q_236 q_237 q_238 q_239 q_240 q_241 q_242 q_243 q_244 q_245 q_246 q_247 q_248 q_249 q_250 q_251 q_252 q_253 q_254 q_255 q_256 q_257 q_258 q_259 q_260 q_261 q_262 q_263 q_264 q_265 q_266 q_267 q_268 q_269 q_270 q_271 q_272 q_273 q_274 q_275 q_276 q_277 q_278 q_279 q_280 q_281 q_282 q_283 q_284 q_285 q_286 q_287 q_288 q_289 q_290 q_291 q_292 q_293 q_294 q_295 q_296 q_297 q_298 q_299 q_300 q_301 q_302 q_303 q_304 q_305 q_306 q_307 q_308 q_309 q_310 q_311 q_312 q_313 q_314 q_315 q_316 q_317 q_318 q_319 q_320 q_321 q_322 q_323 : Value} {Q0 : Exit → Act → World → Prop} {g s1 s3 gm gh nb b c5 c7 : Nat} {M : List UInt8} {xs0 : List Value} {w wb : World} (HNB : Hid (M.length = 64 * nb)) (hlt : b < nb) (hnb2 : nb ≤ 1000000000000)
  (HK3 : Hid (KeepR g s1 s3 gm gh nb c5 c7 M xs0 w wb))
  (HEX : Hid (∀ {u_13 u_14 u_62 u_63 u_64 u_65 u_66 u_67 u_68 u_69 u_70 u_71 u_72 u_73 u_74 u_75 u_76 u_77 u_78 u_79 u_80 u_81 u_82 u_83 u_84 u_85 u_86 u_87 u_88 u_89 u_90 u_91 u_92 u_93 u_94 u_95 u_96 u_97 u_98 u_99 u_100 u_101 u_102 u_103 u_104 u_105 u_106 u_107 u_108 u_109 u_110 u_111 u_112 u_113 u_114 u_115 u_116 u_117 u_118 u_119 u_120 u_121 u_122 u_123 u_124 u_125 u_126 u_127 u_128 u_129 u_130 u_131 u_132 u_133 u_134 u_135 u_136 u_137 u_138 u_139 u_140 u_141 u_142 u_143 u_144 u_145 u_146 u_147 u_148 u_149 u_150 u_151 u_152 u_153 u_154 u_155 u_156 u_157 u_158 u_159 u_160 u_161 u_162 u_163 u_164 u_165 u_166 u_167 u_168 u_169 : Value} {A' : Option Addr} {c' : Nat} {wr : World}, wr.ownsRow s3 175 1 (.slice A' 64 c') 64 ((List.range 64).map fun i => W (sw (chunkAt M b) i)) → KeepR g s1 s3 gm gh nb c5 c7 M xs0 w wr → Q0 (.exit 6) ⟨(q_0 :: q_1 :: q_2 :: q_3 :: q_4 :: q_5 :: q_6 :: (.slice (some ⟨gm, 0, none⟩) (64 * nb) c5) :: q_8 :: q_9 :: (.int .i64 (64 * (b : Int))) :: (.slice A' 64 c') :: (.int .i64 64) :: u_13 :: u_14 :: q_15 :: q_16 :: q_17 :: q_18 :: q_19 :: q_20 :: q_21 :: q_22 :: q_23 :: q_24 :: q_25 :: q_26 :: q_27 :: q_28 :: q_29 :: q_30 :: q_31 :: q_32 :: q_33 :: q_34 :: q_35 :: q_36 :: q_37 :: q_38 :: q_39 :: q_40 :: q_41 :: q_42 :: q_43 :: q_44 :: q_45 :: q_46 :: q_47 :: q_48 :: q_49 :: q_50 :: q_51 :: q_52 :: q_53 :: q_54 :: q_55 :: q_56 :: q_57 :: q_58 :: q_59 :: q_60 :: q_61 :: u_62 :: u_63 :: u_64 :: u_65 :: u_66 :: u_67 :: u_68 :: u_69 :: u_70 :: u_71 :: u_72 :: u_73 :: u_74 :: u_75 :: u_76 :: u_77 :: u_78 :: u_79 :: u_80 :: u_81 :: u_82 :: u_83 :: u_84 :: u_85 :: u_86 :: u_87 :: u_88 :: u_89 :: u_90 :: u_91 :: u_92 :: u_93 :: u_94 :: u_95 :: u_96 :: u_97 :: u_98 :: u_99 :: u_100 :: u_101 :: u_102 :: u_103 :: u_104 :: u_105 :: u_106 :: u_107 :: u_108 :: u_109 :: u_110 :: u_111 :: u_112 :: u_113 :: u_114 :: u_115 :: u_116 :: u_117 :: u_118 :: u_119 :: u_120 :: u_121 :: u_122 :: u_123 :: u_124 :: u_125 :: u_126 :: u_127 :: u_128 :: u_129 :: u_130 :: u_131 :: u_132 :: u_133 :: u_134 :: u_135 :: u_136 :: u_137 :: u_138 :: u_139 :: u_140 :: u_141 :: u_142 :: u_143 :: u_144 :: u_145 :: u_146 :: u_147 :: u_148 :: u_149 :: u_150 :: u_151 :: u_152 :: u_153 :: u_154 :: u_155 :: u_156 :: u_157 :: u_158 :: u_159 :: u_160 :: u_161 :: u_162 :: u_163 :: u_164 :: u_165 :: u_166 :: u_167 :: u_168 :: u_169 :: q_170 :: q_171 :: q_172 :: q_173 :: q_174 :: q_175 :: q_176 :: q_177 :: q_178 :: q_179 :: q_180 :: q_181 :: q_182 :: q_183 :: q_184 :: q_185 :: q_186 :: q_187 :: q_188 :: q_189 :: q_190 :: q_191 :: q_192 :: q_193 :: q_194 :: q_195 :: q_196 :: q_197 :: q_198 :: q_199 :: q_200 :: q_201 :: q_202 :: q_203 :: q_204 :: q_205 :: q_206 :: q_207 :: q_208 :: q_209 :: q_210 :: q_211 :: q_212 :: q_213 :: q_214 :: q_215 :: q_216 :: q_217 :: q_218 :: q_219 :: q_220 :: q_221 :: q_222 :: q_223 :: q_224 :: q_225 :: q_226 :: q_227 :: q_228 :: q_229 :: q_230 :: q_231 :: q_232 :: q_233 :: q_234 :: q_235 :: q_236 :: q_237 :: q_238 :: q_239 :: q_240 :: q_241 :: q_242 :: q_243 :: q_244 :: q_245 :: q_246 :: q_247 :: q_248 :: q_249 :: q_250 :: q_251 :: q_252 :: q_253 :: q_254 :: q_255 :: q_256 :: q_257 :: q_258 :: q_259 :: q_260 :: q_261 :: q_262 :: q_263 :: q_264 :: q_265 :: q_266 :: q_267 :: q_268 :: q_269 :: q_270 :: q_271 :: q_272 :: q_273 :: q_274 :: q_275 :: q_276 :: q_277 :: q_278 :: q_279 :: q_280 :: q_281 :: q_282 :: q_283 :: q_284 :: q_285 :: q_286 :: q_287 :: q_288 :: q_289 :: q_290 :: q_291 :: q_292 :: q_293 :: q_294 :: q_295 :: q_296 :: q_297 :: q_298 :: q_299 :: q_300 :: q_301 :: q_302 :: q_303 :: q_304 :: q_305 :: q_306 :: q_307 :: q_308 :: q_309 :: q_310 :: q_311 :: q_312 :: q_313 :: q_314 :: q_315 :: q_316 :: q_317 :: q_318 :: q_319 :: q_320 :: q_321 :: q_322 :: q_323 :: []).toArray, []⟩ wr)) :
  Code.wp Tryz.prog (.loop (rsBody 3)) Q0 ⟨(q_0 :: q_1 :: q_2 :: q_3 :: q_4 :: q_5 :: q_6 :: (.slice (some ⟨gm, 0, none⟩) (64 * nb) c5) :: q_8 :: q_9 :: (.int .i64 (64 * (b : Int))) :: (.slice none 0 0) :: (.int .i64 0) :: q_13 :: q_14 :: q_15 :: q_16 :: q_17 :: q_18 :: q_19 :: q_20 :: q_21 :: q_22 :: q_23 :: q_24 :: q_25 :: q_26 :: q_27 :: q_28 :: q_29 :: q_30 :: q_31 :: q_32 :: q_33 :: q_34 :: q_35 :: q_36 :: q_37 :: q_38 :: q_39 :: q_40 :: q_41 :: q_42 :: q_43 :: q_44 :: q_45 :: q_46 :: q_47 :: q_48 :: q_49 :: q_50 :: q_51 :: q_52 :: q_53 :: q_54 :: q_55 :: q_56 :: q_57 :: q_58 :: q_59 :: q_60 :: q_61 :: q_62 :: q_63 :: q_64 :: q_65 :: q_66 :: q_67 :: q_68 :: q_69 :: q_70 :: q_71 :: q_72 :: q_73 :: q_74 :: q_75 :: q_76 :: q_77 :: q_78 :: q_79 :: q_80 :: q_81 :: q_82 :: q_83 :: q_84 :: q_85 :: q_86 :: q_87 :: q_88 :: q_89 :: q_90 :: q_91 :: q_92 :: q_93 :: q_94 :: q_95 :: q_96 :: q_97 :: q_98 :: q_99 :: q_100 :: q_101 :: q_102 :: q_103 :: q_104 :: q_105 :: q_106 :: q_107 :: q_108 :: q_109 :: q_110 :: q_111 :: q_112 :: q_113 :: q_114 :: q_115 :: q_116 :: q_117 :: q_118 :: q_119 :: q_120 :: q_121 :: q_122 :: q_123 :: q_124 :: q_125 :: q_126 :: q_127 :: q_128 :: q_129 :: q_130 :: q_131 :: q_132 :: q_133 :: q_134 :: q_135 :: q_136 :: q_137 :: q_138 :: q_139 :: q_140 :: q_141 :: q_142 :: q_143 :: q_144 :: q_145 :: q_146 :: q_147 :: q_148 :: q_149 :: q_150 :: q_151 :: q_152 :: q_153 :: q_154 :: q_155 :: q_156 :: q_157 :: q_158 :: q_159 :: q_160 :: q_161 :: q_162 :: q_163 :: q_164 :: q_165 :: q_166 :: q_167 :: q_168 :: q_169 :: q_170 :: q_171 :: q_172 :: q_173 :: q_174 :: q_175 :: q_176 :: q_177 :: q_178 :: q_179 :: q_180 :: q_181 :: q_182 :: q_183 :: q_184 :: q_185 :: q_186 :: q_187 :: q_188 :: q_189 :: q_190 :: q_191 :: q_192 :: q_193 :: q_194 :: q_195 :: q_196 :: q_197 :: q_198 :: q_199 :: q_200 :: q_201 :: q_202 :: q_203 :: q_204 :: q_205 :: q_206 :: q_207 :: q_208 :: q_209 :: q_210 :: q_211 :: q_212 :: q_213 :: q_214 :: q_215 :: q_216 :: q_217 :: q_218 :: q_219 :: q_220 :: q_221 :: q_222 :: q_223 :: q_224 :: q_225 :: q_226 :: q_227 :: q_228 :: q_229 :: q_230 :: q_231 :: q_232 :: q_233 :: q_234 :: q_235 :: q_236 :: q_237 :: q_238 :: q_239 :: q_240 :: q_241 :: q_242 :: q_243 :: q_244 :: q_245 :: q_246 :: q_247 :: q_248 :: q_249 :: q_250 :: q_251 :: q_252 :: q_253 :: q_254 :: q_255 :: q_256 :: q_257 :: q_258 :: q_259 :: q_260 :: q_261 :: q_262 :: q_263 :: q_264 :: q_265 :: q_266 :: q_267 :: q_268 :: q_269 :: q_270 :: q_271 :: q_272 :: q_273 :: q_274 :: q_275 :: q_276 :: q_277 :: q_278 :: q_279 :: q_280 :: q_281 :: q_282 :: q_283 :: q_284 :: q_285 :: q_286 :: q_287 :: q_288 :: q_289 :: q_290 :: q_291 :: q_292 :: q_293 :: q_294 :: q_295 :: q_296 :: q_297 :: q_298 :: q_299 :: q_300 :: q_301 :: q_302 :: q_303 :: q_304 :: q_305 :: q_306 :: q_307 :: q_308 :: q_309 :: q_310 :: q_311 :: q_312 :: q_313 :: q_314 :: q_315 :: q_316 :: q_317 :: q_318 :: q_319 :: q_320 :: q_321 :: q_322 :: q_323 :: []).toArray, []⟩ wb := by
 conv => arg 2; arg 1; whnf
 go_loopw [11, 12] (fun v i wr => ∃ k : Nat, ∃ A' c', k ≤ 64 ∧ i = .int .i64 k ∧ v = .slice A' k c' ∧ Hid (wr.ownsRow s3 175 1 (.slice A' k c') k ((List.range k).map fun i => W (sw (chunkAt M b) i))) ∧ Hid (KeepR g s1 s3 gm gh nb c5 c7 M xs0 w wr)) (fun v i _ => 64 - (intOf i).toNat)
 case atStart => exact ⟨0, none, 0, by omega, rfl, rfl, ⟨rfl, .inl ⟨rfl, rfl⟩⟩, HK3⟩
 case round =>
  obtain ⟨k, A8, c8, hk, rfl, rfl, hw, hkp⟩ := hrel
  by_cases hk64 : k < 64
  ·by_cases hk16 : k < 16
   ·as_aux_lemma =>
    have HLC := kp (chunkAt_length M b nb HNB.out hlt)
    have hat : ∀ d, d < 4 → ∃ x, (chunkAt M b)[4 * k + d]?.getD 0 = x ∧ wr.cell? ⟨gm, 64 * b + 4 * k + d, none⟩ = some (.int .u8 (b8 x)) := by
     intro d hd
     refine ⟨_, rfl, ?_⟩
     have h1 := hkp.out.msg.cellAt (64 * b + 4 * k + d) (by omega)
     rw [h1, List.getElem?_map]
     have h2 : (chunkAt M b)[4 * k + d]? = M[64 * b + 4 * k + d]? := by
      unfold chunkAt
      rw [List.getElem?_take_of_lt (by omega), List.getElem?_drop, Nat.add_assoc]
     rw [← h2, List.getElem?_eq_getElem (by rw [HLC.out]; omega)]
     rfl
    obtain ⟨x0, e0, c0⟩ := hat 0 (by omega)
    obtain ⟨x1, e1, c1⟩ := hat 1 (by omega)
    obtain ⟨x2, e2, c2⟩ := hat 2 (by omega)
    obtain ⟨x3, e3, c3⟩ := hat 3 (by omega)
    rw [Nat.add_zero] at c0 e0
    have hword : sw (chunkAt M b) k = word4 x0 x1 x2 x3 := by
     rw [sw_lo _ _ hk16, blkWord, e0, e1, e2, e3]
    have HWORD := kp hword
    clear hword hat e0 e1 e2 e3
    have y0 : IntKind.i64.wrap (4 * (k : Int)) = 4 * (k : Int) := IntWalk.i64_in _ (by omega)
    have y1 : IntKind.i64.wrap (64 * (b : Int) + 4 * (k : Int)) = 64 * (b : Int) + 4 * (k : Int) := IntWalk.i64_in _ (by omega)
    have y2 : IntKind.i64.wrap (64 * (b : Int) + 4 * (k : Int) + 1) = 64 * (b : Int) + 4 * (k : Int) + 1 := IntWalk.i64_in _ (by omega)
    have y3 : IntKind.i64.wrap (64 * (b : Int) + 4 * (k : Int) + 2) = 64 * (b : Int) + 4 * (k : Int) + 2 := IntWalk.i64_in _ (by omega)
    have y4 : IntKind.i64.wrap (64 * (b : Int) + 4 * (k : Int) + 3) = 64 * (b : Int) + 4 * (k : Int) + 3 := IntWalk.i64_in _ (by omega)
    have z1 : (64 * (b : Int) + 4 * (k : Int)).toNat = 64 * b + 4 * k := by omega
    have z2 : (64 * (b : Int) + 4 * (k : Int) + 1).toNat = 64 * b + 4 * k + 1 := by omega
    have z3 : (64 * (b : Int) + 4 * (k : Int) + 2).toNat = 64 * b + 4 * k + 2 := by omega
    have z4 : (64 * (b : Int) + 4 * (k : Int) + 3).toNat = 64 * b + 4 * k + 3 := by omega
    have p1 : 0 ≤ 64 * (b : Int) + 4 * (k : Int) := by omega
    have p2 : 0 ≤ 64 * (b : Int) + 4 * (k : Int) + 1 := by omega
    have p3 : 0 ≤ 64 * (b : Int) + 4 * (k : Int) + 2 := by omega
    have p4 : 0 ≤ 64 * (b : Int) + 4 * (k : Int) + 3 := by omega
    have o1 : 64 * (b : Int) + 4 * (k : Int) < 64 * (nb : Int) := by omega
    have o2 : 64 * (b : Int) + 4 * (k : Int) + 1 < 64 * (nb : Int) := by omega
    have o3 : 64 * (b : Int) + 4 * (k : Int) + 2 < 64 * (nb : Int) := by omega
    have o4 : 64 * (b : Int) + 4 * (k : Int) + 3 < 64 * (nb : Int) := by omega
    have n1 : 64 * b + 4 * k < 64 * nb := by omega
    have n2 : 64 * b + 4 * k + 1 < 64 * nb := by omega
    have n3 : 64 * b + 4 * k + 2 < 64 * nb := by omega
    have n4 : 64 * b + 4 * k + 3 < 64 * nb := by omega
    repeat' (first | (with_reducible refine wp_tail0 (id := 18) 42 (by kernel_rfl) rfl rfl rfl (by kernel_rfl) ?_) | go_values | go_skip | go_guarded | go_step | go_upon | go_back)
    intro w3 hd3
    simp only [List.take_succ_cons, List.take_zero, List.drop_succ_cons, List.drop_zero]
    have a0 := (hd3.cell _).trans c0
    have a1 := (hd3.cell _).trans c1
    have a2 := (hd3.cell _).trans c2
    have a3 := (hd3.cell _).trans c3
    have HW3 := kp (hd3.own hw.out)
    have HP3 := kp (hkp.out.drawn hd3)
    clear c0 c1 c2 c3 hd3
    repeat still_step
    refine wpStill_nil ?_
    clear a0 a1 a2 a3 y0 y1 y2 y3 y4 z1 z2 z3 z4 p1 p2 p3 p4 o1 o2 o3 o4 n1 n2 n3 n4
    go_wp2_with (at_builtin; refine wpl_app1 rfl rfl el_u32 HW3.out rfl (m := 1) rfl rfl ?_ ?_ ?_ HP3.out.sz ?_)
    ·simp [Value.oneCell']
    ·omega
    ·omega
    ·intro A9 c9 w9 ho hg _
     have HO9 := kp ho
     have HP9 := kp (HP3.out.grown hg (fun r hr => own_from HW3.out r (by simpa using hr)))
     clear ho hg
     go_wp2_with fail
     dsimp only [NormalOnly]
     go_wp2_with fail
     go_roundw
     case rel =>
      refine ⟨k + 1, A9, c9, by omega, by go_num, rfl, ?_, HP9⟩
      show w9.ownsRow _ _ _ _ _ _
      rw [range_snoc, HWORD.out, W, word4]
      exact HO9.out
     case measure => simp [intOf]; omega
   ·as_aux_lemma =>
    have hk0 : 16 ≤ k := by omega
    obtain ⟨gw, rfl, hgw1, hgw2, hcw⟩ := own_form hw.out (by omega)
    have hcell : ∀ j, j < k → wr.cell? ⟨gw, j, none⟩ = some (.int .u32 (w32 (sw (chunkAt M b) j))) := by
     intro j hj
     have h1 := hw.out.cellAt j (by omega)
     rw [h1]
     simp [hj, W]
    have c15 := hcell (k - 15) (by omega)
    have HC2 := kp (hcell (k - 2) (by omega))
    have HC16 := kp (hcell (k - 16) (by omega))
    have HC7 := kp (hcell (k - 7) (by omega))
    have hs := sw_hi (chunkAt M b) k hk0 hk64
    have HSW := kp hs; clear hs hcell hgw1 hgw2 hcw
    have j15 : 0 ≤ (k : Int) - 15 := by omega
    have l15 : (k : Int) - 15 < (k : Int) := by omega
    have y15 := IntWalk.i64_in ((k : Int) - 15) (by omega)
    have n15 : 15 ≤ k := by omega
    have p15 : (15 : Int) ≤ k := by omega
    have z15 : ((k : Int) - 15).toNat = k - 15 := by omega
    have m15 : k - 15 < k := by omega
    generalize hx15 : sw (chunkAt M b) (k - 15) = x15 at *
    repeat' (first | (with_reducible refine wp_region_quiet_lit (id := 19) (by kernel_rfl) (by kernel_rfl) ?_) | go_values | go_skip | go_guarded | go_step | go_upon | go_back)
    repeat (quiet_step (fail))
    quiet_step (exact Calls.quiet_of (r7 _ _))
    repeat (quiet_step (fail))
    quiet_step (exact Calls.quiet_of (r18 _ _))
    repeat (quiet_step (fail))
    refine wpQuiet_nil ?_
    intro _ hw'
    obtain ⟨nq, hw''⟩ := hw'
    subst hw''
    clear j15 l15 y15 n15 p15 z15 m15 c15
    have hd1 : Drawn wr (wr.drewN nq) := ⟨nq, rfl⟩
    generalize wr.drewN nq = wr1 at hd1 ⊢
    have c2 := (hd1.cell _).trans HC2.out
    have HD1 := kp hd1; clear hd1 HC2
    have j2 : 0 ≤ (k : Int) - 2 := by omega
    have l2 : (k : Int) - 2 < (k : Int) := by omega
    have y2 := IntWalk.i64_in ((k : Int) - 2) (by omega)
    have n2 : 2 ≤ k := by omega
    have p2 : (2 : Int) ≤ k := by omega
    have z2 : ((k : Int) - 2).toNat = k - 2 := by omega
    have m2 : k - 2 < k := by omega
    generalize hx2 : sw (chunkAt M b) (k - 2) = x2 at *
    repeat' (first | (with_reducible refine wp_region_quiet_lit (id := 20) (by kernel_rfl) (by kernel_rfl) ?_) | go_values | go_skip | go_guarded | go_step | go_upon | go_back)
    repeat (quiet_step (fail))
    quiet_step (exact Calls.quiet_of (r17 _ _))
    repeat (quiet_step (fail))
    quiet_step (exact Calls.quiet_of (r19 _ _))
    repeat (quiet_step (fail))
    refine wpQuiet_nil ?_
    intro _ hw'
    obtain ⟨nq, hw''⟩ := hw'
    subst hw''
    clear j2 l2 y2 n2 p2 z2 m2 c2
    have hd2 : Drawn wr (wr1.drewN nq) := HD1.out.trans ⟨nq, rfl⟩
    generalize wr1.drewN nq = wr2 at hd2 ⊢
    have HD2 := kp hd2; clear hd2
    generalize hx16 : sw (chunkAt M b) (k - 16) = x16 at *
    generalize hx7 : sw (chunkAt M b) (k - 7) = x7 at *
    clear hx15 hx2 hx16 hx7
    repeat' (first | (with_reducible refine wp_tail0 (id := 21) 16 (by kernel_rfl) rfl rfl rfl (by kernel_rfl) ?_) | go_values | go_skip | go_guarded | go_step | go_upon | go_back)
    intro w3 hd3
    simp only [List.take_succ_cons, List.take_zero, List.drop_succ_cons, List.drop_zero]
    have hd4 := HD2.out.trans hd3
    have c16 := (hd4.cell _).trans HC16.out
    have c7 := (hd4.cell _).trans HC7.out
    have HW3 := kp (hd4.own hw.out)
    have HP3 := kp (hkp.out.drawn hd4)
    clear hd3 hd4 HC16 HC7
    have j16 : 0 ≤ (k : Int) - 16 := by omega
    have j7 : 0 ≤ (k : Int) - 7 := by omega
    have l16 : (k : Int) - 16 < (k : Int) := by omega
    have l7 : (k : Int) - 7 < (k : Int) := by omega
    have y16 := IntWalk.i64_in ((k : Int) - 16) (by omega)
    have y7 := IntWalk.i64_in ((k : Int) - 7) (by omega)
    have n7 : 7 ≤ k := by omega
    have p16 : (16 : Int) ≤ k := by omega
    have p7 : (7 : Int) ≤ k := by omega
    have z16 : ((k : Int) - 16).toNat = k - 16 := by omega
    have z7 : ((k : Int) - 7).toNat = k - 7 := by omega
    have m16 : k - 16 < k := by omega
    have m7 : k - 7 < k := by omega
    repeat still_step
    refine wpStill_nil ?_
    clear j16 j7 l16 l7 y16 y7 n7 p16 p7 z16 z7 m16 m7 c16 c7
    go_wp2_with (at_builtin; refine wpl_app1 rfl rfl el_u32 HW3.out rfl (m := 1) rfl rfl ?_ ?_ ?_ HP3.out.sz ?_)
    ·simp [Value.oneCell']
    ·omega
    ·omega
    ·intro A9 c9 w9 ho hg _
     have HO9 := kp ho
     have HP9 := kp (HP3.out.grown hg (fun r hr => own_from HW3.out r (by simpa using hr)))
     clear ho hg
     go_wp2_with fail
     dsimp only [NormalOnly]
     go_wp2_with fail
     go_roundw
     case rel =>
      refine ⟨k + 1, A9, c9, by omega, by go_num, rfl, ?_, HP9⟩
      show w9.ownsRow _ _ _ _ _ _
      rw [range_snoc, HSW.out, W, sig0, sig1]
      exact HO9.out
     case measure => simp [intOf]; omega
  ·obtain rfl : k = 64 := by omega
   rw [show ((64 : Nat) : Int) = 64 from rfl]
   go_wp2_with fail
   exact HEX.out hw.out hkp.out
end Go.Proofs.YtnnjjbkdjkjnpaaGreatDoor
namespace Go.Proofs.YtnnjjbkdjkjnpaaGreatDoor
def regsOf : Code → List (Nat × Code)
 | .region i o d => [(i, .region i o d)]
 | .loop c => regsOf c
 | .seq a b => regsOf a ++ regsOf b
 | .block _ c => regsOf c
 | .scope c => regsOf c
 | .cond _ a b => regsOf a ++ regsOf b
 | _ => []
noncomputable def rsReg (k : Nat) : Code := (((Tryz.f87.body.map regsOf).getD []).find? (fun e => e.1 == k) |>.map (·.2)).getD .skip
open Go.RowKit Go.Shelf
attribute [local go_sem ↓ high] add_w
attribute [local go_sem high] xor_w and_w or_w not_w shr_w shl_w wrap_b8
attribute [local go_sem ↓ high] not_sub
theorem rv26 {q_0 q_1 q_2 q_3 q_4 q_5 q_6 q_7 q_8 q_9 q_10 q_11 q_12 q_13 q_14 q_16 q_17 q_18 q_19 q_20 q_21 q_22 q_23 q_24 q_25 q_26 q_27 q_28 q_29 q_30 q_31 q_32 q_33 q_34 q_35 q_36 q_37 q_38 q_39 q_40 q_41 q_42 q_43 q_44 q_45 q_46 q_47 q_48 q_49 q_50 q_51 q_52 q_53 q_54 q_55 q_56 q_57 q_58 q_59 q_60 q_61 q_62 q_63 q_64 q_65 q_66 q_67 q_68 q_69 q_70 q_71 q_72 q_73 q_74 q_75 q_76 q_77 q_78 q_79 q_80 q_81 q_82 q_83 q_84 q_85 q_86 q_87 q_88 q_89 q_90 q_91 q_92 q_93 q_94 q_95 q_96 q_97 q_98 q_99 q_100 q_101 q_102 q_103 q_104 q_105 q_106 q_107 q_108 q_109 q_110 q_111 q_112 q_113 q_114 q_115 q_116 q_117 q_118 q_119 q_120 q_121 q_122 q_123 q_124 q_125 q_126 q_127 q_128 q_129 q_130 q_131 q_132 q_133 q_134 q_135 q_136 q_137 q_138 q_139 q_140 q_141 q_142 q_143 q_144 q_145 q_146 q_147 q_148 q_149 q_150 q_151 q_152 q_153 q_154 q_155 q_156 q_157 q_158 q_159 q_160 q_161 q_162 q_163 q_164 q_165 q_166 q_167 q_168 q_169 q_170 q_171 q_172 q_173 q_174 q_175 q_176 q_177 q_178 q_179 q_180 q_181 q_182 q_183 q_184 q_185 q_186 q_187 q_188 q_189 q_190 q_191 q_192 q_193 q_194 q_195 q_196 q_197 q_198 q_199 q_200 q_201 q_202 q_203 q_204 q_205 q_206 q_207 q_208 q_209 q_210 q_211 q_212 q_213 q_214 q_215 q_216 q_217 q_218 q_219 q_220 q_221 q_222 q_223 q_224 q_225 q_226 q_227 q_228 q_229 q_230 q_231 q_232 q_233 q_234 q_235 q_236 q_237 q_238 q_239 q_240 q_241 q_242 q_243 q_244 q_245 q_246 q_247 q_248 q_249 q_250 q_251 q_252 q_253 q_254 q_255 q_256 q_257 q_258 q_259 q_260 q_261 q_262 q_263 q_264 q_265 q_266 q_267 q_268 q_269 q_270 q_271 q_272 q_273 q_274 q_275 q_276 q_277 q_278 q_279 q_280 q_281 q_282 q_283 q_284 q_285 q_286 q_287 q_288 q_289 q_290 q_291 q_292 q_293 q_294 q_295 q_296 q_297 q_298 q_299 q_300 q_301 q_302 q_303 q_304 q_305 q_306 q_307 q_308 q_309 q_310 q_311 q_312 q_313 q_314 q_315 q_316 q_317 q_318 q_319 q_320 q_321 q_322 q_323 : Value} {Q0 : Exit → Act → World → Prop} {w : World} {gv : Nat} {c10 : Nat} {se : UInt32}
  (Q4 : Hid (w.cell? ⟨gv, 4, none⟩ = some (.int .u32 (w32 se))))
  (HEX : Hid (∀ {u_177 u_178 u_179 u_180 u_181 u_182 u_183 u_184 u_185 u_186 u_187 u_188 u_189 u_190 : Value} {w' : World}, Drawn w w' → Q0 .normal ⟨(q_0 :: q_1 :: q_2 :: q_3 :: q_4 :: q_5 :: q_6 :: q_7 :: q_8 :: q_9 :: q_10 :: q_11 :: q_12 :: q_13 :: q_14 :: (.slice (some ⟨gv, 0, none⟩) 8 c10) :: q_16 :: (.int .u32 (w32 (rotr se 6 ^^^ rotr se 11 ^^^ rotr se 25))) :: q_18 :: q_19 :: q_20 :: q_21 :: q_22 :: q_23 :: q_24 :: q_25 :: q_26 :: q_27 :: q_28 :: q_29 :: q_30 :: q_31 :: q_32 :: q_33 :: q_34 :: q_35 :: q_36 :: q_37 :: q_38 :: q_39 :: q_40 :: q_41 :: q_42 :: q_43 :: q_44 :: q_45 :: q_46 :: q_47 :: q_48 :: q_49 :: q_50 :: q_51 :: q_52 :: q_53 :: q_54 :: q_55 :: q_56 :: q_57 :: q_58 :: q_59 :: q_60 :: q_61 :: q_62 :: q_63 :: q_64 :: q_65 :: q_66 :: q_67 :: q_68 :: q_69 :: q_70 :: q_71 :: q_72 :: q_73 :: q_74 :: q_75 :: q_76 :: q_77 :: q_78 :: q_79 :: q_80 :: q_81 :: q_82 :: q_83 :: q_84 :: q_85 :: q_86 :: q_87 :: q_88 :: q_89 :: q_90 :: q_91 :: q_92 :: q_93 :: q_94 :: q_95 :: q_96 :: q_97 :: q_98 :: q_99 :: q_100 :: q_101 :: q_102 :: q_103 :: q_104 :: q_105 :: q_106 :: q_107 :: q_108 :: q_109 :: q_110 :: q_111 :: q_112 :: q_113 :: q_114 :: q_115 :: q_116 :: q_117 :: q_118 :: q_119 :: q_120 :: q_121 :: q_122 :: q_123 :: q_124 :: q_125 :: q_126 :: q_127 :: q_128 :: q_129 :: q_130 :: q_131 :: q_132 :: q_133 :: q_134 :: q_135 :: q_136 :: q_137 :: q_138 :: q_139 :: q_140 :: q_141 :: q_142 :: q_143 :: q_144 :: q_145 :: q_146 :: q_147 :: q_148 :: q_149 :: q_150 :: q_151 :: q_152 :: q_153 :: q_154 :: q_155 :: q_156 :: q_157 :: q_158 :: q_159 :: q_160 :: q_161 :: q_162 :: q_163 :: q_164 :: q_165 :: q_166 :: q_167 :: q_168 :: q_169 :: q_170 :: q_171 :: q_172 :: q_173 :: q_174 :: q_175 :: q_176 :: u_177 :: u_178 :: u_179 :: u_180 :: u_181 :: u_182 :: u_183 :: u_184 :: u_185 :: u_186 :: u_187 :: u_188 :: u_189 :: u_190 :: q_191 :: q_192 :: q_193 :: q_194 :: q_195 :: q_196 :: q_197 :: q_198 :: q_199 :: q_200 :: q_201 :: q_202 :: q_203 :: q_204 :: q_205 :: q_206 :: q_207 :: q_208 :: q_209 :: q_210 :: q_211 :: q_212 :: q_213 :: q_214 :: q_215 :: q_216 :: q_217 :: q_218 :: q_219 :: q_220 :: q_221 :: q_222 :: q_223 :: q_224 :: q_225 :: q_226 :: q_227 :: q_228 :: q_229 :: q_230 :: q_231 :: q_232 :: q_233 :: q_234 :: q_235 :: q_236 :: q_237 :: q_238 :: q_239 :: q_240 :: q_241 :: q_242 :: q_243 :: q_244 :: q_245 :: q_246 :: q_247 :: q_248 :: q_249 :: q_250 :: q_251 :: q_252 :: q_253 :: q_254 :: q_255 :: q_256 :: q_257 :: q_258 :: q_259 :: q_260 :: q_261 :: q_262 :: q_263 :: q_264 :: q_265 :: q_266 :: q_267 :: q_268 :: q_269 :: q_270 :: q_271 :: q_272 :: q_273 :: q_274 :: q_275 :: q_276 :: q_277 :: q_278 :: q_279 :: q_280 :: q_281 :: q_282 :: q_283 :: q_284 :: q_285 :: q_286 :: q_287 :: q_288 :: q_289 :: q_290 :: q_291 :: q_292 :: q_293 :: q_294 :: q_295 :: q_296 :: q_297 :: q_298 :: q_299 :: q_300 :: q_301 :: q_302 :: q_303 :: q_304 :: q_305 :: q_306 :: q_307 :: q_308 :: q_309 :: q_310 :: q_311 :: q_312 :: q_313 :: q_314 :: q_315 :: q_316 :: q_317 :: q_318 :: q_319 :: q_320 :: q_321 :: q_322 :: q_323 :: []).toArray, []⟩ w')) :
  Code.wp Tryz.prog (rsReg 26) Q0 ⟨(q_0 :: q_1 :: q_2 :: q_3 :: q_4 :: q_5 :: q_6 :: q_7 :: q_8 :: q_9 :: q_10 :: q_11 :: q_12 :: q_13 :: q_14 :: (.slice (some ⟨gv, 0, none⟩) 8 c10) :: q_16 :: q_17 :: q_18 :: q_19 :: q_20 :: q_21 :: q_22 :: q_23 :: q_24 :: q_25 :: q_26 :: q_27 :: q_28 :: q_29 :: q_30 :: q_31 :: q_32 :: q_33 :: q_34 :: q_35 :: q_36 :: q_37 :: q_38 :: q_39 :: q_40 :: q_41 :: q_42 :: q_43 :: q_44 :: q_45 :: q_46 :: q_47 :: q_48 :: q_49 :: q_50 :: q_51 :: q_52 :: q_53 :: q_54 :: q_55 :: q_56 :: q_57 :: q_58 :: q_59 :: q_60 :: q_61 :: q_62 :: q_63 :: q_64 :: q_65 :: q_66 :: q_67 :: q_68 :: q_69 :: q_70 :: q_71 :: q_72 :: q_73 :: q_74 :: q_75 :: q_76 :: q_77 :: q_78 :: q_79 :: q_80 :: q_81 :: q_82 :: q_83 :: q_84 :: q_85 :: q_86 :: q_87 :: q_88 :: q_89 :: q_90 :: q_91 :: q_92 :: q_93 :: q_94 :: q_95 :: q_96 :: q_97 :: q_98 :: q_99 :: q_100 :: q_101 :: q_102 :: q_103 :: q_104 :: q_105 :: q_106 :: q_107 :: q_108 :: q_109 :: q_110 :: q_111 :: q_112 :: q_113 :: q_114 :: q_115 :: q_116 :: q_117 :: q_118 :: q_119 :: q_120 :: q_121 :: q_122 :: q_123 :: q_124 :: q_125 :: q_126 :: q_127 :: q_128 :: q_129 :: q_130 :: q_131 :: q_132 :: q_133 :: q_134 :: q_135 :: q_136 :: q_137 :: q_138 :: q_139 :: q_140 :: q_141 :: q_142 :: q_143 :: q_144 :: q_145 :: q_146 :: q_147 :: q_148 :: q_149 :: q_150 :: q_151 :: q_152 :: q_153 :: q_154 :: q_155 :: q_156 :: q_157 :: q_158 :: q_159 :: q_160 :: q_161 :: q_162 :: q_163 :: q_164 :: q_165 :: q_166 :: q_167 :: q_168 :: q_169 :: q_170 :: q_171 :: q_172 :: q_173 :: q_174 :: q_175 :: q_176 :: q_177 :: q_178 :: q_179 :: q_180 :: q_181 :: q_182 :: q_183 :: q_184 :: q_185 :: q_186 :: q_187 :: q_188 :: q_189 :: q_190 :: q_191 :: q_192 :: q_193 :: q_194 :: q_195 :: q_196 :: q_197 :: q_198 :: q_199 :: q_200 :: q_201 :: q_202 :: q_203 :: q_204 :: q_205 :: q_206 :: q_207 :: q_208 :: q_209 :: q_210 :: q_211 :: q_212 :: q_213 :: q_214 :: q_215 :: q_216 :: q_217 :: q_218 :: q_219 :: q_220 :: q_221 :: q_222 :: q_223 :: q_224 :: q_225 :: q_226 :: q_227 :: q_228 :: q_229 :: q_230 :: q_231 :: q_232 :: q_233 :: q_234 :: q_235 :: q_236 :: q_237 :: q_238 :: q_239 :: q_240 :: q_241 :: q_242 :: q_243 :: q_244 :: q_245 :: q_246 :: q_247 :: q_248 :: q_249 :: q_250 :: q_251 :: q_252 :: q_253 :: q_254 :: q_255 :: q_256 :: q_257 :: q_258 :: q_259 :: q_260 :: q_261 :: q_262 :: q_263 :: q_264 :: q_265 :: q_266 :: q_267 :: q_268 :: q_269 :: q_270 :: q_271 :: q_272 :: q_273 :: q_274 :: q_275 :: q_276 :: q_277 :: q_278 :: q_279 :: q_280 :: q_281 :: q_282 :: q_283 :: q_284 :: q_285 :: q_286 :: q_287 :: q_288 :: q_289 :: q_290 :: q_291 :: q_292 :: q_293 :: q_294 :: q_295 :: q_296 :: q_297 :: q_298 :: q_299 :: q_300 :: q_301 :: q_302 :: q_303 :: q_304 :: q_305 :: q_306 :: q_307 :: q_308 :: q_309 :: q_310 :: q_311 :: q_312 :: q_313 :: q_314 :: q_315 :: q_316 :: q_317 :: q_318 :: q_319 :: q_320 :: q_321 :: q_322 :: q_323 :: []).toArray, []⟩ w := by
 conv => arg 2; whnf
 with_reducible refine wp_phase (id := 26) (fun (_ : Nat) w' => Drawn w w') [] [(0,0),(0,0),(0,0),(0,0),(0,0),(0,0),(0,0),(0,0),(0,0),(0,0),(0,0),(0,0),(0,0),(0,0),(0,0)] (by kernel_rfl) (by kernel_rfl) ?_ ?_
 ·exact Drawn.one w
 repeat (first | (refine ph_value rfl (by first | rfl | go_simp) (fun k_ _ _ w_ hC_ => by have c0 := (hC_.cell _).trans Q4.out; first | (go_simp; rfl) | (go_simp; done) | rfl) (fun K hK => ?_); go_simp; refine hK _ ?_; clear hK K))
 refine ph_call rfl (by first | rfl | go_simp) (fun w => by first | (go_simp; rfl) | (go_simp; done) | rfl) (fun k _ _ w h => (r6 se w).mono fun e w' ⟨he, m, hm⟩ => ⟨he, h.trans ⟨m, hm⟩⟩) ?_
 (intro K hK; go_simp; refine hK _ ?_; clear hK K)
 repeat (first | (refine ph_value rfl (by first | rfl | go_simp) (fun k_ _ _ w_ hC_ => by have c0 := (hC_.cell _).trans Q4.out; first | (go_simp; rfl) | (go_simp; done) | rfl) (fun K hK => ?_); go_simp; refine hK _ ?_; clear hK K))
 refine ph_call rfl (by first | rfl | go_simp) (fun w => by first | (go_simp; rfl) | (go_simp; done) | rfl) (fun k _ _ w h => (r11 se w).mono fun e w' ⟨he, m, hm⟩ => ⟨he, h.trans ⟨m, hm⟩⟩) ?_
 (intro K hK; go_simp; refine hK _ ?_; clear hK K)
 repeat (first | (refine ph_value rfl (by first | rfl | go_simp) (fun k_ _ _ w_ hC_ => by have c0 := (hC_.cell _).trans Q4.out; first | (go_simp; rfl) | (go_simp; done) | rfl) (fun K hK => ?_); go_simp; refine hK _ ?_; clear hK K))
 refine ph_call rfl (by first | rfl | go_simp) (fun w => by first | (go_simp; rfl) | (go_simp; done) | rfl) (fun k _ _ w h => (r25 se w).mono fun e w' ⟨he, m, hm⟩ => ⟨he, h.trans ⟨m, hm⟩⟩) ?_
 (intro K hK; go_simp; refine hK _ ?_; clear hK K)
 repeat (first | (refine ph_value rfl (by first | rfl | go_simp) (fun k_ _ _ w_ hC_ => by have c0 := (hC_.cell _).trans Q4.out; first | (go_simp; rfl) | (go_simp; done) | rfl) (fun K hK => ?_); go_simp; refine hK _ ?_; clear hK K))
 refine ph_nil ?_
 intro w' hd
 exact HEX.out hd
end Go.Proofs.YtnnjjbkdjkjnpaaGreatDoor
namespace Go.Proofs.YtnnjjbkdjkjnpaaGreatDoor
open Go.RowKit Go.Shelf
attribute [local go_sem ↓ high] add_w
attribute [local go_sem high] xor_w and_w or_w not_w shr_w shl_w wrap_b8
attribute [local go_sem ↓ high] not_sub
theorem rv27 {q_0 q_1 q_2 q_3 q_4 q_5 q_6 q_7 q_8 q_9 q_10 q_11 q_12 q_13 q_14 q_16 q_17 q_18 q_19 q_20 q_21 q_22 q_23 q_24 q_25 q_26 q_27 q_28 q_29 q_30 q_31 q_32 q_33 q_34 q_35 q_36 q_37 q_38 q_39 q_40 q_41 q_42 q_43 q_44 q_45 q_46 q_47 q_48 q_49 q_50 q_51 q_52 q_53 q_54 q_55 q_56 q_57 q_58 q_59 q_60 q_61 q_62 q_63 q_64 q_65 q_66 q_67 q_68 q_69 q_70 q_71 q_72 q_73 q_74 q_75 q_76 q_77 q_78 q_79 q_80 q_81 q_82 q_83 q_84 q_85 q_86 q_87 q_88 q_89 q_90 q_91 q_92 q_93 q_94 q_95 q_96 q_97 q_98 q_99 q_100 q_101 q_102 q_103 q_104 q_105 q_106 q_107 q_108 q_109 q_110 q_111 q_112 q_113 q_114 q_115 q_116 q_117 q_118 q_119 q_120 q_121 q_122 q_123 q_124 q_125 q_126 q_127 q_128 q_129 q_130 q_131 q_132 q_133 q_134 q_135 q_136 q_137 q_138 q_139 q_140 q_141 q_142 q_143 q_144 q_145 q_146 q_147 q_148 q_149 q_150 q_151 q_152 q_153 q_154 q_155 q_156 q_157 q_158 q_159 q_160 q_161 q_162 q_163 q_164 q_165 q_166 q_167 q_168 q_169 q_170 q_171 q_172 q_173 q_174 q_175 q_176 q_177 q_178 q_179 q_180 q_181 q_182 q_183 q_184 q_185 q_186 q_187 q_188 q_189 q_190 q_191 q_192 q_193 q_194 q_195 q_196 q_197 q_198 q_199 q_200 q_201 q_202 q_203 q_204 q_205 q_206 q_207 q_208 q_209 q_210 q_211 q_212 q_213 q_214 q_215 q_216 q_217 q_218 q_219 q_220 q_221 q_222 q_223 q_224 q_225 q_226 q_227 q_228 q_229 q_230 q_231 q_232 q_233 q_234 q_235 q_236 q_237 q_238 q_239 q_240 q_241 q_242 q_243 q_244 q_245 q_246 q_247 q_248 q_249 q_250 q_251 q_252 q_253 q_254 q_255 q_256 q_257 q_258 q_259 q_260 q_261 q_262 q_263 q_264 q_265 q_266 q_267 q_268 q_269 q_270 q_271 q_272 q_273 q_274 q_275 q_276 q_277 q_278 q_279 q_280 q_281 q_282 q_283 q_284 q_285 q_286 q_287 q_288 q_289 q_290 q_291 q_292 q_293 q_294 q_295 q_296 q_297 q_298 q_299 q_300 q_301 q_302 q_303 q_304 q_305 q_306 q_307 q_308 q_309 q_310 q_311 q_312 q_313 q_314 q_315 q_316 q_317 q_318 q_319 q_320 q_321 q_322 q_323 : Value} {Q0 : Exit → Act → World → Prop} {w : World} {gv : Nat} {c10 : Nat} {se sf sg : UInt32}
  (Q4 : Hid (w.cell? ⟨gv, 4, none⟩ = some (.int .u32 (w32 se))))
  (Q5 : Hid (w.cell? ⟨gv, 5, none⟩ = some (.int .u32 (w32 sf))))
  (Q6 : Hid (w.cell? ⟨gv, 6, none⟩ = some (.int .u32 (w32 sg))))
  (HEX : Hid (∀ {u_191 u_192 u_193 u_194 u_195 u_196 u_197 u_198 u_199 u_200 u_201 u_202 u_203 u_204 u_205 u_206 : Value} {w' : World}, Drawn w w' → Q0 .normal ⟨(q_0 :: q_1 :: q_2 :: q_3 :: q_4 :: q_5 :: q_6 :: q_7 :: q_8 :: q_9 :: q_10 :: q_11 :: q_12 :: q_13 :: q_14 :: (.slice (some ⟨gv, 0, none⟩) 8 c10) :: q_16 :: q_17 :: (.int .u32 (w32 ((se &&& sf) ^^^ (~~~se &&& sg)))) :: q_19 :: q_20 :: q_21 :: q_22 :: q_23 :: q_24 :: q_25 :: q_26 :: q_27 :: q_28 :: q_29 :: q_30 :: q_31 :: q_32 :: q_33 :: q_34 :: q_35 :: q_36 :: q_37 :: q_38 :: q_39 :: q_40 :: q_41 :: q_42 :: q_43 :: q_44 :: q_45 :: q_46 :: q_47 :: q_48 :: q_49 :: q_50 :: q_51 :: q_52 :: q_53 :: q_54 :: q_55 :: q_56 :: q_57 :: q_58 :: q_59 :: q_60 :: q_61 :: q_62 :: q_63 :: q_64 :: q_65 :: q_66 :: q_67 :: q_68 :: q_69 :: q_70 :: q_71 :: q_72 :: q_73 :: q_74 :: q_75 :: q_76 :: q_77 :: q_78 :: q_79 :: q_80 :: q_81 :: q_82 :: q_83 :: q_84 :: q_85 :: q_86 :: q_87 :: q_88 :: q_89 :: q_90 :: q_91 :: q_92 :: q_93 :: q_94 :: q_95 :: q_96 :: q_97 :: q_98 :: q_99 :: q_100 :: q_101 :: q_102 :: q_103 :: q_104 :: q_105 :: q_106 :: q_107 :: q_108 :: q_109 :: q_110 :: q_111 :: q_112 :: q_113 :: q_114 :: q_115 :: q_116 :: q_117 :: q_118 :: q_119 :: q_120 :: q_121 :: q_122 :: q_123 :: q_124 :: q_125 :: q_126 :: q_127 :: q_128 :: q_129 :: q_130 :: q_131 :: q_132 :: q_133 :: q_134 :: q_135 :: q_136 :: q_137 :: q_138 :: q_139 :: q_140 :: q_141 :: q_142 :: q_143 :: q_144 :: q_145 :: q_146 :: q_147 :: q_148 :: q_149 :: q_150 :: q_151 :: q_152 :: q_153 :: q_154 :: q_155 :: q_156 :: q_157 :: q_158 :: q_159 :: q_160 :: q_161 :: q_162 :: q_163 :: q_164 :: q_165 :: q_166 :: q_167 :: q_168 :: q_169 :: q_170 :: q_171 :: q_172 :: q_173 :: q_174 :: q_175 :: q_176 :: q_177 :: q_178 :: q_179 :: q_180 :: q_181 :: q_182 :: q_183 :: q_184 :: q_185 :: q_186 :: q_187 :: q_188 :: q_189 :: q_190 :: u_191 :: u_192 :: u_193 :: u_194 :: u_195 :: u_196 :: u_197 :: u_198 :: u_199 :: u_200 :: u_201 :: u_202 :: u_203 :: u_204 :: u_205 :: u_206 :: q_207 :: q_208 :: q_209 :: q_210 :: q_211 :: q_212 :: q_213 :: q_214 :: q_215 :: q_216 :: q_217 :: q_218 :: q_219 :: q_220 :: q_221 :: q_222 :: q_223 :: q_224 :: q_225 :: q_226 :: q_227 :: q_228 :: q_229 :: q_230 :: q_231 :: q_232 :: q_233 :: q_234 :: q_235 :: q_236 :: q_237 :: q_238 :: q_239 :: q_240 :: q_241 :: q_242 :: q_243 :: q_244 :: q_245 :: q_246 :: q_247 :: q_248 :: q_249 :: q_250 :: q_251 :: q_252 :: q_253 :: q_254 :: q_255 :: q_256 :: q_257 :: q_258 :: q_259 :: q_260 :: q_261 :: q_262 :: q_263 :: q_264 :: q_265 :: q_266 :: q_267 :: q_268 :: q_269 :: q_270 :: q_271 :: q_272 :: q_273 :: q_274 :: q_275 :: q_276 :: q_277 :: q_278 :: q_279 :: q_280 :: q_281 :: q_282 :: q_283 :: q_284 :: q_285 :: q_286 :: q_287 :: q_288 :: q_289 :: q_290 :: q_291 :: q_292 :: q_293 :: q_294 :: q_295 :: q_296 :: q_297 :: q_298 :: q_299 :: q_300 :: q_301 :: q_302 :: q_303 :: q_304 :: q_305 :: q_306 :: q_307 :: q_308 :: q_309 :: q_310 :: q_311 :: q_312 :: q_313 :: q_314 :: q_315 :: q_316 :: q_317 :: q_318 :: q_319 :: q_320 :: q_321 :: q_322 :: q_323 :: []).toArray, []⟩ w')) :
  Code.wp Tryz.prog (rsReg 27) Q0 ⟨(q_0 :: q_1 :: q_2 :: q_3 :: q_4 :: q_5 :: q_6 :: q_7 :: q_8 :: q_9 :: q_10 :: q_11 :: q_12 :: q_13 :: q_14 :: (.slice (some ⟨gv, 0, none⟩) 8 c10) :: q_16 :: q_17 :: q_18 :: q_19 :: q_20 :: q_21 :: q_22 :: q_23 :: q_24 :: q_25 :: q_26 :: q_27 :: q_28 :: q_29 :: q_30 :: q_31 :: q_32 :: q_33 :: q_34 :: q_35 :: q_36 :: q_37 :: q_38 :: q_39 :: q_40 :: q_41 :: q_42 :: q_43 :: q_44 :: q_45 :: q_46 :: q_47 :: q_48 :: q_49 :: q_50 :: q_51 :: q_52 :: q_53 :: q_54 :: q_55 :: q_56 :: q_57 :: q_58 :: q_59 :: q_60 :: q_61 :: q_62 :: q_63 :: q_64 :: q_65 :: q_66 :: q_67 :: q_68 :: q_69 :: q_70 :: q_71 :: q_72 :: q_73 :: q_74 :: q_75 :: q_76 :: q_77 :: q_78 :: q_79 :: q_80 :: q_81 :: q_82 :: q_83 :: q_84 :: q_85 :: q_86 :: q_87 :: q_88 :: q_89 :: q_90 :: q_91 :: q_92 :: q_93 :: q_94 :: q_95 :: q_96 :: q_97 :: q_98 :: q_99 :: q_100 :: q_101 :: q_102 :: q_103 :: q_104 :: q_105 :: q_106 :: q_107 :: q_108 :: q_109 :: q_110 :: q_111 :: q_112 :: q_113 :: q_114 :: q_115 :: q_116 :: q_117 :: q_118 :: q_119 :: q_120 :: q_121 :: q_122 :: q_123 :: q_124 :: q_125 :: q_126 :: q_127 :: q_128 :: q_129 :: q_130 :: q_131 :: q_132 :: q_133 :: q_134 :: q_135 :: q_136 :: q_137 :: q_138 :: q_139 :: q_140 :: q_141 :: q_142 :: q_143 :: q_144 :: q_145 :: q_146 :: q_147 :: q_148 :: q_149 :: q_150 :: q_151 :: q_152 :: q_153 :: q_154 :: q_155 :: q_156 :: q_157 :: q_158 :: q_159 :: q_160 :: q_161 :: q_162 :: q_163 :: q_164 :: q_165 :: q_166 :: q_167 :: q_168 :: q_169 :: q_170 :: q_171 :: q_172 :: q_173 :: q_174 :: q_175 :: q_176 :: q_177 :: q_178 :: q_179 :: q_180 :: q_181 :: q_182 :: q_183 :: q_184 :: q_185 :: q_186 :: q_187 :: q_188 :: q_189 :: q_190 :: q_191 :: q_192 :: q_193 :: q_194 :: q_195 :: q_196 :: q_197 :: q_198 :: q_199 :: q_200 :: q_201 :: q_202 :: q_203 :: q_204 :: q_205 :: q_206 :: q_207 :: q_208 :: q_209 :: q_210 :: q_211 :: q_212 :: q_213 :: q_214 :: q_215 :: q_216 :: q_217 :: q_218 :: q_219 :: q_220 :: q_221 :: q_222 :: q_223 :: q_224 :: q_225 :: q_226 :: q_227 :: q_228 :: q_229 :: q_230 :: q_231 :: q_232 :: q_233 :: q_234 :: q_235 :: q_236 :: q_237 :: q_238 :: q_239 :: q_240 :: q_241 :: q_242 :: q_243 :: q_244 :: q_245 :: q_246 :: q_247 :: q_248 :: q_249 :: q_250 :: q_251 :: q_252 :: q_253 :: q_254 :: q_255 :: q_256 :: q_257 :: q_258 :: q_259 :: q_260 :: q_261 :: q_262 :: q_263 :: q_264 :: q_265 :: q_266 :: q_267 :: q_268 :: q_269 :: q_270 :: q_271 :: q_272 :: q_273 :: q_274 :: q_275 :: q_276 :: q_277 :: q_278 :: q_279 :: q_280 :: q_281 :: q_282 :: q_283 :: q_284 :: q_285 :: q_286 :: q_287 :: q_288 :: q_289 :: q_290 :: q_291 :: q_292 :: q_293 :: q_294 :: q_295 :: q_296 :: q_297 :: q_298 :: q_299 :: q_300 :: q_301 :: q_302 :: q_303 :: q_304 :: q_305 :: q_306 :: q_307 :: q_308 :: q_309 :: q_310 :: q_311 :: q_312 :: q_313 :: q_314 :: q_315 :: q_316 :: q_317 :: q_318 :: q_319 :: q_320 :: q_321 :: q_322 :: q_323 :: []).toArray, []⟩ w := by
 conv => arg 2; whnf
 with_reducible refine wp_phase (id := 27) (fun (_ : Nat) w' => Drawn w w') [] [(0,0),(0,0),(0,0),(0,0),(0,0),(0,0),(0,0),(0,0),(0,0),(0,0),(0,0),(0,0),(0,0),(0,0),(0,0),(0,0),(0,0)] (by kernel_rfl) (by kernel_rfl) ?_ ?_
 ·exact Drawn.one w
 repeat (first | (refine ph_value rfl (by first | rfl | go_simp) (fun k_ _ _ w_ hC_ => by have c0 := (hC_.cell _).trans Q4.out; have c1 := (hC_.cell _).trans Q5.out; have c2 := (hC_.cell _).trans Q6.out; first | (go_simp; rfl) | (go_simp; done) | rfl) (fun K hK => ?_); go_simp; refine hK _ ?_; clear hK K))
 refine ph_nil ?_
 intro w' hd
 exact HEX.out hd
end Go.Proofs.YtnnjjbkdjkjnpaaGreatDoor
namespace Go.Proofs.YtnnjjbkdjkjnpaaGreatDoor
open Go.RowKit Go.Shelf
attribute [local go_sem ↓ high] add_w
attribute [local go_sem high] xor_w and_w or_w not_w shr_w shl_w wrap_b8
attribute [local go_sem ↓ high] not_sub
theorem rv28 {q_0 q_1 q_3 q_4 q_5 q_6 q_7 q_8 q_9 q_10 q_12 q_13 q_14 q_19 q_20 q_21 q_22 q_23 q_24 q_25 q_26 q_27 q_28 q_29 q_30 q_31 q_32 q_33 q_34 q_35 q_36 q_37 q_38 q_39 q_40 q_41 q_42 q_43 q_44 q_45 q_46 q_47 q_48 q_49 q_50 q_51 q_52 q_53 q_54 q_55 q_56 q_57 q_58 q_59 q_60 q_61 q_62 q_63 q_64 q_65 q_66 q_67 q_68 q_69 q_70 q_71 q_72 q_73 q_74 q_75 q_76 q_77 q_78 q_79 q_80 q_81 q_82 q_83 q_84 q_85 q_86 q_87 q_88 q_89 q_90 q_91 q_92 q_93 q_94 q_95 q_96 q_97 q_98 q_99 q_100 q_101 q_102 q_103 q_104 q_105 q_106 q_107 q_108 q_109 q_110 q_111 q_112 q_113 q_114 q_115 q_116 q_117 q_118 q_119 q_120 q_121 q_122 q_123 q_124 q_125 q_126 q_127 q_128 q_129 q_130 q_131 q_132 q_133 q_134 q_135 q_136 q_137 q_138 q_139 q_140 q_141 q_142 q_143 q_144 q_145 q_146 q_147 q_148 q_149 q_150 q_151 q_152 q_153 q_154 q_155 q_156 q_157 q_158 q_159 q_160 q_161 q_162 q_163 q_164 q_165 q_166 q_167 q_168 q_169 q_170 q_171 q_172 q_173 q_174 q_175 q_176 q_177 q_178 q_179 q_180 q_181 q_182 q_183 q_184 q_185 q_186 q_187 q_188 q_189 q_190 q_191 q_192 q_193 q_194 q_195 q_196 q_197 q_198 q_199 q_200 q_201 q_202 q_203 q_204 q_205 q_206 q_207 q_208 q_209 q_210 q_211 q_212 q_213 q_214 q_215 q_216 q_217 q_218 q_219 q_220 q_221 q_222 q_223 q_224 q_225 q_226 q_227 q_228 q_229 q_230 q_231 q_232 q_233 q_234 q_235 q_236 q_237 q_238 q_239 q_240 q_241 q_242 q_243 q_244 q_245 q_246 q_247 q_248 q_249 q_250 q_251 q_252 q_253 q_254 q_255 q_256 q_257 q_258 q_259 q_260 q_261 q_262 q_263 q_264 q_265 q_266 q_267 q_268 q_269 q_270 q_271 q_272 q_273 q_274 q_275 q_276 q_277 q_278 q_279 q_280 q_281 q_282 q_283 q_284 q_285 q_286 q_287 q_288 q_289 q_290 q_291 q_292 q_293 q_294 q_295 q_296 q_297 q_298 q_299 q_300 q_301 q_302 q_303 q_304 q_305 q_306 q_307 q_308 q_309 q_310 q_311 q_312 q_313 q_314 q_315 q_316 q_317 q_318 q_319 q_320 q_321 q_322 q_323 : Value} {Q0 : Exit → Act → World → Prop} {w : World} {gv : Nat} {c10 : Nat} {sh z1 z2 rk xw : UInt32} {bk ok ck gw c8 k : Nat} (gk : (k : Int) < 64)
  (Q7 : Hid (w.cell? ⟨gv, 7, none⟩ = some (.int .u32 (w32 sh))))
  (QK : Hid (w.cell? ⟨bk, ok + k, none⟩ = some (.int .u32 (w32 rk))))
  (QW : Hid (w.cell? ⟨gw, k, none⟩ = some (.int .u32 (w32 xw))))
  (HEX : Hid (∀ {u_207 u_208 u_209 u_210 u_211 u_212 u_213 u_214 u_215 u_216 u_217 u_218 u_219 u_220 u_221 u_222 u_223 : Value} {w' : World}, Drawn w w' → Q0 .normal ⟨(q_0 :: q_1 :: (.slice (some ⟨bk, ok, none⟩) 64 ck) :: q_3 :: q_4 :: q_5 :: q_6 :: q_7 :: q_8 :: q_9 :: q_10 :: (.slice (some ⟨gw, 0, none⟩) 64 c8) :: q_12 :: q_13 :: q_14 :: (.slice (some ⟨gv, 0, none⟩) 8 c10) :: (.int .i64 k) :: (.int .u32 (w32 z1)) :: (.int .u32 (w32 z2)) :: (.int .u32 (w32 (sh + z1 + z2 + rk + xw))) :: q_20 :: q_21 :: q_22 :: q_23 :: q_24 :: q_25 :: q_26 :: q_27 :: q_28 :: q_29 :: q_30 :: q_31 :: q_32 :: q_33 :: q_34 :: q_35 :: q_36 :: q_37 :: q_38 :: q_39 :: q_40 :: q_41 :: q_42 :: q_43 :: q_44 :: q_45 :: q_46 :: q_47 :: q_48 :: q_49 :: q_50 :: q_51 :: q_52 :: q_53 :: q_54 :: q_55 :: q_56 :: q_57 :: q_58 :: q_59 :: q_60 :: q_61 :: q_62 :: q_63 :: q_64 :: q_65 :: q_66 :: q_67 :: q_68 :: q_69 :: q_70 :: q_71 :: q_72 :: q_73 :: q_74 :: q_75 :: q_76 :: q_77 :: q_78 :: q_79 :: q_80 :: q_81 :: q_82 :: q_83 :: q_84 :: q_85 :: q_86 :: q_87 :: q_88 :: q_89 :: q_90 :: q_91 :: q_92 :: q_93 :: q_94 :: q_95 :: q_96 :: q_97 :: q_98 :: q_99 :: q_100 :: q_101 :: q_102 :: q_103 :: q_104 :: q_105 :: q_106 :: q_107 :: q_108 :: q_109 :: q_110 :: q_111 :: q_112 :: q_113 :: q_114 :: q_115 :: q_116 :: q_117 :: q_118 :: q_119 :: q_120 :: q_121 :: q_122 :: q_123 :: q_124 :: q_125 :: q_126 :: q_127 :: q_128 :: q_129 :: q_130 :: q_131 :: q_132 :: q_133 :: q_134 :: q_135 :: q_136 :: q_137 :: q_138 :: q_139 :: q_140 :: q_141 :: q_142 :: q_143 :: q_144 :: q_145 :: q_146 :: q_147 :: q_148 :: q_149 :: q_150 :: q_151 :: q_152 :: q_153 :: q_154 :: q_155 :: q_156 :: q_157 :: q_158 :: q_159 :: q_160 :: q_161 :: q_162 :: q_163 :: q_164 :: q_165 :: q_166 :: q_167 :: q_168 :: q_169 :: q_170 :: q_171 :: q_172 :: q_173 :: q_174 :: q_175 :: q_176 :: q_177 :: q_178 :: q_179 :: q_180 :: q_181 :: q_182 :: q_183 :: q_184 :: q_185 :: q_186 :: q_187 :: q_188 :: q_189 :: q_190 :: q_191 :: q_192 :: q_193 :: q_194 :: q_195 :: q_196 :: q_197 :: q_198 :: q_199 :: q_200 :: q_201 :: q_202 :: q_203 :: q_204 :: q_205 :: q_206 :: u_207 :: u_208 :: u_209 :: u_210 :: u_211 :: u_212 :: u_213 :: u_214 :: u_215 :: u_216 :: u_217 :: u_218 :: u_219 :: u_220 :: u_221 :: u_222 :: u_223 :: q_224 :: q_225 :: q_226 :: q_227 :: q_228 :: q_229 :: q_230 :: q_231 :: q_232 :: q_233 :: q_234 :: q_235 :: q_236 :: q_237 :: q_238 :: q_239 :: q_240 :: q_241 :: q_242 :: q_243 :: q_244 :: q_245 :: q_246 :: q_247 :: q_248 :: q_249 :: q_250 :: q_251 :: q_252 :: q_253 :: q_254 :: q_255 :: q_256 :: q_257 :: q_258 :: q_259 :: q_260 :: q_261 :: q_262 :: q_263 :: q_264 :: q_265 :: q_266 :: q_267 :: q_268 :: q_269 :: q_270 :: q_271 :: q_272 :: q_273 :: q_274 :: q_275 :: q_276 :: q_277 :: q_278 :: q_279 :: q_280 :: q_281 :: q_282 :: q_283 :: q_284 :: q_285 :: q_286 :: q_287 :: q_288 :: q_289 :: q_290 :: q_291 :: q_292 :: q_293 :: q_294 :: q_295 :: q_296 :: q_297 :: q_298 :: q_299 :: q_300 :: q_301 :: q_302 :: q_303 :: q_304 :: q_305 :: q_306 :: q_307 :: q_308 :: q_309 :: q_310 :: q_311 :: q_312 :: q_313 :: q_314 :: q_315 :: q_316 :: q_317 :: q_318 :: q_319 :: q_320 :: q_321 :: q_322 :: q_323 :: []).toArray, []⟩ w')) :
  Code.wp Tryz.prog (rsReg 28) Q0 ⟨(q_0 :: q_1 :: (.slice (some ⟨bk, ok, none⟩) 64 ck) :: q_3 :: q_4 :: q_5 :: q_6 :: q_7 :: q_8 :: q_9 :: q_10 :: (.slice (some ⟨gw, 0, none⟩) 64 c8) :: q_12 :: q_13 :: q_14 :: (.slice (some ⟨gv, 0, none⟩) 8 c10) :: (.int .i64 k) :: (.int .u32 (w32 z1)) :: (.int .u32 (w32 z2)) :: q_19 :: q_20 :: q_21 :: q_22 :: q_23 :: q_24 :: q_25 :: q_26 :: q_27 :: q_28 :: q_29 :: q_30 :: q_31 :: q_32 :: q_33 :: q_34 :: q_35 :: q_36 :: q_37 :: q_38 :: q_39 :: q_40 :: q_41 :: q_42 :: q_43 :: q_44 :: q_45 :: q_46 :: q_47 :: q_48 :: q_49 :: q_50 :: q_51 :: q_52 :: q_53 :: q_54 :: q_55 :: q_56 :: q_57 :: q_58 :: q_59 :: q_60 :: q_61 :: q_62 :: q_63 :: q_64 :: q_65 :: q_66 :: q_67 :: q_68 :: q_69 :: q_70 :: q_71 :: q_72 :: q_73 :: q_74 :: q_75 :: q_76 :: q_77 :: q_78 :: q_79 :: q_80 :: q_81 :: q_82 :: q_83 :: q_84 :: q_85 :: q_86 :: q_87 :: q_88 :: q_89 :: q_90 :: q_91 :: q_92 :: q_93 :: q_94 :: q_95 :: q_96 :: q_97 :: q_98 :: q_99 :: q_100 :: q_101 :: q_102 :: q_103 :: q_104 :: q_105 :: q_106 :: q_107 :: q_108 :: q_109 :: q_110 :: q_111 :: q_112 :: q_113 :: q_114 :: q_115 :: q_116 :: q_117 :: q_118 :: q_119 :: q_120 :: q_121 :: q_122 :: q_123 :: q_124 :: q_125 :: q_126 :: q_127 :: q_128 :: q_129 :: q_130 :: q_131 :: q_132 :: q_133 :: q_134 :: q_135 :: q_136 :: q_137 :: q_138 :: q_139 :: q_140 :: q_141 :: q_142 :: q_143 :: q_144 :: q_145 :: q_146 :: q_147 :: q_148 :: q_149 :: q_150 :: q_151 :: q_152 :: q_153 :: q_154 :: q_155 :: q_156 :: q_157 :: q_158 :: q_159 :: q_160 :: q_161 :: q_162 :: q_163 :: q_164 :: q_165 :: q_166 :: q_167 :: q_168 :: q_169 :: q_170 :: q_171 :: q_172 :: q_173 :: q_174 :: q_175 :: q_176 :: q_177 :: q_178 :: q_179 :: q_180 :: q_181 :: q_182 :: q_183 :: q_184 :: q_185 :: q_186 :: q_187 :: q_188 :: q_189 :: q_190 :: q_191 :: q_192 :: q_193 :: q_194 :: q_195 :: q_196 :: q_197 :: q_198 :: q_199 :: q_200 :: q_201 :: q_202 :: q_203 :: q_204 :: q_205 :: q_206 :: q_207 :: q_208 :: q_209 :: q_210 :: q_211 :: q_212 :: q_213 :: q_214 :: q_215 :: q_216 :: q_217 :: q_218 :: q_219 :: q_220 :: q_221 :: q_222 :: q_223 :: q_224 :: q_225 :: q_226 :: q_227 :: q_228 :: q_229 :: q_230 :: q_231 :: q_232 :: q_233 :: q_234 :: q_235 :: q_236 :: q_237 :: q_238 :: q_239 :: q_240 :: q_241 :: q_242 :: q_243 :: q_244 :: q_245 :: q_246 :: q_247 :: q_248 :: q_249 :: q_250 :: q_251 :: q_252 :: q_253 :: q_254 :: q_255 :: q_256 :: q_257 :: q_258 :: q_259 :: q_260 :: q_261 :: q_262 :: q_263 :: q_264 :: q_265 :: q_266 :: q_267 :: q_268 :: q_269 :: q_270 :: q_271 :: q_272 :: q_273 :: q_274 :: q_275 :: q_276 :: q_277 :: q_278 :: q_279 :: q_280 :: q_281 :: q_282 :: q_283 :: q_284 :: q_285 :: q_286 :: q_287 :: q_288 :: q_289 :: q_290 :: q_291 :: q_292 :: q_293 :: q_294 :: q_295 :: q_296 :: q_297 :: q_298 :: q_299 :: q_300 :: q_301 :: q_302 :: q_303 :: q_304 :: q_305 :: q_306 :: q_307 :: q_308 :: q_309 :: q_310 :: q_311 :: q_312 :: q_313 :: q_314 :: q_315 :: q_316 :: q_317 :: q_318 :: q_319 :: q_320 :: q_321 :: q_322 :: q_323 :: []).toArray, []⟩ w := by
 conv => arg 2; whnf
 with_reducible refine wp_phase (id := 28) (fun (_ : Nat) w' => Drawn w w') [] [(0,0),(0,0),(0,0),(0,0),(0,0),(0,0),(0,0),(0,0),(0,0),(0,0),(0,0),(0,0),(0,0),(0,0),(0,0),(0,0),(0,0),(0,0)] (by kernel_rfl) (by kernel_rfl) ?_ ?_
 ·exact Drawn.one w
 repeat (first | (refine ph_value rfl (by first | rfl | go_simp) (fun k_ _ _ w_ hC_ => by have c0 := (hC_.cell _).trans Q7.out; have c1 := (hC_.cell _).trans QK.out; have c2 := (hC_.cell _).trans QW.out; first | (go_simp; rfl) | (go_simp; done) | rfl) (fun K hK => ?_); go_simp; refine hK _ ?_; clear hK K))
 refine ph_nil ?_
 intro w' hd
 exact HEX.out hd
end Go.Proofs.YtnnjjbkdjkjnpaaGreatDoor
