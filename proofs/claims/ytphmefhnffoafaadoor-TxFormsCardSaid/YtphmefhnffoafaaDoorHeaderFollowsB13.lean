/- The loop over the blocks of seisinref03.Sum. -/
import Derived.Test.YtphmefhnffoafaaDoorHeaderFollowsB11
import Derived.Test.YtphmefhnffoafaaDoorHeaderFollowsB12
import Derived.Test.YtphmefhnffoafaaDoorHeaderFollowsB10
import Derived.Test.YtphmefhnffoafaaDoorHeaderFollowsB6
import Derived.Test.YtphmefhnffoafaaDoorHeaderFollowsB7
import Derived.Test.YtphmefhnffoafaaDoorHeaderFollowsB9
import Derived.Test.YtphmefhnffoafaaDoorHeaderFollowsB8
import Derived.Test.YtphmefhnffoafaaDoorHeaderFollowsB4
/- The loop over the blocks of seisinref03.Sum. -/
namespace Go.Proofs.YtphmefhnffoafaaDoor
open Go.RowKit Go.Shelf
set_option linter.unusedVariables false

attribute [local go_sem ↓ high] add_w
attribute [local go_sem high] xor_w and_w or_w not_w shr_w shl_w wrap_b8
attribute [local go_sem ↓ high] not_sub

set_option maxRecDepth 100000 in
set_option maxHeartbeats 4000000 in
theorem rs_at {q_0 q_3 q_4 q_5 q_6 q_8 q_9 q_11 q_12 q_13 q_14 q_15 q_16 q_17 q_18 q_19 q_20 q_21 q_22 q_23 q_24 q_25 q_26 q_27 q_28 q_29 q_30 q_31 q_32 q_33 q_34 q_35 q_36 q_37 q_38 q_39 q_40 q_41 q_42 q_43 q_44 q_45 q_46 q_47 q_48 q_49 q_50 q_51 q_52 q_53 q_54 q_55 q_56 q_57 q_58 q_59 q_60 q_61 q_62 q_63 q_64 q_65 q_66 q_67 q_68 q_69 q_70 q_71 q_72 q_73 q_74 q_75 q_76 q_77 q_78 q_79 q_80 q_81 q_82 q_83 q_84 q_85 q_86 q_87 q_88 q_89 q_90 q_91 q_92 q_93 q_94 q_95 q_96 q_97 q_98 q_99 q_100 q_101 q_102 q_103 q_104 q_105 q_106 q_107 q_108 q_109 q_110 q_111 q_112 q_113 q_114 q_115 q_116 q_117 q_118 q_119 q_120 q_121 q_122 q_123 q_124 q_125 q_126 q_127 q_128 q_129 q_130 q_131 q_132 q_133 q_134 q_135 q_136 q_137 q_138 q_139 q_140 q_141 q_142 q_143 q_144 q_145 q_146 q_147 q_148 q_149 q_150 q_151 q_152 q_153 q_154 q_155 q_156 q_157 q_158 q_159 q_160 q_161 q_162 q_163 q_164 q_165 q_166 q_167 q_168 q_169 q_170 q_171 q_172 q_173 q_174 q_175 q_176 q_177 q_178 q_179 q_180 q_181 q_182 q_183 q_184 q_185 q_186 q_187 q_188 q_189 q_190 q_191 q_192 q_193 q_194 q_195 q_196 q_197 q_198 q_199 q_200 q_201 q_202 q_203 q_204 q_205 q_206 q_207 q_208 q_209 q_210 q_211 q_212 q_213 q_214 q_215 q_216 q_217 q_218 q_219 q_220 q_221 q_222 q_223 q_224 q_225 q_226 q_227 q_228 q_229 q_230 q_231 q_232 q_233 q_234 q_235 q_236 q_237 q_238 q_239 q_240 q_241 q_242 q_243 q_244 q_245 q_246 q_247 q_248 q_249 q_250 q_251 q_252 q_253 q_254 q_255 q_256 q_257 q_258 q_259 q_260 q_261 q_262 q_263 q_264 q_265 q_266 q_267 q_268 q_269 q_270 q_271 q_272 q_273 q_274 q_275 q_276 q_277 q_278 q_279 q_280 q_281 q_282 q_283 q_284 q_285 q_286 q_287 q_288 q_289 q_290 q_291 q_292 q_293 q_294 q_295 q_296 q_297 q_298 q_299 q_300 q_301 q_302 q_303 q_304 q_305 q_306 q_307 q_308 q_309 q_310 q_311 q_312 q_313 q_314 q_315 q_316 q_317 q_318 q_319 q_320 q_321 q_322 q_323 : Value} {Q0 : Exit → Act → World → Prop} {g s1 s2 gm gh nb c5 c7 bk ok ck : Nat} {M : List UInt8} {w w7 : World} (HNB : Hid (M.length = 64 * nb)) (hnb2 : nb ≤ 1000000000000)
    (HK : Hid (Sl w g 1 (some ⟨bk, ok, none⟩) 64 (roundKs.map W))) (HKEEP : Hid (KeepR g s1 s2 gm gh nb c5 c7 M (firstSt.toList.map W) w w7))
    (HEX : Hid (∀ {u_11 u_12 u_13 u_14 u_15 u_16 u_17 u_18 u_19 u_20 u_21 u_22 u_56 u_57 u_58 u_59 u_60 u_61 u_62 u_63 u_64 u_65 u_66 u_67 u_68 u_69 u_70 u_71 u_72 u_73 u_74 u_75 u_76 u_77 u_78 u_79 u_80 u_81 u_82 u_83 u_84 u_85 u_86 u_87 u_88 u_89 u_90 u_91 u_92 u_93 u_94 u_95 u_96 u_97 u_98 u_99 u_100 u_101 u_102 u_103 u_104 u_105 u_106 u_107 u_108 u_109 u_110 u_111 u_112 u_113 u_114 u_115 u_116 u_117 u_118 u_119 u_120 u_121 u_122 u_123 u_124 u_125 u_126 u_127 u_128 u_129 u_130 u_131 u_132 u_133 u_134 u_135 u_136 u_137 u_138 u_139 u_140 u_141 u_142 u_143 u_144 u_145 u_146 u_147 u_148 u_149 u_150 u_151 u_152 u_153 u_154 u_155 u_156 u_157 u_158 u_159 u_160 u_161 u_162 u_163 u_164 u_165 u_166 u_167 u_168 u_169 u_170 u_171 u_172 u_173 u_174 u_175 u_176 u_177 u_178 u_179 u_180 u_181 u_182 u_183 u_184 u_185 u_186 u_187 u_188 u_189 u_190 u_191 u_192 u_193 u_194 u_195 u_196 u_197 u_198 u_199 u_200 u_201 u_202 u_203 u_204 u_205 u_206 u_207 u_208 u_209 u_210 u_211 u_212 u_213 u_214 u_215 u_216 u_217 u_218 u_219 u_220 u_221 u_222 u_223 u_224 u_225 u_226 u_227 u_228 u_229 u_230 u_231 u_232 u_233 u_234 u_235 u_236 u_237 u_238 u_239 u_240 u_241 u_242 u_243 u_244 u_245 u_246 u_247 u_248 u_249 u_250 u_251 u_252 u_253 u_254 u_255 u_256 u_257 u_258 u_259 u_260 u_261 u_262 u_263 u_264 u_265 u_266 u_267 u_268 u_269 u_270 u_271 u_272 u_273 u_274 u_275 u_276 u_277 u_278 u_279 u_280 u_281 u_282 u_283 u_284 u_285 u_286 u_287 u_288 u_289 u_290 u_291 u_292 u_293 u_294 u_295 u_296 u_297 u_298 u_299 u_300 u_301 u_302 u_303 u_304 u_305 : Value} {wr : World}, KeepR g s1 s2 gm gh nb c5 c7 M ((stB M nb).toList.map W) w wr → Q0 (.exit 4) ⟨(q_0 :: (.slice (some ⟨gh, 0, none⟩) 8 c7) :: (.slice (some ⟨bk, ok, none⟩) 64 ck) :: q_3 :: q_4 :: q_5 :: q_6 :: (.slice (some ⟨gm, 0, none⟩) (64 * nb) c5) :: q_8 :: q_9 :: (.int .i64 (64 * (nb : Int))) :: u_11 :: u_12 :: u_13 :: u_14 :: u_15 :: u_16 :: u_17 :: u_18 :: u_19 :: u_20 :: u_21 :: u_22 :: q_23 :: q_24 :: q_25 :: q_26 :: q_27 :: q_28 :: q_29 :: q_30 :: q_31 :: q_32 :: q_33 :: q_34 :: q_35 :: q_36 :: q_37 :: q_38 :: q_39 :: q_40 :: q_41 :: q_42 :: q_43 :: q_44 :: q_45 :: q_46 :: q_47 :: q_48 :: q_49 :: q_50 :: q_51 :: q_52 :: q_53 :: q_54 :: q_55 :: u_56 :: u_57 :: u_58 :: u_59 :: u_60 :: u_61 :: u_62 :: u_63 :: u_64 :: u_65 :: u_66 :: u_67 :: u_68 :: u_69 :: u_70 :: u_71 :: u_72 :: u_73 :: u_74 :: u_75 :: u_76 :: u_77 :: u_78 :: u_79 :: u_80 :: u_81 :: u_82 :: u_83 :: u_84 :: u_85 :: u_86 :: u_87 :: u_88 :: u_89 :: u_90 :: u_91 :: u_92 :: u_93 :: u_94 :: u_95 :: u_96 :: u_97 :: u_98 :: u_99 :: u_100 :: u_101 :: u_102 :: u_103 :: u_104 :: u_105 :: u_106 :: u_107 :: u_108 :: u_109 :: u_110 :: u_111 :: u_112 :: u_113 :: u_114 :: u_115 :: u_116 :: u_117 :: u_118 :: u_119 :: u_120 :: u_121 :: u_122 :: u_123 :: u_124 :: u_125 :: u_126 :: u_127 :: u_128 :: u_129 :: u_130 :: u_131 :: u_132 :: u_133 :: u_134 :: u_135 :: u_136 :: u_137 :: u_138 :: u_139 :: u_140 :: u_141 :: u_142 :: u_143 :: u_144 :: u_145 :: u_146 :: u_147 :: u_148 :: u_149 :: u_150 :: u_151 :: u_152 :: u_153 :: u_154 :: u_155 :: u_156 :: u_157 :: u_158 :: u_159 :: u_160 :: u_161 :: u_162 :: u_163 :: u_164 :: u_165 :: u_166 :: u_167 :: u_168 :: u_169 :: u_170 :: u_171 :: u_172 :: u_173 :: u_174 :: u_175 :: u_176 :: u_177 :: u_178 :: u_179 :: u_180 :: u_181 :: u_182 :: u_183 :: u_184 :: u_185 :: u_186 :: u_187 :: u_188 :: u_189 :: u_190 :: u_191 :: u_192 :: u_193 :: u_194 :: u_195 :: u_196 :: u_197 :: u_198 :: u_199 :: u_200 :: u_201 :: u_202 :: u_203 :: u_204 :: u_205 :: u_206 :: u_207 :: u_208 :: u_209 :: u_210 :: u_211 :: u_212 :: u_213 :: u_214 :: u_215 :: u_216 :: u_217 :: u_218 :: u_219 :: u_220 :: u_221 :: u_222 :: u_223 :: u_224 :: u_225 :: u_226 :: u_227 :: u_228 :: u_229 :: u_230 :: u_231 :: u_232 :: u_233 :: u_234 :: u_235 :: u_236 :: u_237 :: u_238 :: u_239 :: u_240 :: u_241 :: u_242 :: u_243 :: u_244 :: u_245 :: u_246 :: u_247 :: u_248 :: u_249 :: u_250 :: u_251 :: u_252 :: u_253 :: u_254 :: u_255 :: u_256 :: u_257 :: u_258 :: u_259 :: u_260 :: u_261 :: u_262 :: u_263 :: u_264 :: u_265 :: u_266 :: u_267 :: u_268 :: u_269 :: u_270 :: u_271 :: u_272 :: u_273 :: u_274 :: u_275 :: u_276 :: u_277 :: u_278 :: u_279 :: u_280 :: u_281 :: u_282 :: u_283 :: u_284 :: u_285 :: u_286 :: u_287 :: u_288 :: u_289 :: u_290 :: u_291 :: u_292 :: u_293 :: u_294 :: u_295 :: u_296 :: u_297 :: u_298 :: u_299 :: u_300 :: u_301 :: u_302 :: u_303 :: u_304 :: u_305 :: q_306 :: q_307 :: q_308 :: q_309 :: q_310 :: q_311 :: q_312 :: q_313 :: q_314 :: q_315 :: q_316 :: q_317 :: q_318 :: q_319 :: q_320 :: q_321 :: q_322 :: q_323 :: []).toArray, []⟩ wr)) :
    Code.wp Tryd.prog (.loop (rsBody 2)) Q0 ⟨(q_0 :: (.slice (some ⟨gh, 0, none⟩) 8 c7) :: (.slice (some ⟨bk, ok, none⟩) 64 ck) :: q_3 :: q_4 :: q_5 :: q_6 :: (.slice (some ⟨gm, 0, none⟩) (64 * nb) c5) :: q_8 :: q_9 :: (.int .i64 0) :: q_11 :: q_12 :: q_13 :: q_14 :: q_15 :: q_16 :: q_17 :: q_18 :: q_19 :: q_20 :: q_21 :: q_22 :: q_23 :: q_24 :: q_25 :: q_26 :: q_27 :: q_28 :: q_29 :: q_30 :: q_31 :: q_32 :: q_33 :: q_34 :: q_35 :: q_36 :: q_37 :: q_38 :: q_39 :: q_40 :: q_41 :: q_42 :: q_43 :: q_44 :: q_45 :: q_46 :: q_47 :: q_48 :: q_49 :: q_50 :: q_51 :: q_52 :: q_53 :: q_54 :: q_55 :: q_56 :: q_57 :: q_58 :: q_59 :: q_60 :: q_61 :: q_62 :: q_63 :: q_64 :: q_65 :: q_66 :: q_67 :: q_68 :: q_69 :: q_70 :: q_71 :: q_72 :: q_73 :: q_74 :: q_75 :: q_76 :: q_77 :: q_78 :: q_79 :: q_80 :: q_81 :: q_82 :: q_83 :: q_84 :: q_85 :: q_86 :: q_87 :: q_88 :: q_89 :: q_90 :: q_91 :: q_92 :: q_93 :: q_94 :: q_95 :: q_96 :: q_97 :: q_98 :: q_99 :: q_100 :: q_101 :: q_102 :: q_103 :: q_104 :: q_105 :: q_106 :: q_107 :: q_108 :: q_109 :: q_110 :: q_111 :: q_112 :: q_113 :: q_114 :: q_115 :: q_116 :: q_117 :: q_118 :: q_119 :: q_120 :: q_121 :: q_122 :: q_123 :: q_124 :: q_125 :: q_126 :: q_127 :: q_128 :: q_129 :: q_130 :: q_131 :: q_132 :: q_133 :: q_134 :: q_135 :: q_136 :: q_137 :: q_138 :: q_139 :: q_140 :: q_141 :: q_142 :: q_143 :: q_144 :: q_145 :: q_146 :: q_147 :: q_148 :: q_149 :: q_150 :: q_151 :: q_152 :: q_153 :: q_154 :: q_155 :: q_156 :: q_157 :: q_158 :: q_159 :: q_160 :: q_161 :: q_162 :: q_163 :: q_164 :: q_165 :: q_166 :: q_167 :: q_168 :: q_169 :: q_170 :: q_171 :: q_172 :: q_173 :: q_174 :: q_175 :: q_176 :: q_177 :: q_178 :: q_179 :: q_180 :: q_181 :: q_182 :: q_183 :: q_184 :: q_185 :: q_186 :: q_187 :: q_188 :: q_189 :: q_190 :: q_191 :: q_192 :: q_193 :: q_194 :: q_195 :: q_196 :: q_197 :: q_198 :: q_199 :: q_200 :: q_201 :: q_202 :: q_203 :: q_204 :: q_205 :: q_206 :: q_207 :: q_208 :: q_209 :: q_210 :: q_211 :: q_212 :: q_213 :: q_214 :: q_215 :: q_216 :: q_217 :: q_218 :: q_219 :: q_220 :: q_221 :: q_222 :: q_223 :: q_224 :: q_225 :: q_226 :: q_227 :: q_228 :: q_229 :: q_230 :: q_231 :: q_232 :: q_233 :: q_234 :: q_235 :: q_236 :: q_237 :: q_238 :: q_239 :: q_240 :: q_241 :: q_242 :: q_243 :: q_244 :: q_245 :: q_246 :: q_247 :: q_248 :: q_249 :: q_250 :: q_251 :: q_252 :: q_253 :: q_254 :: q_255 :: q_256 :: q_257 :: q_258 :: q_259 :: q_260 :: q_261 :: q_262 :: q_263 :: q_264 :: q_265 :: q_266 :: q_267 :: q_268 :: q_269 :: q_270 :: q_271 :: q_272 :: q_273 :: q_274 :: q_275 :: q_276 :: q_277 :: q_278 :: q_279 :: q_280 :: q_281 :: q_282 :: q_283 :: q_284 :: q_285 :: q_286 :: q_287 :: q_288 :: q_289 :: q_290 :: q_291 :: q_292 :: q_293 :: q_294 :: q_295 :: q_296 :: q_297 :: q_298 :: q_299 :: q_300 :: q_301 :: q_302 :: q_303 :: q_304 :: q_305 :: q_306 :: q_307 :: q_308 :: q_309 :: q_310 :: q_311 :: q_312 :: q_313 :: q_314 :: q_315 :: q_316 :: q_317 :: q_318 :: q_319 :: q_320 :: q_321 :: q_322 :: q_323 :: []).toArray, []⟩ w7 := by
  conv => arg 2; arg 1; whnf
  go_loopw [10] (fun i wr => ∃ b : Nat, b ≤ nb ∧ i = .int .i64 (64 * (b : Int)) ∧ Hid (KeepR g s1 s2 gm gh nb c5 c7 M ((stB M b).toList.map W) w wr)) (fun i _ => 64 * nb - (intOf i).toNat)
  case atStart => exact ⟨0, by omega, rfl, (show KeepR _ _ _ _ _ _ _ _ _ _ _ _ by rw [stB_zero]; exact HKEEP.out)⟩
  case round =>
    obtain ⟨b, hb, rfl, hkeep⟩ := hrel
    by_cases hlt : b < nb
    · go_wp2_with fail
      obtain ⟨wb, rfl⟩ : ∃ wb : World, wb = wr := ⟨_, rfl⟩
      obtain ⟨s3, hs3⟩ : ∃ s3, s3 = wb.heap.size := ⟨_, rfl⟩
      have hk3 := hkeep.out.more (s3 := s3) (by rw [hs3]; exact hkeep.out.sz) (by rw [hs3]; exact Nat.le_refl _)
      have HK3 := Lib.hid hk3
      have HS23 := Lib.hid (show s2 ≤ s3 by rw [hs3]; exact hkeep.out.sz)
      clear hk3
      clear hs3
      refine rs_w HNB hlt hnb2 HK3 (Lib.hid ?_)
      intros
      rename_i A8 c8 wr hw_ hkp_
      have hw := Lib.hid hw_; have hkp := Lib.hid hkp_; clear hw_ hkp_
      obtain ⟨gw, rfl, hgw1, hgw2, hcw⟩ := own_form hw.out (by omega)
      have HGW := Lib.hid hgw2
      clear hgw1 hgw2 hcw
      obtain ⟨wc, rfl⟩ : ∃ wc : World, wc = wr := ⟨_, rfl⟩
      obtain ⟨st, hst⟩ : ∃ st, st = stB M b := ⟨_, rfl⟩
      have hkp0 := hkp.out
      rw [← hst] at hkp0
      have HST := Lib.hid hst; clear hst
      obtain ⟨s4, hs4⟩ : ∃ s4, s4 = wc.heap.size := ⟨_, rfl⟩
      have HS4 := Lib.hid hs4.symm; clear hs4
      have hkp4 := hkp0.more (s3 := s4) (by rw [← HS4.out]; exact hkp0.sz) (by rw [HS4.out]; exact Nat.le_refl _)
      have HWD2 := Lib.hid (all_words st.toList)
      have HO4 := Lib.hid (show (wc.alloc (.cells #[] 186)).ownsRow s4 186 1 (.slice (some ⟨wc.heap.size, 0, none⟩) 0 0) 0 [] by
        exact World.ownsRow_lit (base := s4) (e := 186) (size := 1) wc #[] 0 (by rw [HS4.out]; exact Nat.le_refl _) (by simp [maxLen]) rfl)
      have HA4 := Lib.hid ((Sl.of_own hkp4.hs).alloc (Nat.le_refl _) (.cells #[] 186))
      have HZ4 := Lib.hid (show s4 ≤ (wc.alloc (.cells #[] 186)).heap.size by simp; have := HS4.out; omega)
      have HK4 := Lib.hid (hkp4.grown (grown_alloc wc (.cells #[] 186)) (by intro k hk; cases hk))
      have HW4 := Lib.hid (own_alloc hw.out (.cells #[] 186))
      have HS34 := Lib.hid (show s3 ≤ s4 by rw [← HS4.out]; exact hkp0.sz)
      clear hkp0 hkp4
      try rw [show ((64 : Nat) : Int) = 64 from rfl]
      go_wp2_with (at_builtin; refine wpl_apps rfl rfl el_u32 HO4.out rfl HA4.out rfl HWD2.out ?_ ?_ HZ4.out ?_)
      · omega
      · omega
      · intro A9 c9 w9 ho hg _
        try rw [Nat.zero_add] at ho
        try rw [Nat.zero_add]
        try rw [List.nil_append] at ho
        have HV9 := Lib.hid ho
        have HK9 := Lib.hid (HK4.out.grown hg (by intro k hk; cases hk; rw [HS4.out]; exact Nat.le_refl _))
        have HW9 := Lib.hid (own_kept HW4.out hg (by intro k hk; cases hk; have := HGW.out; simp; omega))
        clear ho hg HO4 HA4 HZ4 HK4 HW4
        go_wp2_with fail
        refine rs_v hlt hnb2 HK HV9 HW9 HK9 (Lib.hid (by rw [← HS4.out]; exact HGW.out)) (Lib.hid ?_)
        intros
        rename_i A10 c10 wr hv_ hkv_
        have hv := Lib.hid hv_; have hkv := Lib.hid hkv_; clear hv_ hkv_
        obtain ⟨gv, rfl, hgv1, hgv2, hcv⟩ := own_form hv.out (by omega)
        have HGV := Lib.hid hgv1
        clear hgv1 hgv2 hcv
        obtain ⟨wd, rfl⟩ : ∃ wd : World, wd = wr := ⟨_, rfl⟩
        try rw [show ((64 : Nat) : Int) = 64 from rfl]
        have HCE := Lib.hid (show stB M (b + 1) = st.add (stN (chunkAt M b) st 64) by rw [stB_succ, ← HST.out, compress_eq])
        generalize hsn : stN (chunkAt M b) st 64 = sn at *
        clear hsn
        go_wp2_with fail
        refine rs_add HGV hv hkv (Lib.hid ?_)
        intros
        rename_i xs wr hup_ hkv_
        have hup := Lib.hid hup_; have hkv := Lib.hid hkv_; clear hup_ hkv_
        have hxs := upTo8_all hup.out
        rw [← HCE.out] at hxs
        have hkf := (hkv.out.less (s2 := s2) (by have := HS23.out; have := HS34.out; omega) HKEEP.out.lm HKEEP.out.lh HKEEP.out.lg)
        rw [hxs] at hkf
        have HKF := Lib.hid hkf
        clear hkf hxs hup hv hkv
        go_wp2_with fail
        go_roundw
        case rel => exact ⟨b + 1, by omega, by go_num, HKF⟩
        case measure => simp [intOf]; omega
    · obtain rfl : b = nb := by omega
      go_wp2_with fail
      exact HEX.out hkeep.out
end Go.Proofs.YtphmefhnffoafaaDoor

/- Contract of seisinref03.Sum. -/
namespace Go.Proofs.YtphmefhnffoafaaDoor
open Go.RowKit Go.Shelf
set_option linter.unusedVariables false

attribute [local go_sem ↓ high] add_w
attribute [local go_sem high] xor_w and_w or_w not_w shr_w shl_w wrap_b8
attribute [local go_sem ↓ high] not_sub

set_option maxRecDepth 100000 in
set_option maxHeartbeats 4000000 in
theorem rsum_any (A Ah Ak : Option Addr) (n c ch ck : Nat) (bs : List UInt8) (w : World) (hb : Sl w w.heap.size 1 A n (bs.map B)) (hh : Sl w w.heap.size 1 Ah 8 (firstSt.toList.map W)) (hk : Sl w w.heap.size 1 Ak 64 (roundKs.map W)) (hl : n ≤ 1099511627776) :
    Calls Tryd.prog 115 #[.slice A n c, .slice Ah 8 ch, .slice Ak 64 ck] w fun e w' => e = .returned (.agg ((sha bs).map B).toArray) ∧ Below w.heap.size w w' := by
  have HB := Lib.hid hb; have HH := Lib.hid hh; have HK := Lib.hid hk
  have hL : bs.length = n := by have := hb.1; simpa using this
  have HL := Lib.hid hL
  obtain ⟨bk, ok, rfl, hbk, -⟩ := hk.2 (by omega)
  clear hb hh hk hL hbk
  go_enter Tryd.func115, Tryd.ntmps115
  go_wp2_with (first | (with_reducible refine wpl_alloc (o := ⟨some 6, _, _, _, _, _⟩) rfl rfl zero_id ?_))
  intro w1 hb1 hbw1 hsz1
  have HB1 := Lib.hid hb1; clear hb1
  have HBW1 := Lib.hid hbw1; clear hbw1
  have HS1 := Lib.hid (HB.out.below HBW1.out)
  clear HB
  generalize hgd : w.heap.size = g at *
  have HG := Lib.hid hgd; clear hgd
  have HBY := Lib.hid (all_bytes bs)
  have hown0 : (w1.alloc (.cells #[] 5)).ownsRow (g + 1) 5 1 (.slice (some ⟨w1.heap.size, 0, none⟩) 0 0) 0 [] := World.ownsRow_lit w1 #[] 0 (by rw [hsz1]; exact Nat.le_refl _) (by simp [maxLen]) rfl
  have HO0 := Lib.hid hown0; clear hown0
  have HA0 := Lib.hid (HS1.out.alloc (by rw [hsz1]; omega) (.cells #[] 5))
  have HSZ1 := Lib.hid hsz1; clear hsz1
  have HZZ := Lib.hid (show g + 1 ≤ (w1.alloc (.cells #[] 5)).heap.size by simp; have := HSZ1.out; omega)
  have HBA := Lib.hid (HBW1.out.alloc (by have := HSZ1.out; omega) (.cells #[] 5))
  have HBB := Lib.hid (HB1.out.alloc (.cells #[] 5))
  go_wp2_with (at_builtin; refine wpl_apps rfl rfl el_u8 HO0.out rfl HA0.out rfl HBY.out ?_ ?_ HZZ.out ?_)
  · omega
  · omega
  · intro A2 c2 w2 ho hg _
    have HO2 := Lib.hid ho
    have HB2 := Lib.hid (HBB.out.grown hg (by simp; have := HSZ1.out; omega))
    have HBW2 := Lib.hid (HBA.out.grown hg (by have := HZZ.out; omega) (by intro k hk; cases hk; have := HSZ1.out; omega))
    have HSZ2 := Lib.hid (Nat.le_trans HZZ.out hg.size)
    clear ho hg HO0 HA0 HZZ HBA HBB HB1 HBW1 HSZ1 HS1
    try rw [Nat.zero_add] at HO2
    try rw [Nat.zero_add]
    try rw [List.nil_append] at HO2
    go_wp2_with (at_builtin; refine wpl_app1 rfl rfl el_u8 HO2.out rfl (m := 1) rfl rfl ?_ ?_ ?_ HSZ2.out ?_)
    · simp [Value.oneCell']
    · omega
    · omega
    · intro A3 c3 w3 ho hg _
      have hb3 := below_grown HBW2.out hg (by have := HSZ2.out; omega) (fun j hj => by have := own_from HO2.out j hj; omega)
      have HO3 := Lib.hid ho
      have HB3 := Lib.hid (HB2.out.grown hg (fun e => by have := own_from HO2.out g e.symm; omega))
      have HBW3 := Lib.hid hb3
      have HSZ3 := Lib.hid (Nat.le_trans HSZ2.out hg.size)
      clear ho hb3 hg HO2 HB2 HBW2 HSZ2
      have hz1 : zerosFor n ≤ 63 := by unfold zerosFor; omega
      have HZ := Lib.hid (zeros_lt n)
      have HZE := Lib.hid (zeros_eq n)
      generalize hZF : zerosFor n = Z at *
      have HZF := Lib.hid hZF; clear hZF
      go_wp2_with fail
      refine rs_pad (Lib.hid (fun j hj => by have := HZ.out j hj; omega)) (Lib.hid (by have := HZE.out; omega)) hl hz1 (Lib.hid (by simpa [i128] using HO3.out)) HB3 HBW3 HSZ3 (Lib.hid ?_)
      intros
      rename_i A4 c4 wo hown_ hblk_ hbw_ hsz_
      have hown := Lib.hid hown_; have hblk := Lib.hid hblk_; have hbw := Lib.hid hbw_; have hsz := Lib.hid hsz_; clear hown_ hblk_ hbw_ hsz_
      go_wp2_with fail
      refine rs_bits hl hz1 hown hblk hbw hsz (Lib.hid ?_)
      clear hown hblk hbw hsz
      intros
      rename_i A5 c5 wr hown_ hblk_ hbw_ hsz_
      have hown := Lib.hid hown_; have hblk := Lib.hid hblk_; have hbw := Lib.hid hbw_; have hsz := Lib.hid hsz_; clear hown_ hblk_ hbw_ hsz_
      have hlen : n + 1 + Z + 8 = (padded bs).length := by rw [padded_length, HL.out, HZF.out]; omega
      have hpad : bs ++ [128] ++ List.replicate Z 0 ++ (beBytes (8 * n) 8).take 8 = padded bs := by
        rw [padded, HL.out, HZF.out, List.take_of_length_le (by rw [beBytes_length]; omega)]
      obtain ⟨nb, hnb⟩ : ∃ nb, (padded bs).length = 64 * nb := ⟨(padded bs).length / 64, by have := padded_mod bs; omega⟩
      have HNB := Lib.hid hnb
      rw [hnb] at hlen
      have hnb2 : nb ≤ 1000000000000 := by omega
      have HOM := hown.out
      rw [hpad] at HOM
      obtain ⟨gm, rfl, hgm1, hgm2, hcm⟩ := own_form HOM (by omega)
      rw [hlen] at HOM hcm ⊢
      have HM := Lib.hid HOM
      clear HOM hown hpad hnb hlen
      generalize hs1 : wr.heap.size = s1 at *
      have HS1 := Lib.hid hs1; clear hs1
      have HGM1 := Lib.hid hgm1
      have HGM2 := Lib.hid hgm2
      have HCM := Lib.hid hcm
      clear hgm1 hgm2 hcm
      obtain ⟨wo2, rfl⟩ : ∃ wo2 : World, wo2 = wr := ⟨_, rfl⟩
      have HWD := Lib.hid (all_words firstSt.toList)
      have hgs : g + 1 ≤ s1 := hsz.out
      have HO0 := Lib.hid (show (wo2.alloc (.cells #[] 186)).ownsRow s1 186 1 (.slice (some ⟨wo2.heap.size, 0, none⟩) 0 0) 0 [] by
        have := World.ownsRow_lit (base := s1) (e := 186) (size := 1) wo2 #[] 0 (by rw [HS1.out]; exact Nat.le_refl _) (by simp [maxLen]) rfl
        exact this)
      have hhh := HH.out.below hbw.out
      have HA0 := Lib.hid (hhh.alloc (by rw [HS1.out]; omega) (.cells #[] 186))
      clear hhh
      have HZZ := Lib.hid (show s1 ≤ (wo2.alloc (.cells #[] 186)).heap.size by simp; have := HS1.out; omega)
      have HMA := Lib.hid (own_alloc HM.out (.cells #[] 186))
      have HBA := Lib.hid (hbw.out.alloc (by rw [HS1.out]; omega) (.cells #[] 186))
      have HBB := Lib.hid (hblk.out.alloc (.cells #[] 186))
      skip
      go_wp2_with (at_builtin; refine wpl_apps rfl rfl el_u32 HO0.out rfl HA0.out rfl HWD.out ?_ ?_ HZZ.out ?_)
      · omega
      · omega
      · intro A7 c7 w7 ho hg _
        have hgrow := hg
        try rw [Nat.zero_add] at ho
        try rw [Nat.zero_add]
        try rw [List.nil_append] at ho
        obtain ⟨gh, rfl, hgh1, hgh2, hch⟩ := own_form ho (by omega)
        have hbw7 := HBA.out.grown hg (by have := HZZ.out; omega) (by intro k hk; cases hk; rw [HS1.out]; omega)
        have hkeep : KeepR g s1 w7.heap.size gm gh nb c5 c7 (padded bs) (firstSt.toList.map W) w w7 :=
          ⟨own_kept HMA.out hg (by intro k hk; cases hk; simp; rw [HS1.out]; have := HGM2.out; omega), ho,
           HBB.out.grown hg (by simp; rw [HS1.out]; omega), hbw7, Nat.le_refl _, Nat.lt_of_lt_of_le (by have := HGM2.out; have := HZZ.out; omega) hg.size, hgh2, by have := hg.size; have := HZZ.out; omega, by have := HGM2.out; omega, by omega⟩
        have HKEEP := Lib.hid hkeep
        clear hkeep hbw7 hgrow ho hg HBB HBA HMA HZZ HA0 HO0 HM
        generalize hs2 : w7.heap.size = s2 at *
        have HS2 := Lib.hid hs2; clear hs2
        have HGH1 := Lib.hid hgh1
        have HGH2 := Lib.hid hgh2
        clear hgh1 hgh2
        go_wp2_with fail
        refine rs_at HNB hnb2 HK HKEEP (Lib.hid ?_)
        intros
        rename_i wr hkeep_
        have hkeep := Lib.hid hkeep_; clear hkeep_
        obtain ⟨we, rfl⟩ : ∃ we : World, we = wr := ⟨_, rfl⟩
        have hsha : sha bs = outB (stB (padded bs) nb) := by rw [sha_eq, HNB.out, Nat.mul_div_cancel_left _ (by omega)]
        have HSHA := Lib.hid hsha; clear hsha
        generalize hst : stB (padded bs) nb = st at *
        clear hst
        go_wp2_with (first | (with_reducible refine wpl_alloc (o := ⟨some 23, _, _, _, _, _⟩) rfl rfl zero_id ?_))
        intro wf hbf hbwf hszf
        have HKO := Lib.hid (hkeep.out.grown (hg := ⟨hbwf.os, hbwf.tape, hbwf.output, hbwf.size, fun k hk _ => hbwf.block k hk⟩) (row := none) (by intro k hk; cases hk))
        obtain ⟨go, hgo⟩ : ∃ go, go = we.heap.size := ⟨_, rfl⟩
        rw [← hgo] at hbf hszf ⊢
        have HOUT := Lib.hid (show Blk wf go 23 (List.replicate 32 (B 0)) from hbf)
        have HGO := Lib.hid (show s2 ≤ go by rw [hgo]; exact hkeep.out.sz)
        clear hbf hbwf hszf hgo hkeep
        go_wp2_with fail
        refine rs_out HGO HOUT HKO (Lib.hid ?_)
        intros
        rename_i wr hout_ hkv_
        have hout := Lib.hid hout_; have hkv := Lib.hid hkv_; clear hout_ hkv_
        generalize hxx0 : (outB st).map B = xs at *
        have hxx := hxx0.symm
        have hxn0 : xs.length = 32 := by rw [hxx, List.length_map, outB_length]
        rw [← HSHA.out] at hxx
        have hxn : xs.length = 32 := hxn0
        have HX1 := Lib.hid (show ∀ v ∈ xs, v.oneCell' = true by rw [hxx]; exact all_bytes _)
        have HXX := Lib.hid hxx
        have HXN := Lib.hid hxn
        clear hxx hxn hxx0 hxn0
        go_wp2_with (first | (with_reducible refine wpl_loadb (o := ⟨some 323, _, _, _, _, _⟩) rfl rfl row_32 hout.out rfl HXN.out ?_) | (with_reducible refine wpl_storeb (o := ⟨none, .store _ _ _, _, _, _, _⟩) rfl rfl row_32 hkv.out.res rfl rfl len32 HXN.out HX1.out ?_))
        intro w11 hb11 hg11 hsz11
        have HB11 := Lib.hid hb11
        have HL11 := Lib.hid (hkv.out.low.grown hg11 (Nat.le_trans (Nat.le_of_lt hkv.out.lg) hkv.out.sz) (fun j hj => by cases hj; exact Nat.le_refl _))
        clear hb11 hg11 hsz11
        go_wp2_with fail
        refine bodyPost_ret (results_cell_row rfl _ _ g _ xs.toArray (0, 0) _ rfl HB11.out Tryd.underlying23 rfl (by rw [List.size_toArray, HXN.out]; kernel_rfl)) rfl ?_
        refine ⟨by rw [HXX.out], ?_⟩
        rw [HG.out]; exact HL11.out
end Go.Proofs.YtphmefhnffoafaaDoor

/- Contracts of seisinref03.Of, Long; seisinref01.Pick. -/
namespace Go.Proofs.YtphmefhnffoafaaDoor
open Go.RowKit Go.Shelf
set_option linter.unusedVariables false

set_option maxHeartbeats 1000000 in
theorem of_any (A : Option Addr) (n c : Nat) (bs : List UInt8) (w : World) (hb : Sl w w.heap.size 1 A n (bs.map B)) (hl : n ≤ 1099511627776) :
    Calls Tryd.prog 69 #[.slice A n c] w fun e w' => e = .returned (.agg ((sha bs).map B).toArray) ∧ Below w.heap.size w w' := by
  have HS := Lib.hid hb; clear hb
  have HA := Lib.hid (all_bytes (sha bs))
  have HLN := Lib.hid (show ((sha bs).map B).length = 32 by rw [List.length_map, sha_length])
  have hrs := fun (Ah Ak : Option Addr) (w : World) h1 h2 h3 => rsum_any A Ah Ak n c 8 64 bs w h1 h2 h3 hl
  have HRS := Lib.hid hrs; clear hrs
  generalize hxs : (sha bs).map B = xs at *
  clear hxs
  go_enter Tryd.func69, Tryd.ntmps69
  go_wp2_with (first | (with_reducible refine wpl_alloc (o := ⟨some 2, _, _, _, _, _⟩) rfl rfl zero_id ?_))
  intro w1 hb1 hbw1 hsz1
  have HB1 := Lib.hid hb1; clear hb1
  have HBW1 := Lib.hid hbw1; clear hbw1
  have hs1 := (HS.out.below HBW1.out).more HBW1.out.size
  have HS1 := Lib.hid hs1; clear hs1
  generalize hgd : w.heap.size = g at *
  have HG := Lib.hid hgd; clear hgd
  have HSZ1 := Lib.hid hsz1; clear hsz1
  go_wp2_with fail
  refine (first_ref w1).mono ?_
  rintro e w2 ⟨g2, rfl, hs2, hb2⟩
  have HF2 := Lib.hid hs2
  have HS2 := Lib.hid ((HS1.out.below hb2).more hb2.size)
  have HB2 := Lib.hid (HB1.out.call hb2)
  have HBW2 := Lib.hid (below_step HBW1.out (by have := HSZ1.out; omega) hb2)
  have HZ2 := Lib.hid (Nat.le_trans (Nat.le_of_eq HSZ1.out.symm) hb2.size)
  clear hs2 hb2 HB1 HBW1 HS1
  go_wp2_with fail
  refine (rounds_ref w2).mono ?_
  rintro e w3 ⟨g3, rfl, hs3, hb3⟩
  have HR3 := Lib.hid hs3
  have HF3 := Lib.hid ((HF2.out.below hb3).more hb3.size)
  have HS3 := Lib.hid ((HS2.out.below hb3).more hb3.size)
  have HB3 := Lib.hid (HB2.out.call hb3)
  have HBW3 := Lib.hid (below_step HBW2.out (by have := HZ2.out; omega) hb3)
  have HZ3 := Lib.hid (Nat.le_trans HZ2.out hb3.size)
  clear hs3 hb3 HB2 HBW2 HS2 HF2
  go_wp2_with fail
  refine (HRS.out _ _ w3 HS3.out HF3.out HR3.out).mono ?_
  rintro e w4 ⟨rfl, hb4⟩
  have HB4 := Lib.hid (show Blk w4 g 23 (List.replicate 32 (B 0)) from HB3.out.call hb4)
  have HBW4 := Lib.hid (below_step HBW3.out (by have := HZ3.out; omega) hb4)
  have HZ4 := Lib.hid (Nat.le_trans HZ3.out hb4.size)
  clear hb4 HB3 HBW3 HS3 HF3 HR3 HRS
  have H1 := HA
  go_wp2_with (first | (with_reducible refine wpl_storeb (o := ⟨none, .store _ _ _, _, _, _, _⟩) rfl rfl row_32 HB4.out rfl rfl len32 HLN.out HA.out ?_))
  intro w5 hb5 hg5 hsz5
  have HB5 := Lib.hid hb5
  have HBW5 := Lib.hid (HBW4.out.grown hg5 (by have := HZ4.out; omega) (by intro k hk; cases hk; exact Nat.le_refl _))
  clear hb5 hg5 hsz5
  go_wp2_with fail
  refine bodyPost_ret (results_cell_row rfl _ _ g _ xs.toArray (0, 0) _ rfl HB5.out Tryd.underlying23 rfl (by rw [List.size_toArray, HLN.out]; kernel_rfl)) rfl ?_
  refine ⟨rfl, ?_⟩
  rw [HG.out]; exact HBW5.out

/-- A length as four bytes, and the bytes. -/
theorem long_any (A : Option Addr) (n c : Nat) (bs : List UInt8) (w : World) (hb : Sl w w.heap.size 1 A n (bs.map B)) (hl : n ≤ 4294967295) :
    Calls Tryd.prog 70 #[.slice A n c] w fun e w' => ∃ A' c', e = .returned (.slice A' (4 + n) c') ∧ w'.ownsRow w.heap.size 5 1 (.slice A' (4 + n) c') (4 + n) ((beBytes n 4 ++ bs).map B) ∧ Below w.heap.size w w' := by
  have HS := Lib.hid hb; clear hb
  have HA := Lib.hid (all_bytes bs)
  have e0 : (n : Int) / 16777216 = b8 (beByte n 4 0) := by have h : (n : Int) / 16777216 % 256 = b8 (beByte n 4 0) := beByte_div n 4 0; omega
  have e1 : (n : Int) / 65536 % 256 = b8 (beByte n 4 1) := beByte_div n 4 1
  have e2 : (n : Int) / 256 % 256 = b8 (beByte n 4 2) := beByte_div n 4 2
  have e3 : (n : Int) % 256 = b8 (beByte n 4 3) := by have := beByte_div n 4 3; simpa using this
  have HO := Lib.hid (World.ownsRow_lit (base := w.heap.size) (e := 5) (size := 1) w #[B (beByte n 4 0), B (beByte n 4 1), B (beByte n 4 2), B (beByte n 4 3)] 4 (Nat.le_refl _) (by simp [maxLen]) rfl)
  have HS1 := Lib.hid (HS.out.alloc (Nat.le_refl _) (.cells #[B (beByte n 4 0), B (beByte n 4 1), B (beByte n 4 2), B (beByte n 4 3)] 5))
  go_enter Tryd.func70, Tryd.ntmps70
  go_wp2_with (at_builtin; refine wpl_apps rfl rfl el_u8 HO.out rfl HS1.out rfl HA.out ?_ ?_ (Nat.le_of_lt (by simp)) ?_)
  · omega
  · omega
  · intro A' c' w' ho hg _
    have HO2 := Lib.hid ho
    have HB2 := Lib.hid (((Below.refl w.heap.size w).alloc (Nat.le_refl _) (.cells #[B (beByte n 4 0), B (beByte n 4 1), B (beByte n 4 2), B (beByte n 4 3)] 5)).grown hg (by simp) (by intro k hk; cases hk; exact Nat.le_refl _))
    clear ho hg e0 e1 e2 e3
    go_wp2_with fail
    go_ret
    refine ⟨A', c', rfl, ?_, HB2.out⟩
    have h := HO2.out
    have e : (beBytes n 4 ++ bs).map B = #[B (beByte n 4 0), B (beByte n 4 1), B (beByte n 4 2), B (beByte n 4 3)].toList ++ bs.map B := by
      rw [beBytes]; rfl
    rw [e]
    exact h
end Go.Proofs.YtphmefhnffoafaaDoor

/- The contract of seisinref03.Of, ready for the laws. -/
namespace Go.Proofs.YtphmefhnffoafaaDoor
open Go.RowKit Go.Shelf
set_option linter.unusedVariables false
theorem dof_any (A : Option Addr) (n c : Nat) {bs : List UInt8} {xs : List Value} (hx : Dig xs (sha bs)) (w : World) (hb : Sl w w.heap.size 1 A n (bs.map B)) (hl : n ≤ 1099511627776) :
    Calls Tryd.prog 69 #[.slice A n c] w fun e w' => e = .returned (.agg xs.toArray) ∧ Below w.heap.size w w' := by
  rw [hx.1]
  exact of_any A n c bs w hb hl
end Go.Proofs.YtphmefhnffoafaaDoor

/- Layer 5: the root, in the program and in the document's answer. -/
namespace Go.Proofs.YtphmefhnffoafaaDoor
open Go.RowKit Go.Shelf
set_option linter.unusedVariables false

def rootB (l : List (List UInt8)) : List UInt8 :=
  match l with
  | [] => noneB
  | [x] => leafB x
  | x :: y :: r => nodeB (rootB ((x :: y :: r).take (halfN (x :: y :: r).length))) (rootB ((x :: y :: r).drop (halfN (x :: y :: r).length)))
termination_by l.length
decreasing_by
  · rw [List.length_take]; have := halfN_lt (n := (x :: y :: r).length) (by simp); omega
  · rw [List.length_drop]; have := halfN_pos (x :: y :: r).length; simp only [List.length_cons] at *; omega
theorem rootB_nil : rootB [] = noneB := by rw [rootB]
theorem rootB_one (x : List UInt8) : rootB [x] = leafB x := by rw [rootB]
theorem rootB_more (l : List (List UInt8)) (h : 2 ≤ l.length) : rootB l = nodeB (rootB (l.take (halfN l.length))) (rootB (l.drop (halfN l.length))) := by
  match l, h with
  | x :: y :: r, _ => rw [rootB]
theorem rootB_len (l : List (List UInt8)) : (rootB l).length = 32 := by
  match l with
  | [] => rw [rootB_nil]; exact noneB_len
  | [x] => rw [rootB_one]; exact leafB_len x
  | x :: y :: r => rw [rootB_more _ (by simp)]; exact nodeB_len _ _
theorem dig_root (l : List (List UInt8)) : ∃ v, Dig v (rootB l) := ⟨(rootB l).map B, rfl, rootB_len l⟩

theorem Parts.to1 {w : World} {Bd n k : Nat} {A : Option Addr} {ps : List (Value × List UInt8)} (h : Parts w Bd A n ps) (hk : k ≤ n) : Parts w Bd A k (ps.take k) :=
  ⟨by rw [List.map_take]; exact h.1.to1 hk, fun p hp => h.2 p (List.mem_of_mem_take hp)⟩
theorem Parts.from1 {w : World} {Bd n k c : Nat} {A : Option Addr} {ps : List (Value × List UInt8)} (h : Parts w Bd A n ps) (hk : k ≤ n) (hc : n ≤ c) : Parts w Bd (if c = k then A else Option.map (fun x => x.add k) A) (n - k) (ps.drop k) :=
  ⟨by rw [List.map_drop]; exact h.1.from1 hk hc, fun p hp => h.2 p (List.mem_of_mem_drop hp)⟩
theorem Parts.none_ (w : World) : Parts w w.heap.size none 0 [] := ⟨Sl.nil, fun p hp => by cases hp⟩
attribute [local irreducible] leafB nodeB noneB

set_option maxRecDepth 100000 in
set_option maxHeartbeats 1000000 in
theorem root_any : ∀ (N n c : Nat) (A : Option Addr) (ps : List (Value × List UInt8)) (xs : List Value) (w : World), n ≤ N → Dig xs (rootB (ps.map Prod.snd)) → Parts w w.heap.size A n ps → n ≤ c → n ≤ 16777216 → (∀ p ∈ ps, p.2.length ≤ 1000000) → Tabs w →
    Calls Tryd.prog 66 #[.slice A n c] w fun e w' => e = .returned (.agg xs.toArray) ∧ Below w.heap.size w w' := by
  intro N
  induction N with
  | zero =>
    intro n c A ps xs w hnN hx hp hc hn hl ht
    obtain rfl : n = 0 := by omega
    have HT := Lib.hid ht
    have HD := Lib.hid (show Dig xs (sha (underB 0 [])) by have h := hx; obtain rfl : ps = [] := List.eq_nil_of_length_eq_zero hp.len; rw [List.map_nil, rootB_nil] at h; unfold noneB at h; exact h)
    have HB := Lib.hid (Below.refl w.heap.size w)
    have HG := Lib.hid (Nat.le_refl w.heap.size)
    clear ht hx hp hl
    go_enter Tryd.func66, Tryd.ntmps66
    go_wp2_with (first | (with_reducible refine wpl_alloc (o := ⟨some 2, _, _, _, _, _⟩) rfl rfl zero_id ?_))
    intro w2_ hb2_ hb_ hsz2_
    have HX_ := Lib.hid (at_mk hb2_ len_id)
    clear hb2_ hsz2_
    have HB_ := Lib.hid (HB.out.grow' hb_)
    clear HB
    have HB := HB_
    clear HB_
    have HT_ := Lib.hid (HT.out.grow hb_)
    clear HT
    have HT := HT_
    clear HT_
    have HR := HX_
    clear hb_ HX_
    try clear w_
    rename World => w_
    have HP := Lib.hid (show ∃ ps, Parts w_ w_.heap.size none 0 ps ∧ ps.map Prod.snd = [] from ⟨[], Parts.none_ w_, rfl⟩)
    go_wp2_with fail
    refine (punder_any (m := 0) HD.out HP.out (by omega) (by intro l hl; cases hl) HT.out).mono ?_
    rintro e w_ ⟨rfl, hb_⟩
    have HB_ := Lib.hid (HB.out.grow' hb_)
    clear HB
    have HB := HB_
    clear HB_
    have HR_ := Lib.hid (HR.out.grow hb_)
    clear HR
    have HR := HR_
    clear HR_
    clear hb_
    go_wp2_with (first | (with_reducible refine wpl_storeb (o := ⟨none, .store _ _ _, _, _, _, _⟩) rfl rfl row_id HR.out.blk rfl rfl HR.out.len HD.out.len HD.out.one ?_))
    intro w2_ hb2_ hg2_ hsz2_
    have HB_ := Lib.hid (put_below HB.out HG.out hg2_)
    have HX_ := Lib.hid (at_mk hb2_ HD.out.len)
    clear hb2_ hg2_ hsz2_ HB HR
    have HB := HB_
    have HR := HX_
    clear HB_ HX_
    try clear w_
    rename World => w_
    go_wp2_with fail
    exact ret_cell rfl row_id HR.out.blk rfl HR.out.len rfl ⟨rfl, HB.out⟩
  | succ N ih =>
    intro n c A ps xs w hnN hx hp hc hn hl ht
    by_cases hz : n ≤ N
    · exact ih n c A ps xs w hz hx hp hc hn hl ht
    have hnN1 : n = N + 1 := by omega
    have HT := Lib.hid ht; have HP := Lib.hid hp; have HL := Lib.hid hl
    have HN := Lib.hid hp.len
    have HB := Lib.hid (Below.refl w.heap.size w)
    have HG := Lib.hid (Nat.le_refl w.heap.size)
    have HIH := Lib.hid ih
    by_cases h1 : N = 0
    · subst h1
      obtain rfl : n = 1 := by omega
      obtain ⟨p, rfl⟩ : ∃ p, ps = [p] := by
        have := hp.len
        match ps, this with
        | [p], _ => exact ⟨p, rfl⟩
      have HD := Lib.hid (show Dig xs (leafB p.2) by have h := hx; rw [List.map_cons, List.map_nil, rootB_one] at h; exact h)
      obtain ⟨b, off, A2, c2, bs, rfl, hps, hcell, hcc, hs⟩ := hp.at_ (show 0 < 1 by omega)
      obtain rfl : p = (.slice A2 bs.length c2, bs) := by simpa using hps
      have HS := Lib.hid hs
      have hbl := hl _ (List.mem_singleton.2 rfl)
      rw [Nat.add_zero] at hcell
      have HC := Lib.hid hcell
      clear ht hx hp hl hs ih hps hcell hz hnN1
      go_enter Tryd.func66, Tryd.ntmps66
      go_wp2_with (first | (with_reducible refine wpl_alloc (o := ⟨some 2, _, _, _, _, _⟩) rfl rfl zero_id ?_))
      intro w2_ hb2_ hb_ hsz2_
      have HX_ := Lib.hid (at_mk hb2_ len_id)
      clear hb2_ hsz2_
      have HB_ := Lib.hid (HB.out.grow' hb_)
      clear HB
      have HB := HB_
      clear HB_
      have HT_ := Lib.hid (HT.out.grow hb_)
      clear HT
      have HT := HT_
      clear HT_
      have HS_ := Lib.hid (HS.out.grow hb_)
      clear HS
      have HS := HS_
      clear HS_
      have HR := HX_
      clear hb_ HX_
      try clear w_
      rename World => w_
      have hcell := bcell HB.out HC.out
      go_wp2_with fail
      refine (leaf_any _ _ _ _ HD.out _ HS.out hcc hbl HT.out).mono ?_
      rintro e w_ ⟨rfl, hb_⟩
      have HB_ := Lib.hid (HB.out.grow' hb_)
      clear HB
      have HB := HB_
      clear HB_
      have HR_ := Lib.hid (HR.out.grow hb_)
      clear HR
      have HR := HR_
      clear HR_
      clear hb_
      clear hcell
      go_wp2_with (first | (with_reducible refine wpl_storeb (o := ⟨none, .store _ _ _, _, _, _, _⟩) rfl rfl row_id HR.out.blk rfl rfl HR.out.len HD.out.len HD.out.one ?_))
      intro w2_ hb2_ hg2_ hsz2_
      have HB_ := Lib.hid (put_below HB.out HG.out hg2_)
      have HX_ := Lib.hid (at_mk hb2_ HD.out.len)
      clear hb2_ hg2_ hsz2_ HB HR
      have HB := HB_
      have HR := HX_
      clear HB_ HX_
      try clear w_
      rename World => w_
      go_wp2_with fail
      exact ret_cell rfl row_id HR.out.blk rfl HR.out.len rfl ⟨rfl, HB.out⟩
    · have h2 : 2 ≤ n := by omega
      obtain ⟨k, hk⟩ : ∃ k, k = halfN n := ⟨_, rfl⟩
      have hk1 : 1 ≤ k := by rw [hk]; exact halfN_pos n
      have hk2 : k < n := by rw [hk]; exact halfN_lt h2
      have hkn : k ≤ n := Nat.le_of_lt hk2
      have hkc : k ≤ c := by omega
      have HK := Lib.hid hk
      have hkN : k ≤ N := by omega
      have hdN : n - k ≤ N := by omega
      have hN1 : N + 1 ≤ n := by omega
      obtain ⟨xs1, hd1⟩ := dig_root ((ps.take k).map Prod.snd)
      obtain ⟨xs2, hd2⟩ := dig_root ((ps.drop k).map Prod.snd)
      have HD1 := Lib.hid hd1; have HD2 := Lib.hid hd2
      have HD := Lib.hid (show Dig xs (nodeB (rootB ((ps.take k).map Prod.snd)) (rootB ((ps.drop k).map Prod.snd))) by
        have h := hx
        rw [rootB_more _ (by rw [List.length_map, HN.out]; exact h2), List.length_map, HN.out, ← hk, ← List.map_take, ← List.map_drop] at h
        exact h)
      have z1 : ((n : Int) == 0) = false := by simp; omega
      have z2 : ((n : Int) == 1) = false := by simp; omega
      have z3 : decide ((n : Int) = 0) = false := by simp; omega
      have z4 : decide ((n : Int) = 1) = false := by simp; omega
      have z5 : (n == 0) = false := by simp; omega
      have z6 : (n == 1) = false := by simp; omega
      have z7 : decide (n = 0) = false := by simp; omega
      have z8 : decide (n = 1) = false := by simp; omega
      have HL1 := Lib.hid (show ∀ p ∈ ps.take k, p.2.length ≤ 1000000 from fun p hp => hl p (List.mem_of_mem_take hp))
      have HL2 := Lib.hid (show ∀ p ∈ ps.drop k, p.2.length ≤ 1000000 from fun p hp => hl p (List.mem_of_mem_drop hp))
      clear ht hx hp hl ih hd1 hd2 hk hnN1
      go_enter Tryd.func66, Tryd.ntmps66
      go_wp2_with (first | (with_reducible refine wpl_alloc (o := ⟨some 2, _, _, _, _, _⟩) rfl rfl zero_id ?_))
      intro w2_ hb2_ hb_ hsz2_
      have HX_ := Lib.hid (at_mk hb2_ len_id)
      clear hb2_ hsz2_
      have HB_ := Lib.hid (HB.out.grow' hb_)
      clear HB
      have HB := HB_
      clear HB_
      have HT_ := Lib.hid (HT.out.grow hb_)
      clear HT
      have HT := HT_
      clear HT_
      have HP_ := Lib.hid (HP.out.grow hb_)
      clear HP
      have HP := HP_
      clear HP_
      have HR := HX_
      clear hb_ HX_
      try clear w_
      rename World => w_
      go_wp2_with fail
      refine (first_any n _ h2 hn).mono ?_
      rintro e w1 ⟨rfl, rfl⟩
      rw [← HK.out]
      try go_wp2_with fail
      repeat' (first | (with_reducible refine wp_plan (id := 7) Grow [0,0,0,3,0,0,0,3,3,3] (.get 0 (.get 1 (.get 2 (.get 4 (.get 5 (.get 6 (.act 3 (.act 7 (.act 8 (.act 9 .done)))))))))) (by kernel_rfl) (by kernel_rfl) Grow.refl Grow.trans ?_) | go_values | go_skip | go_guarded | go_step | go_upon | go_back)
      intro w_ hd_
      have hb_ := hd_.grow
      have HB_ := Lib.hid (HB.out.grow' hb_)
      clear HB
      have HB := HB_
      clear HB_
      have HR_ := Lib.hid (HR.out.grow hb_)
      clear HR
      have HR := HR_
      clear HR_
      have HT_ := Lib.hid (HT.out.grow hb_)
      clear HT
      have HT := HT_
      clear HT_
      have HP_ := Lib.hid (HP.out.grow hb_)
      clear HP
      have HP := HP_
      clear HP_
      clear hb_ hd_
      repeat (first | (refine pl_calm rfl rfl (by first | exact wanted_none rfl | (go_simp; done) | rfl) (fun w_ => by first | (go_simp; rfl) | (go_simp; done) | rfl) (fun K hK => ?_); go_simp; refine hK _ _ ?_; clear hK K) | (refine pl_skip rfl (by first | (go_simp; done) | rfl) (fun K hK => ?_); go_simp; refine hK _ _ ?_; clear hK K) | (refine pl_skipa rfl (by first | (go_simp; done) | rfl) (fun K hK => ?_); go_simp; refine hK _ _ ?_; clear hK K))
      have HP1 := Lib.hid (HP.out.to1 hkn)
      have HP2 := Lib.hid (HP.out.from1 hkn hc)
      generalize (if c = k then A else Option.map (fun x => x.add k) A) = A2 at HP2 ⊢
      refine pl_act rfl (by first | exact wanted_none rfl | (go_simp; done) | rfl) (fun K hK => ?_)
      go_wp2_with fail
      refine (HIH.out k c A (ps.take k) xs1 _ (by omega) HD1.out HP1.out hkc (by omega) HL1.out HT.out).mono ?_
      rintro e w_ ⟨rfl, hb_⟩
      go_wp2_with fail
      refine hK _ _ (fun _ => hb_) ?_
      clear hK K
      have HB_ := Lib.hid (HB.out.grow' hb_)
      clear HB
      have HB := HB_
      clear HB_
      have HR_ := Lib.hid (HR.out.grow hb_)
      clear HR
      have HR := HR_
      clear HR_
      have HT_ := Lib.hid (HT.out.grow hb_)
      clear HT
      have HT := HT_
      clear HT_
      have HP2_ := Lib.hid (HP2.out.grow hb_)
      clear HP2
      have HP2 := HP2_
      clear HP2_
      clear hb_
      refine pl_act rfl (by first | exact wanted_none rfl | (go_simp; done) | rfl) (fun K hK => ?_)
      go_wp2_with fail
      refine (HIH.out (n - k) (c - k) A2 (ps.drop k) xs2 _ (by omega) HD2.out HP2.out (by omega) (by omega) HL2.out HT.out).mono ?_
      rintro e w_ ⟨rfl, hb_⟩
      go_wp2_with fail
      refine hK _ _ (fun _ => hb_) ?_
      clear hK K
      have HB_ := Lib.hid (HB.out.grow' hb_)
      clear HB
      have HB := HB_
      clear HB_
      have HR_ := Lib.hid (HR.out.grow hb_)
      clear HR
      have HR := HR_
      clear HR_
      have HT_ := Lib.hid (HT.out.grow hb_)
      clear HT
      have HT := HT_
      clear HT_
      clear hb_
      refine pl_act rfl (by first | exact wanted_none rfl | (go_simp; done) | rfl) (fun K hK => ?_)
      go_wp2_with fail
      refine (node_any HD1.out HD2.out HD.out _ HT.out).mono ?_
      rintro e w_ ⟨rfl, hb_⟩
      go_wp2_with fail
      refine hK _ _ (fun _ => hb_) ?_
      clear hK K
      have HB_ := Lib.hid (HB.out.grow' hb_)
      clear HB
      have HB := HB_
      clear HB_
      have HR_ := Lib.hid (HR.out.grow hb_)
      clear HR
      have HR := HR_
      clear HR_
      clear hb_
      refine pl_act rfl (by first | exact wanted_none rfl | (go_simp; done) | rfl) (fun K hK => ?_)
      show wpList _ _ _ [⟨none, .store _ _ _, _, _, _, _⟩] _ _
      go_wp2_with (first | (with_reducible refine wpl_storeb (o := ⟨none, .store _ _ _, _, _, _, _⟩) rfl rfl row_id HR.out.blk rfl rfl HR.out.len HD.out.len HD.out.one ?_))
      intro w2_ hb2_ hg2_ hsz2_
      have HB_ := Lib.hid (put_below HB.out HG.out hg2_)
      have HX_ := Lib.hid (at_mk hb2_ HD.out.len)
      clear hb2_ hg2_ hsz2_ HB HR
      have HB := HB_
      have HR := HX_
      clear HB_ HX_
      try clear w_
      rename World => w_
      go_wp2_with fail
      refine hK _ _ (fun h => by cases h) ?_
      clear hK K
      refine pl_done ?_
      go_wp2_with fail
      exact ret_cell rfl row_id HR.out.blk rfl HR.out.len rfl ⟨rfl, HB.out⟩
end Go.Proofs.YtphmefhnffoafaaDoor

/- Headers and entries: their forms, digests, and who follows whom (plain). -/
namespace Go.Proofs.YtphmefhnffoafaaDoor
open Go.RowKit
set_option linter.unusedVariables false

def putEB (e : Ent) : List UInt8 := numB e.kind.toNat ++ numB e.shard.toNat ++ e.tx ++ numB e.amount.toNat ++ numB e.why.toNat ++ numB e.epoch.toNat
def putHB (h : Hdr) : List UInt8 := numB h.shard.toNat ++ numB h.height.toNat ++ numB h.epoch.toNat ++ h.prev ++ h.root
def zeroD : List UInt8 := List.replicate 32 0
def hidB (h : Hdr) : List UInt8 := if rightH h = true then sha (underB 11 [putHB h]) else zeroD
theorem hidB_len (h : Hdr) : (hidB h).length = 32 := by unfold hidB; split <;> simp [sha_length, zeroD]
def followsB (a b : Hdr) : Bool := rightH a && rightH b && decide (a.shard = b.shard) && decide (b.height = a.height + 1) && decide (a.epoch ≤ b.epoch) && (b.prev == hidB a)
def leavesB (c : List UInt8) (e : Ent) (i : Int) : List (List UInt8) := if rightE e = true ∧ i ≤ 4611686018427387904 then [c, putEB e, numB i.toNat] else []
def nextH (p : Hdr) (first : Bool) (ls : List (List UInt8)) (s ep : Int) : Hdr := if first = true then ⟨s, 1, ep, zeroD, rootB ls⟩ else ⟨p.shard, p.height + 1, ep, hidB p, rootB ls⟩
def nextOK (p : Hdr) (first : Bool) (ls : List (List UInt8)) (s ep : Int) : Bool := decide (ls.length = 3) && (first || rightH p && decide (p.epoch ≤ ep)) && rightH (nextH p first ls s ep)
def nextB (p : Hdr) (first : Bool) (ls : List (List UInt8)) (s ep : Int) : Hdr := if nextOK p first ls s ep = true then nextH p first ls s ep else noHdr
theorem inB_iff {n lo hi : Int} : inB n lo hi = true ↔ lo ≤ n ∧ n ≤ hi := by unfold inB; simp
theorem rightE_iff {e : Ent} : rightE e = true ↔ (1 ≤ e.kind ∧ e.kind ≤ 3) ∧ (0 ≤ e.shard ∧ e.shard ≤ 63) ∧ e.amount ≤ 4611686018427387904 ∧ (0 ≤ e.why ∧ e.why ≤ 63) ∧ (0 ≤ e.epoch ∧ e.epoch ≤ 1099511627776) := by
  unfold rightE; simp only [Bool.and_eq_true, inB_iff, decide_eq_true_eq]; constructor <;> (intro h; omega)
theorem rightH_iff {h : Hdr} : rightH h = true ↔ (0 ≤ h.shard ∧ h.shard ≤ 63) ∧ (1 ≤ h.height ∧ h.height ≤ 1099511627776) ∧ (0 ≤ h.epoch ∧ h.epoch ≤ 1099511627776) := by
  unfold rightH; simp only [Bool.and_eq_true, inB_iff]; constructor <;> (intro h; omega)
theorem putHB_len {h : Hdr} (hk : h.ok) (hr : rightH h = true) : (putHB h).length ≤ 91 := by
  have hr := rightH_iff.1 hr
  have h1 := numB_le (n := h.shard.toNat) (by omega)
  have h2 := numB_le (n := h.height.toNat) (by omega)
  have h3 := numB_le (n := h.epoch.toNat) (by omega)
  have h4 := hk.2.2.2.1; have h5 := hk.2.2.2.2
  unfold putHB; simp only [List.length_append]; omega
theorem putEB_len {e : Ent} (hk : e.ok) (hr : rightE e = true) : (putEB e).length ≤ 77 := by
  have hr := rightE_iff.1 hr
  have h1 := numB_le (n := e.kind.toNat) (by omega)
  have h2 := numB_le (n := e.shard.toNat) (by omega)
  have h3 := numB_le (n := e.amount.toNat) (by omega)
  have h4 := numB_le (n := e.why.toNat) (by omega)
  have h5 := numB_le (n := e.epoch.toNat) (by omega)
  have h6 := hk.2.2.1
  unfold putEB; simp only [List.length_append]; omega
theorem follows_self (a : Hdr) : followsB a a = false := by
  unfold followsB
  rw [show decide (a.height = a.height + 1) = false by simp; omega]; simp
theorem follows_one {a b c : Hdr} (h : followsB a b = true) (k : followsB c b = true) : hidB a = hidB c := by
  unfold followsB at h k
  simp only [Bool.and_eq_true, beq_iff_eq] at h k
  rw [← h.2, ← k.2]
theorem next_follows {p : Hdr} {ls : List (List UInt8)} {s ep : Int} (h : nextOK p false ls s ep = true) : followsB p (nextB p false ls s ep) = true := by
  unfold nextB; rw [if_pos h]
  unfold nextOK at h
  simp only [Bool.and_eq_true, Bool.false_or, decide_eq_true_eq] at h
  obtain ⟨⟨h1, h2, h3⟩, h4⟩ := h
  unfold followsB
  rw [h4, h2]
  simp [nextH, h3]
end Go.Proofs.YtphmefhnffoafaaDoor

/- Contracts of entry.Put and header.Put. Printed by mkhdr.py. -/
namespace Go.Proofs.YtphmefhnffoafaaDoor
open Go.RowKit Go.Shelf
set_option linter.unusedVariables false

theorem zero_pen : (Tryd.prog.info? 93).map (·.zero) = some (some (.agg [Value.slice none 0 0].toArray)) := by kernel_rfl
theorem row_aid : RowT Tryd.prog 23 32 := ⟨_, Tryd.underlying23, by kernel_rfl, by kernel_rfl⟩
theorem conv_u64 {n : Nat} (h : n ≤ 18446744073709551615) : IntKind.u64.wrap (n : Int) = (n : Int) := by rw [IntKind.wrap_u64]; omega
theorem dig_map {d : List UInt8} (h : d.length = 32) : Dig (d.map B) d := ⟨rfl, h⟩
def eformB (x : Ent) : List UInt8 := if rightE x = true then putEB x else []
def hformB (x : Hdr) : List UInt8 := if rightH x = true then putHB x else []
theorem nat_of {z : Int} (h : 0 ≤ z) : ∃ n : Nat, z = (n : Int) := ⟨z.toNat, by omega⟩
theorem midE {x : Ent} (h : x.ok) {w : World} {g : Nat} {t : TypeId} (hb : Blk w g t (entV x)) : ∀ j u, (x.tx.map B)[j]? = some u → w.cell? ⟨g, 2 + j, none⟩ = some u := by
  intro j u hj
  refine hb.at_ ?_
  have hl : j < (x.tx.map B).length := (List.getElem?_eq_some_iff.1 hj).1
  unfold entV
  rw [show 2 + j = j + 1 + 1 by omega, List.getElem?_cons_succ, List.getElem?_cons_succ, List.getElem?_append_left hl]; exact hj
theorem midP {x : Hdr} (h : x.ok) {w : World} {g : Nat} {t : TypeId} (hb : Blk w g t (hdrV x)) : ∀ j u, (x.prev.map B)[j]? = some u → w.cell? ⟨g, 3 + j, none⟩ = some u := by
  intro j u hj
  refine hb.at_ ?_
  have hl : j < (x.prev.map B).length := (List.getElem?_eq_some_iff.1 hj).1
  unfold hdrV
  rw [show 3 + j = j + 1 + 1 + 1 by omega, List.getElem?_cons_succ, List.getElem?_cons_succ, List.getElem?_cons_succ, List.getElem?_append_left hl]; exact hj
theorem midR {x : Hdr} (h : x.ok) {w : World} {g : Nat} {t : TypeId} (hb : Blk w g t (hdrV x)) : ∀ j u, (x.root.map B)[j]? = some u → w.cell? ⟨g, 35 + j, none⟩ = some u := by
  intro j u hj
  refine hb.at_ ?_
  have hl : (x.prev.map B).length = 32 := by rw [List.length_map, h.2.2.2.1]
  unfold hdrV
  rw [show 35 + j = (32 + j) + 1 + 1 + 1 by omega, List.getElem?_cons_succ, List.getElem?_cons_succ, List.getElem?_cons_succ, List.getElem?_append_right (by omega), hl, show 32 + j - 32 = j by omega]; exact hj

set_option maxRecDepth 100000 in
set_option maxHeartbeats 2000000 in
theorem eput_any (x : Ent) (w : World) (hx : x.ok) : Calls Tryd.prog 59 #[.agg (entV x).toArray] w fun e w' => ∃ A c, e = .returned (.tuple #[.slice A (eformB x).length c, .bool (rightE x)]) ∧ Sl w' w'.heap.size 1 A (eformB x).length ((eformB x).map B) ∧ (eformB x).length ≤ c ∧ Grow w w' := by
  have HR := Lib.hid (fun w => eright_any x w hx)
  have HXO := Lib.hid hx
  have HL := Lib.hid (entV_length hx)
  obtain ⟨r, hr⟩ : ∃ r, r = rightE x := ⟨_, rfl⟩
  have HRR := Lib.hid hr
  unfold eformB
  rw [← hr] at HR ⊢
  clear hr hx
  obtain ⟨cs, hcs⟩ : ∃ cs, cs = entV x := ⟨_, rfl⟩
  have HCS := Lib.hid hcs
  rw [← hcs] at HR HL ⊢
  clear hcs
  obtain ⟨gh, hgh⟩ : ∃ gh, gh = w.heap.size := ⟨_, rfl⟩
  have HG := Lib.hid hgh
  go_enter Tryd.func59, Tryd.ntmps59
  go_wp2_with (first | (with_reducible refine wpl_box (o := ⟨some 1, _, _, _, _, _⟩) rfl rfl rfl ?_))
  intro w1 hb1 hbw1 hsz1
  rw [← hgh] at hb1 hbw1 hsz1 ⊢
  have HH := Lib.hid hb1
  have HB := Lib.hid (show Grow w w1 by rw [hgh] at hbw1; exact hbw1)
  clear hb1 hbw1 hsz1 hgh
  go_wp2_with (first | (with_reducible refine wpl_loadb (o := ⟨some 5, _, _, _, _, _⟩) rfl rfl row_entry HH.out rfl HL.out ?_))
  refine (HR.out _).mono ?_
  rintro e w_ ⟨rfl, hb_⟩
  have HH_ := Lib.hid (HH.out.call hb_)
  have HB_ := Lib.hid (HB.out.grow' hb_)
  clear hb_ HH HB
  have HH := HH_; have HB := HB_
  clear HH_ HB_
  try clear w1
  cases r with
  | false =>
    go_wp2_with fail
    go_ret2
    exact ⟨none, ⟨0, rfl⟩, Sl.nil, HB.out⟩
  | true =>
    obtain ⟨⟨hk1, hk2⟩, ⟨hs1, hs2⟩, ha2, ⟨hy1, hy2⟩, hp1, hp2⟩ := rightE_iff.1 HRR.out.symm
    obtain ⟨_, _, htx, ⟨ha1, _⟩, _, _⟩ := HXO.out
    obtain ⟨xk, xs, tx, xa, xy, xp⟩ := x
    obtain ⟨nk, rfl⟩ := nat_of (show 0 ≤ xk by simp only at hk1; omega)
    obtain ⟨ns, rfl⟩ := nat_of hs1
    obtain ⟨na, rfl⟩ := nat_of ha1
    obtain ⟨ny, rfl⟩ := nat_of hy1
    obtain ⟨np, rfl⟩ := nat_of hp1
    simp only at hk1 hk2 hs2 ha2 hy2 hp2 htx
    have hDT := Lib.hid (dig_map htx)
    have HFL := Lib.hid (putEB_len HXO.out HRR.out.symm)
    have HEF := Lib.hid (show (if true = true then putEB ⟨(nk : Int), (ns : Int), tx, (na : Int), (ny : Int), (np : Int)⟩ else []) = putEB ⟨(nk : Int), (ns : Int), tx, (na : Int), (ny : Int), (np : Int)⟩ from rfl)
    have uk := conv_u64 (n := nk) (by omega); have us := conv_u64 (n := ns) (by omega); have uy := conv_u64 (n := ny) (by omega); have up := conv_u64 (n := np) (by omega)
    have lk := numB_le (n := nk) (by omega); have ls := numB_le (n := ns) (by omega); have la := numB_le (n := na) (by omega); have ly := numB_le (n := ny) (by omega)
    have HFE := Lib.hid (show putEB ⟨(nk : Int), (ns : Int), tx, (na : Int), (ny : Int), (np : Int)⟩ = numB nk ++ numB ns ++ tx ++ numB na ++ numB ny ++ numB np by unfold putEB; simp only [Int.toNat_natCast])
    rw [HFE.out] at HFL HEF
    go_wp2_with (first | (with_reducible refine wpl_alloc (o := ⟨some 4, _, _, _, _, _⟩) rfl rfl zero_pen ?_))
    intro w3 hb3 hbw3 hsz3
    obtain ⟨g, hg⟩ : ∃ g, g = w_.heap.size := ⟨_, rfl⟩
    rw [← hg] at hb3 hsz3 hbw3 ⊢
    obtain ⟨K, hK⟩ : ∃ K : Nat → Prop, K = fun k => k < g := ⟨_, rfl⟩
    have hKI : ∀ k, K k ↔ k < g := fun k => by rw [hK]
    have HP := Lib.hid (PenAt.new (K := K) hb3 (fun k hk => by have := (hKI k).1 hk; omega))
    have HKH := Lib.hid (show K gh by have := HH.out.lt; exact (hKI gh).2 (by omega))
    have HKW := Lib.hid (show ∀ k, k < w.heap.size → K k from fun k hk => (hKI k).2 (by have := HB.out.size; omega))
    have HB3 := Lib.hid (show Grow w w3 from HB.out.grow' (by rw [hg] at hbw3; exact hbw3))
    have HH_ := Lib.hid (HH.out.below hbw3 (by have := HH.out.lt; omega))
    clear hb3 hbw3 hsz3 hK hKI HB HH hg
    have HH := HH_
    clear HH_
    rw [HCS.out] at HH
    clear HCS HR HRR HL
    obtain ⟨w0, rfl⟩ : ∃ w0 : World, w0 = w3 := ⟨_, rfl⟩
    try clear w_
    have c0 := HH.out.at_ (ent_at HXO.out).1
    obtain ⟨w_, hw_⟩ : ∃ w_ : World, w_ = w0 := ⟨_, rfl⟩
    rw [← hw_] at HP HH c0 ⊢
    have HKK := Lib.hid (show Kept K w0 w_ by rw [hw_]; exact Kept.refl _ _)
    clear hw_
    clear c0
    have c0 := HH.out.at_ (ent_at HXO.out).1
    go_wp2_with fail
    refine (num_any g nk K ([]) _ HP.out (by simp) (by omega)).mono ?_
    rintro e w2_ ⟨rfl, hp_, hk_⟩
    have HH_ := Lib.hid (hk_.blk HH.out HKH.out)
    have HKK_ := Lib.hid (HKK.out.trans hk_)
    have HP_ := Lib.hid hp_
    clear hp_ hk_ HH HKK HP
    have HH := HH_
    have HKK := HKK_
    have HP := HP_
    clear HH_ HKK_ HP_
    try clear w_
    rename World => w_
    try clear c0
    have c0 := HH.out.at_ (ent_at HXO.out).2.1
    go_wp2_with fail
    refine (num_any g ns K ([] ++ numB nk) _ HP.out (by simp only [List.length_append, List.length_nil]; omega) (by omega)).mono ?_
    rintro e w2_ ⟨rfl, hp_, hk_⟩
    have HH_ := Lib.hid (hk_.blk HH.out HKH.out)
    have HKK_ := Lib.hid (HKK.out.trans hk_)
    have HP_ := Lib.hid hp_
    clear hp_ hk_ HH HKK HP
    have HH := HH_
    have HKK := HKK_
    have HP := HP_
    clear HH_ HKK_ HP_
    try clear w_
    rename World => w_
    try clear c0
    have hm_ := midE HXO.out HH.out
    go_wp2_with (first | (with_reducible refine wpl_loadm (o := ⟨some 17, _, _, _, _, _⟩) rfl rfl row_aid hm_ rfl (by rw [List.length_map]; exact htx) ?_))
    refine (pid_any g K ([] ++ numB nk ++ numB ns) hDT.out _ HP.out (by simp only [List.length_append, List.length_nil]; omega)).mono ?_
    rintro e w2_ ⟨rfl, hp_, hk_⟩
    have HH_ := Lib.hid (hk_.blk HH.out HKH.out)
    have HKK_ := Lib.hid (HKK.out.trans hk_)
    have HP_ := Lib.hid hp_
    clear hp_ hk_ HH HKK HP
    have HH := HH_
    have HKK := HKK_
    have HP := HP_
    clear HH_ HKK_ HP_
    try clear w_
    rename World => w_
    try clear hm_
    have c0 := HH.out.at_ (ent_at HXO.out).2.2.1
    go_wp2_with fail
    refine (num_any g na K ([] ++ numB nk ++ numB ns ++ tx) _ HP.out (by simp only [List.length_append, List.length_nil]; omega) (by omega)).mono ?_
    rintro e w2_ ⟨rfl, hp_, hk_⟩
    have HH_ := Lib.hid (hk_.blk HH.out HKH.out)
    have HKK_ := Lib.hid (HKK.out.trans hk_)
    have HP_ := Lib.hid hp_
    clear hp_ hk_ HH HKK HP
    have HH := HH_
    have HKK := HKK_
    have HP := HP_
    clear HH_ HKK_ HP_
    try clear w_
    rename World => w_
    try clear c0
    have c0 := HH.out.at_ (ent_at HXO.out).2.2.2.1
    go_wp2_with fail
    refine (num_any g ny K ([] ++ numB nk ++ numB ns ++ tx ++ numB na) _ HP.out (by simp only [List.length_append, List.length_nil]; omega) (by omega)).mono ?_
    rintro e w2_ ⟨rfl, hp_, hk_⟩
    have HH_ := Lib.hid (hk_.blk HH.out HKH.out)
    have HKK_ := Lib.hid (HKK.out.trans hk_)
    have HP_ := Lib.hid hp_
    clear hp_ hk_ HH HKK HP
    have HH := HH_
    have HKK := HKK_
    have HP := HP_
    clear HH_ HKK_ HP_
    try clear w_
    rename World => w_
    try clear c0
    have c0 := HH.out.at_ (ent_at HXO.out).2.2.2.2
    go_wp2_with fail
    refine (num_any g np K ([] ++ numB nk ++ numB ns ++ tx ++ numB na ++ numB ny) _ HP.out (by simp only [List.length_append, List.length_nil]; omega) (by omega)).mono ?_
    rintro e w2_ ⟨rfl, hp_, hk_⟩
    have HH_ := Lib.hid (hk_.blk HH.out HKH.out)
    have HKK_ := Lib.hid (HKK.out.trans hk_)
    have HP_ := Lib.hid hp_
    clear hp_ hk_ HH HKK HP
    have HH := HH_
    have HKK := HKK_
    have HP := HP_
    clear HH_ HKK_ HP_
    try clear w_
    rename World => w_
    try clear c0
    go_wp2_with fail
    refine (pbytes_any g K ([] ++ numB nk ++ numB ns ++ tx ++ numB na ++ numB ny ++ numB np) _ HP.out (by simp only [List.length_append, List.length_nil]; have := HFL.out; simp only [List.length_append] at this; omega)).mono ?_
    rintro e w5 ⟨A', c', rfl, ho, hc, hg5⟩
    have HO := Lib.hid (Sl.of_own ho)
    have HC := Lib.hid hc
    have HB5 := Lib.hid (show Grow w w5 from (Below.trans (B := w.heap.size) HB3.out (HKK.out.below HKW.out)).grow' hg5)
    clear ho hc hg5
    rw [List.nil_append] at HO HC
    go_wp2_with fail
    go_ret2
    rw [HFE.out]
    exact ⟨A', c', by simp [List.length_append, htx], HO.out, HC.out, HB5.out⟩
end Go.Proofs.YtphmefhnffoafaaDoor
