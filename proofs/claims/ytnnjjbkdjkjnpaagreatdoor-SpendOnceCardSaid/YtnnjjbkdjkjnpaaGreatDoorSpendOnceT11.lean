/- The loop over the blocks of seisinref03.Sum. -/
import Derived.Test.YtnnjjbkdjkjnpaaGreatDoorSpendOnceT9
import Derived.Test.YtnnjjbkdjkjnpaaGreatDoorSpendOnceT10
import Derived.Test.YtnnjjbkdjkjnpaaGreatDoorSpendOnceT8
import Derived.Test.YtnnjjbkdjkjnpaaGreatDoorSpendOnceT5
import Derived.Test.YtnnjjbkdjkjnpaaGreatDoorSpendOnceT6
import Derived.Test.YtnnjjbkdjkjnpaaGreatDoorSpendOnceT7
import Derived.Test.YtnnjjbkdjkjnpaaGreatDoorSpendOnceT4
set_option linter.unusedSimpArgs false
/- The loop over the blocks of seisinref03.Sum. -/
namespace Go.Proofs.YtnnjjbkdjkjnpaaGreatDoor
open Go.RowKit Go.Shelf
set_option linter.unusedVariables false
attribute [local go_sem ↓ high] add_w
attribute [local go_sem high] xor_w and_w or_w not_w shr_w shl_w wrap_b8
attribute [local go_sem ↓ high] not_sub
set_option maxRecDepth 100000 in
set_option maxHeartbeats 4000000 in
theorem rs_at {q_0 q_3 q_4 q_5 q_6 q_8 q_9 q_11 q_12 q_13 q_14 q_15 q_16 q_17 q_18 q_19 q_20 q_21 q_22 q_23 q_24 q_25 q_26 q_27 q_28 q_29 q_30 q_31 q_32 q_33 q_34 q_35 q_36 q_37 q_38 q_39 q_40 q_41 q_42 q_43 q_44 q_45 q_46 q_47 q_48 q_49 q_50 q_51 q_52 q_53 q_54 q_55 q_56 q_57 q_58 q_59 q_60 q_61 q_62 q_63 q_64 q_65 q_66 q_67 q_68 q_69 q_70 q_71 q_72 q_73 q_74 q_75 q_76 q_77 q_78 q_79 q_80 q_81 q_82 q_83 q_84 q_85 q_86 q_87 q_88 q_89 q_90 q_91 q_92 q_93 q_94 q_95 q_96 q_97 q_98 q_99 q_100 q_101 q_102 q_103 q_104 q_105 q_106 q_107 q_108 q_109 q_110 q_111 q_112 q_113 q_114 q_115 q_116 q_117 q_118 q_119 q_120 q_121 q_122 q_123 q_124 q_125 q_126 q_127 q_128 q_129 q_130 q_131 q_132 q_133 q_134 q_135 q_136 q_137 q_138 q_139 q_140 q_141 q_142 q_143 q_144 q_145 q_146 q_147 q_148 q_149 q_150 q_151 q_152 q_153 q_154 q_155 q_156 q_157 q_158 q_159 q_160 q_161 q_162 q_163 q_164 q_165 q_166 q_167 q_168 q_169 q_170 q_171 q_172 q_173 q_174 q_175 q_176 q_177 q_178 q_179 q_180 q_181 q_182 q_183 q_184 q_185 q_186 q_187 q_188 q_189 q_190 q_191 q_192 q_193 q_194 q_195 q_196 q_197 q_198 q_199 q_200 q_201 q_202 q_203 q_204 q_205 q_206 q_207 q_208 q_209 q_210 q_211 q_212 q_213 q_214 q_215 q_216 q_217 q_218 q_219 q_220 q_221 q_222 q_223 q_224 q_225 q_226 q_227 q_228 q_229 q_230 q_231 q_232 q_233 q_234 q_235 q_236 q_237 q_238 q_239 q_240 q_241 q_242 q_243 q_244 q_245 q_246 q_247 q_248 q_249 q_250 q_251 q_252 q_253 q_254 q_255 q_256 q_257 q_258 q_259 q_260 q_261 q_262 q_263 q_264 q_265 q_266 q_267 q_268 q_269 q_270 q_271 q_272 q_273 q_274 q_275 q_276 q_277 q_278 q_279 q_280 q_281 q_282 q_283 q_284 q_285 q_286 q_287 q_288 q_289 q_290 q_291 q_292 q_293 q_294 q_295 q_296 q_297 q_298 q_299 q_300 q_301 q_302 q_303 q_304 q_305 q_306 q_307 q_308 q_309 q_310 q_311 q_312 q_313 q_314 q_315 q_316 q_317 q_318 q_319 q_320 q_321 q_322 q_323 : Value} {Q0 : Exit → Act → World → Prop} {g s1 s2 gm gh nb c5 c7 bk ok ck : Nat} {M : List UInt8} {w w7 : World} (HNB : Hid (M.length = 64 * nb)) (hnb2 : nb ≤ 1000000000000)
    (HK : Hid (Sl w g 1 (some ⟨bk, ok, none⟩) 64 (roundKs.map W))) (HKEEP : Hid (KeepR g s1 s2 gm gh nb c5 c7 M (firstSt.toList.map W) w w7))
    (HEX : Hid (∀ {u_11 u_12 u_13 u_14 u_15 u_16 u_17 u_18 u_19 u_20 u_21 u_22 u_56 u_57 u_58 u_59 u_60 u_61 u_62 u_63 u_64 u_65 u_66 u_67 u_68 u_69 u_70 u_71 u_72 u_73 u_74 u_75 u_76 u_77 u_78 u_79 u_80 u_81 u_82 u_83 u_84 u_85 u_86 u_87 u_88 u_89 u_90 u_91 u_92 u_93 u_94 u_95 u_96 u_97 u_98 u_99 u_100 u_101 u_102 u_103 u_104 u_105 u_106 u_107 u_108 u_109 u_110 u_111 u_112 u_113 u_114 u_115 u_116 u_117 u_118 u_119 u_120 u_121 u_122 u_123 u_124 u_125 u_126 u_127 u_128 u_129 u_130 u_131 u_132 u_133 u_134 u_135 u_136 u_137 u_138 u_139 u_140 u_141 u_142 u_143 u_144 u_145 u_146 u_147 u_148 u_149 u_150 u_151 u_152 u_153 u_154 u_155 u_156 u_157 u_158 u_159 u_160 u_161 u_162 u_163 u_164 u_165 u_166 u_167 u_168 u_169 u_170 u_171 u_172 u_173 u_174 u_175 u_176 u_177 u_178 u_179 u_180 u_181 u_182 u_183 u_184 u_185 u_186 u_187 u_188 u_189 u_190 u_191 u_192 u_193 u_194 u_195 u_196 u_197 u_198 u_199 u_200 u_201 u_202 u_203 u_204 u_205 u_206 u_207 u_208 u_209 u_210 u_211 u_212 u_213 u_214 u_215 u_216 u_217 u_218 u_219 u_220 u_221 u_222 u_223 u_224 u_225 u_226 u_227 u_228 u_229 u_230 u_231 u_232 u_233 u_234 u_235 u_236 u_237 u_238 u_239 u_240 u_241 u_242 u_243 u_244 u_245 u_246 u_247 u_248 u_249 u_250 u_251 u_252 u_253 u_254 u_255 u_256 u_257 u_258 u_259 u_260 u_261 u_262 u_263 u_264 u_265 u_266 u_267 u_268 u_269 u_270 u_271 u_272 u_273 u_274 u_275 u_276 u_277 u_278 u_279 u_280 u_281 u_282 u_283 u_284 u_285 u_286 u_287 u_288 u_289 u_290 u_291 u_292 u_293 u_294 u_295 u_296 u_297 u_298 u_299 u_300 u_301 u_302 u_303 u_304 u_305 : Value} {wr : World}, KeepR g s1 s2 gm gh nb c5 c7 M ((stB M nb).toList.map W) w wr → Q0 (.exit 4) ⟨(q_0 :: (.slice (some ⟨gh, 0, none⟩) 8 c7) :: (.slice (some ⟨bk, ok, none⟩) 64 ck) :: q_3 :: q_4 :: q_5 :: q_6 :: (.slice (some ⟨gm, 0, none⟩) (64 * nb) c5) :: q_8 :: q_9 :: (.int .i64 (64 * (nb : Int))) :: u_11 :: u_12 :: u_13 :: u_14 :: u_15 :: u_16 :: u_17 :: u_18 :: u_19 :: u_20 :: u_21 :: u_22 :: q_23 :: q_24 :: q_25 :: q_26 :: q_27 :: q_28 :: q_29 :: q_30 :: q_31 :: q_32 :: q_33 :: q_34 :: q_35 :: q_36 :: q_37 :: q_38 :: q_39 :: q_40 :: q_41 :: q_42 :: q_43 :: q_44 :: q_45 :: q_46 :: q_47 :: q_48 :: q_49 :: q_50 :: q_51 :: q_52 :: q_53 :: q_54 :: q_55 :: u_56 :: u_57 :: u_58 :: u_59 :: u_60 :: u_61 :: u_62 :: u_63 :: u_64 :: u_65 :: u_66 :: u_67 :: u_68 :: u_69 :: u_70 :: u_71 :: u_72 :: u_73 :: u_74 :: u_75 :: u_76 :: u_77 :: u_78 :: u_79 :: u_80 :: u_81 :: u_82 :: u_83 :: u_84 :: u_85 :: u_86 :: u_87 :: u_88 :: u_89 :: u_90 :: u_91 :: u_92 :: u_93 :: u_94 :: u_95 :: u_96 :: u_97 :: u_98 :: u_99 :: u_100 :: u_101 :: u_102 :: u_103 :: u_104 :: u_105 :: u_106 :: u_107 :: u_108 :: u_109 :: u_110 :: u_111 :: u_112 :: u_113 :: u_114 :: u_115 :: u_116 :: u_117 :: u_118 :: u_119 :: u_120 :: u_121 :: u_122 :: u_123 :: u_124 :: u_125 :: u_126 :: u_127 :: u_128 :: u_129 :: u_130 :: u_131 :: u_132 :: u_133 :: u_134 :: u_135 :: u_136 :: u_137 :: u_138 :: u_139 :: u_140 :: u_141 :: u_142 :: u_143 :: u_144 :: u_145 :: u_146 :: u_147 :: u_148 :: u_149 :: u_150 :: u_151 :: u_152 :: u_153 :: u_154 :: u_155 :: u_156 :: u_157 :: u_158 :: u_159 :: u_160 :: u_161 :: u_162 :: u_163 :: u_164 :: u_165 :: u_166 :: u_167 :: u_168 :: u_169 :: u_170 :: u_171 :: u_172 :: u_173 :: u_174 :: u_175 :: u_176 :: u_177 :: u_178 :: u_179 :: u_180 :: u_181 :: u_182 :: u_183 :: u_184 :: u_185 :: u_186 :: u_187 :: u_188 :: u_189 :: u_190 :: u_191 :: u_192 :: u_193 :: u_194 :: u_195 :: u_196 :: u_197 :: u_198 :: u_199 :: u_200 :: u_201 :: u_202 :: u_203 :: u_204 :: u_205 :: u_206 :: u_207 :: u_208 :: u_209 :: u_210 :: u_211 :: u_212 :: u_213 :: u_214 :: u_215 :: u_216 :: u_217 :: u_218 :: u_219 :: u_220 :: u_221 :: u_222 :: u_223 :: u_224 :: u_225 :: u_226 :: u_227 :: u_228 :: u_229 :: u_230 :: u_231 :: u_232 :: u_233 :: u_234 :: u_235 :: u_236 :: u_237 :: u_238 :: u_239 :: u_240 :: u_241 :: u_242 :: u_243 :: u_244 :: u_245 :: u_246 :: u_247 :: u_248 :: u_249 :: u_250 :: u_251 :: u_252 :: u_253 :: u_254 :: u_255 :: u_256 :: u_257 :: u_258 :: u_259 :: u_260 :: u_261 :: u_262 :: u_263 :: u_264 :: u_265 :: u_266 :: u_267 :: u_268 :: u_269 :: u_270 :: u_271 :: u_272 :: u_273 :: u_274 :: u_275 :: u_276 :: u_277 :: u_278 :: u_279 :: u_280 :: u_281 :: u_282 :: u_283 :: u_284 :: u_285 :: u_286 :: u_287 :: u_288 :: u_289 :: u_290 :: u_291 :: u_292 :: u_293 :: u_294 :: u_295 :: u_296 :: u_297 :: u_298 :: u_299 :: u_300 :: u_301 :: u_302 :: u_303 :: u_304 :: u_305 :: q_306 :: q_307 :: q_308 :: q_309 :: q_310 :: q_311 :: q_312 :: q_313 :: q_314 :: q_315 :: q_316 :: q_317 :: q_318 :: q_319 :: q_320 :: q_321 :: q_322 :: q_323 :: []).toArray, []⟩ wr)) :
    Code.wp Tryz.prog (.loop (rsBody 2)) Q0 ⟨(q_0 :: (.slice (some ⟨gh, 0, none⟩) 8 c7) :: (.slice (some ⟨bk, ok, none⟩) 64 ck) :: q_3 :: q_4 :: q_5 :: q_6 :: (.slice (some ⟨gm, 0, none⟩) (64 * nb) c5) :: q_8 :: q_9 :: (.int .i64 0) :: q_11 :: q_12 :: q_13 :: q_14 :: q_15 :: q_16 :: q_17 :: q_18 :: q_19 :: q_20 :: q_21 :: q_22 :: q_23 :: q_24 :: q_25 :: q_26 :: q_27 :: q_28 :: q_29 :: q_30 :: q_31 :: q_32 :: q_33 :: q_34 :: q_35 :: q_36 :: q_37 :: q_38 :: q_39 :: q_40 :: q_41 :: q_42 :: q_43 :: q_44 :: q_45 :: q_46 :: q_47 :: q_48 :: q_49 :: q_50 :: q_51 :: q_52 :: q_53 :: q_54 :: q_55 :: q_56 :: q_57 :: q_58 :: q_59 :: q_60 :: q_61 :: q_62 :: q_63 :: q_64 :: q_65 :: q_66 :: q_67 :: q_68 :: q_69 :: q_70 :: q_71 :: q_72 :: q_73 :: q_74 :: q_75 :: q_76 :: q_77 :: q_78 :: q_79 :: q_80 :: q_81 :: q_82 :: q_83 :: q_84 :: q_85 :: q_86 :: q_87 :: q_88 :: q_89 :: q_90 :: q_91 :: q_92 :: q_93 :: q_94 :: q_95 :: q_96 :: q_97 :: q_98 :: q_99 :: q_100 :: q_101 :: q_102 :: q_103 :: q_104 :: q_105 :: q_106 :: q_107 :: q_108 :: q_109 :: q_110 :: q_111 :: q_112 :: q_113 :: q_114 :: q_115 :: q_116 :: q_117 :: q_118 :: q_119 :: q_120 :: q_121 :: q_122 :: q_123 :: q_124 :: q_125 :: q_126 :: q_127 :: q_128 :: q_129 :: q_130 :: q_131 :: q_132 :: q_133 :: q_134 :: q_135 :: q_136 :: q_137 :: q_138 :: q_139 :: q_140 :: q_141 :: q_142 :: q_143 :: q_144 :: q_145 :: q_146 :: q_147 :: q_148 :: q_149 :: q_150 :: q_151 :: q_152 :: q_153 :: q_154 :: q_155 :: q_156 :: q_157 :: q_158 :: q_159 :: q_160 :: q_161 :: q_162 :: q_163 :: q_164 :: q_165 :: q_166 :: q_167 :: q_168 :: q_169 :: q_170 :: q_171 :: q_172 :: q_173 :: q_174 :: q_175 :: q_176 :: q_177 :: q_178 :: q_179 :: q_180 :: q_181 :: q_182 :: q_183 :: q_184 :: q_185 :: q_186 :: q_187 :: q_188 :: q_189 :: q_190 :: q_191 :: q_192 :: q_193 :: q_194 :: q_195 :: q_196 :: q_197 :: q_198 :: q_199 :: q_200 :: q_201 :: q_202 :: q_203 :: q_204 :: q_205 :: q_206 :: q_207 :: q_208 :: q_209 :: q_210 :: q_211 :: q_212 :: q_213 :: q_214 :: q_215 :: q_216 :: q_217 :: q_218 :: q_219 :: q_220 :: q_221 :: q_222 :: q_223 :: q_224 :: q_225 :: q_226 :: q_227 :: q_228 :: q_229 :: q_230 :: q_231 :: q_232 :: q_233 :: q_234 :: q_235 :: q_236 :: q_237 :: q_238 :: q_239 :: q_240 :: q_241 :: q_242 :: q_243 :: q_244 :: q_245 :: q_246 :: q_247 :: q_248 :: q_249 :: q_250 :: q_251 :: q_252 :: q_253 :: q_254 :: q_255 :: q_256 :: q_257 :: q_258 :: q_259 :: q_260 :: q_261 :: q_262 :: q_263 :: q_264 :: q_265 :: q_266 :: q_267 :: q_268 :: q_269 :: q_270 :: q_271 :: q_272 :: q_273 :: q_274 :: q_275 :: q_276 :: q_277 :: q_278 :: q_279 :: q_280 :: q_281 :: q_282 :: q_283 :: q_284 :: q_285 :: q_286 :: q_287 :: q_288 :: q_289 :: q_290 :: q_291 :: q_292 :: q_293 :: q_294 :: q_295 :: q_296 :: q_297 :: q_298 :: q_299 :: q_300 :: q_301 :: q_302 :: q_303 :: q_304 :: q_305 :: q_306 :: q_307 :: q_308 :: q_309 :: q_310 :: q_311 :: q_312 :: q_313 :: q_314 :: q_315 :: q_316 :: q_317 :: q_318 :: q_319 :: q_320 :: q_321 :: q_322 :: q_323 :: []).toArray, []⟩ w7 := by
  conv => arg 2; arg 1; whnf
  go_loopw [10] (fun i wr => ∃ b : Nat, b ≤ nb ∧ i = .int .i64 (64 * (b : Int)) ∧ Hid (KeepR g s1 s2 gm gh nb c5 c7 M ((stB M b).toList.map W) w wr)) (fun i _ => 64 * nb - (intOf i).toNat)
  case atStart => exact ⟨0, by omega, rfl, (show KeepR _ _ _ _ _ _ _ _ _ _ _ _ by rw [stB_zero]; exact HKEEP.out)⟩
  case round =>
    obtain ⟨b, hb, rfl, hkeep⟩ := hrel
    by_cases hlt : b < nb
    · go_wp2_with fail
      obtain ⟨wb, rfl⟩ : ∃ wb : World, wb = wr := ⟨_, rfl⟩
      obtain ⟨s3, hs3⟩ : ∃ s3, s3 = wb.heap.size := ⟨_, rfl⟩
      have hk3 := hkeep.out.more (s3 := s3) (by rw [hs3]; exact hkeep.out.sz) (by rw [hs3]; exact Nat.le_refl _)
      have HK3 := Lib.hid hk3
      have HS23 := Lib.hid (show s2 ≤ s3 by rw [hs3]; exact hkeep.out.sz)
      clear hk3
      clear hs3
      refine rs_w HNB hlt hnb2 HK3 (Lib.hid ?_)
      intros
      rename_i A8 c8 wr hw_ hkp_
      have hw := Lib.hid hw_; have hkp := Lib.hid hkp_; clear hw_ hkp_
      obtain ⟨gw, rfl, hgw1, hgw2, hcw⟩ := own_form hw.out (by omega)
      have HGW := Lib.hid hgw2
      clear hgw1 hgw2 hcw
      obtain ⟨wc, rfl⟩ : ∃ wc : World, wc = wr := ⟨_, rfl⟩
      obtain ⟨st, hst⟩ : ∃ st, st = stB M b := ⟨_, rfl⟩
      have hkp0 := hkp.out
      rw [← hst] at hkp0
      have HST := Lib.hid hst; clear hst
      obtain ⟨s4, hs4⟩ : ∃ s4, s4 = wc.heap.size := ⟨_, rfl⟩
      have HS4 := Lib.hid hs4.symm; clear hs4
      have hkp4 := hkp0.more (s3 := s4) (by rw [← HS4.out]; exact hkp0.sz) (by rw [HS4.out]; exact Nat.le_refl _)
      have HWD2 := Lib.hid (all_words st.toList)
      have HO4 := Lib.hid (show (wc.alloc (.cells #[] 175)).ownsRow s4 175 1 (.slice (some ⟨wc.heap.size, 0, none⟩) 0 0) 0 [] by
        exact World.ownsRow_lit (base := s4) (e := 175) (size := 1) wc #[] 0 (by rw [HS4.out]; exact Nat.le_refl _) (by simp [maxLen]) rfl)
      have HA4 := Lib.hid ((Sl.of_own hkp4.hs).alloc (Nat.le_refl _) (.cells #[] 175))
      have HZ4 := Lib.hid (show s4 ≤ (wc.alloc (.cells #[] 175)).heap.size by simp; have := HS4.out; omega)
      have HK4 := Lib.hid (hkp4.grown (grown_alloc wc (.cells #[] 175)) (by intro k hk; cases hk))
      have HW4 := Lib.hid (own_alloc hw.out (.cells #[] 175))
      have HS34 := Lib.hid (show s3 ≤ s4 by rw [← HS4.out]; exact hkp0.sz)
      clear hkp0 hkp4
      try rw [show ((64 : Nat) : Int) = 64 from rfl]
      go_wp2_with (at_builtin; refine wpl_apps rfl rfl el_u32 HO4.out rfl HA4.out rfl HWD2.out ?_ ?_ HZ4.out ?_)
      · omega
      · omega
      · intro A9 c9 w9 ho hg _
        try rw [Nat.zero_add] at ho
        try rw [Nat.zero_add]
        try rw [List.nil_append] at ho
        have HV9 := Lib.hid ho
        have HK9 := Lib.hid (HK4.out.grown hg (by intro k hk; cases hk; rw [HS4.out]; exact Nat.le_refl _))
        have HW9 := Lib.hid (own_kept HW4.out hg (by intro k hk; cases hk; have := HGW.out; simp; omega))
        clear ho hg HO4 HA4 HZ4 HK4 HW4
        go_wp2_with fail
        refine rs_v hlt hnb2 HK HV9 HW9 HK9 (Lib.hid (by rw [← HS4.out]; exact HGW.out)) (Lib.hid ?_)
        intros
        rename_i A10 c10 wr hv_ hkv_
        have hv := Lib.hid hv_; have hkv := Lib.hid hkv_; clear hv_ hkv_
        obtain ⟨gv, rfl, hgv1, hgv2, hcv⟩ := own_form hv.out (by omega)
        have HGV := Lib.hid hgv1
        clear hgv1 hgv2 hcv
        obtain ⟨wd, rfl⟩ : ∃ wd : World, wd = wr := ⟨_, rfl⟩
        try rw [show ((64 : Nat) : Int) = 64 from rfl]
        have HCE := Lib.hid (show stB M (b + 1) = st.add (stN (chunkAt M b) st 64) by rw [stB_succ, ← HST.out, compress_eq])
        generalize hsn : stN (chunkAt M b) st 64 = sn at *
        clear hsn
        go_wp2_with fail
        refine rs_add HGV hv hkv (Lib.hid ?_)
        intros
        rename_i xs wr hup_ hkv_
        have hup := Lib.hid hup_; have hkv := Lib.hid hkv_; clear hup_ hkv_
        have hxs := upTo8_all hup.out
        rw [← HCE.out] at hxs
        have hkf := (hkv.out.less (s2 := s2) (by have := HS23.out; have := HS34.out; omega) HKEEP.out.lm HKEEP.out.lh HKEEP.out.lg)
        rw [hxs] at hkf
        have HKF := Lib.hid hkf
        clear hkf hxs hup hv hkv
        go_wp2_with fail
        go_roundw
        case rel => exact ⟨b + 1, by omega, by go_num, HKF⟩
        case measure => simp [intOf]; omega
    · obtain rfl : b = nb := by omega
      go_wp2_with fail
      exact HEX.out hkeep.out
end Go.Proofs.YtnnjjbkdjkjnpaaGreatDoor
/- Contract of seisinref03.Sum. -/
namespace Go.Proofs.YtnnjjbkdjkjnpaaGreatDoor
open Go.RowKit Go.Shelf
set_option linter.unusedVariables false
attribute [local go_sem ↓ high] add_w
attribute [local go_sem high] xor_w and_w or_w not_w shr_w shl_w wrap_b8
attribute [local go_sem ↓ high] not_sub
set_option maxRecDepth 100000 in
set_option maxHeartbeats 4000000 in
theorem rsum_any (A Ah Ak : Option Addr) (n c ch ck : Nat) (bs : List UInt8) (w : World) (hb : Sl w w.heap.size 1 A n (bs.map B)) (hh : Sl w w.heap.size 1 Ah 8 (firstSt.toList.map W)) (hk : Sl w w.heap.size 1 Ak 64 (roundKs.map W)) (hl : n ≤ 1099511627776) :
    Calls Tryz.prog 87 #[.slice A n c, .slice Ah 8 ch, .slice Ak 64 ck] w fun e w' => e = .returned (.agg ((sha bs).map B).toArray) ∧ Below w.heap.size w w' := by
  have HB := Lib.hid hb; have HH := Lib.hid hh; have HK := Lib.hid hk
  have hL : bs.length = n := by have := hb.1; simpa using this
  have HL := Lib.hid hL
  obtain ⟨bk, ok, rfl, hbk, -⟩ := hk.2 (by omega)
  clear hb hh hk hL hbk
  go_enter Tryz.func87, Tryz.ntmps87
  go_wp2_with (first | (with_reducible refine wpl_alloc (o := ⟨some 6, _, _, _, _, _⟩) rfl rfl zero_id ?_))
  intro w1 hb1 hbw1 hsz1
  have HB1 := Lib.hid hb1; clear hb1
  have HBW1 := Lib.hid hbw1; clear hbw1
  have HS1 := Lib.hid (HB.out.below HBW1.out)
  clear HB
  generalize hgd : w.heap.size = g at *
  have HG := Lib.hid hgd; clear hgd
  have HBY := Lib.hid (all_bytes bs)
  have hown0 : (w1.alloc (.cells #[] 5)).ownsRow (g + 1) 5 1 (.slice (some ⟨w1.heap.size, 0, none⟩) 0 0) 0 [] := World.ownsRow_lit w1 #[] 0 (by rw [hsz1]; exact Nat.le_refl _) (by simp [maxLen]) rfl
  have HO0 := Lib.hid hown0; clear hown0
  have HA0 := Lib.hid (HS1.out.alloc (by rw [hsz1]; omega) (.cells #[] 5))
  have HSZ1 := Lib.hid hsz1; clear hsz1
  have HZZ := Lib.hid (show g + 1 ≤ (w1.alloc (.cells #[] 5)).heap.size by simp; have := HSZ1.out; omega)
  have HBA := Lib.hid (HBW1.out.alloc (by have := HSZ1.out; omega) (.cells #[] 5))
  have HBB := Lib.hid (HB1.out.alloc (.cells #[] 5))
  go_wp2_with (at_builtin; refine wpl_apps rfl rfl el_u8 HO0.out rfl HA0.out rfl HBY.out ?_ ?_ HZZ.out ?_)
  · omega
  · omega
  · intro A2 c2 w2 ho hg _
    have HO2 := Lib.hid ho
    have HB2 := Lib.hid (HBB.out.grown hg (by simp; have := HSZ1.out; omega))
    have HBW2 := Lib.hid (HBA.out.grown hg (by have := HZZ.out; omega) (by intro k hk; cases hk; have := HSZ1.out; omega))
    have HSZ2 := Lib.hid (Nat.le_trans HZZ.out hg.size)
    clear ho hg HO0 HA0 HZZ HBA HBB HB1 HBW1 HSZ1 HS1
    try rw [Nat.zero_add] at HO2
    try rw [Nat.zero_add]
    try rw [List.nil_append] at HO2
    go_wp2_with (at_builtin; refine wpl_app1 rfl rfl el_u8 HO2.out rfl (m := 1) rfl rfl ?_ ?_ ?_ HSZ2.out ?_)
    · simp [Value.oneCell']
    · omega
    · omega
    · intro A3 c3 w3 ho hg _
      have hb3 := below_grown HBW2.out hg (by have := HSZ2.out; omega) (fun j hj => by have := own_from HO2.out j hj; omega)
      have HO3 := Lib.hid ho
      have HB3 := Lib.hid (HB2.out.grown hg (fun e => by have := own_from HO2.out g e.symm; omega))
      have HBW3 := Lib.hid hb3
      have HSZ3 := Lib.hid (Nat.le_trans HSZ2.out hg.size)
      clear ho hb3 hg HO2 HB2 HBW2 HSZ2
      have hz1 : zerosFor n ≤ 63 := by unfold zerosFor; omega
      have HZ := Lib.hid (zeros_lt n)
      have HZE := Lib.hid (zeros_eq n)
      generalize hZF : zerosFor n = Z at *
      have HZF := Lib.hid hZF; clear hZF
      go_wp2_with fail
      refine rs_pad (Lib.hid (fun j hj => by have := HZ.out j hj; omega)) (Lib.hid (by have := HZE.out; omega)) hl hz1 (Lib.hid (by simpa [i128] using HO3.out)) HB3 HBW3 HSZ3 (Lib.hid ?_)
      intros
      rename_i A4 c4 wo hown_ hblk_ hbw_ hsz_
      have hown := Lib.hid hown_; have hblk := Lib.hid hblk_; have hbw := Lib.hid hbw_; have hsz := Lib.hid hsz_; clear hown_ hblk_ hbw_ hsz_
      go_wp2_with fail
      refine rs_bits hl hz1 hown hblk hbw hsz (Lib.hid ?_)
      clear hown hblk hbw hsz
      intros
      rename_i A5 c5 wr hown_ hblk_ hbw_ hsz_
      have hown := Lib.hid hown_; have hblk := Lib.hid hblk_; have hbw := Lib.hid hbw_; have hsz := Lib.hid hsz_; clear hown_ hblk_ hbw_ hsz_
      have hlen : n + 1 + Z + 8 = (padded bs).length := by rw [padded_length, HL.out, HZF.out]; omega
      have hpad : bs ++ [128] ++ List.replicate Z 0 ++ (beBytes (8 * n) 8).take 8 = padded bs := by
        rw [padded, HL.out, HZF.out, List.take_of_length_le (by rw [beBytes_length]; omega)]
      obtain ⟨nb, hnb⟩ : ∃ nb, (padded bs).length = 64 * nb := ⟨(padded bs).length / 64, by have := padded_mod bs; omega⟩
      have HNB := Lib.hid hnb
      rw [hnb] at hlen
      have hnb2 : nb ≤ 1000000000000 := by omega
      have HOM := hown.out
      rw [hpad] at HOM
      obtain ⟨gm, rfl, hgm1, hgm2, hcm⟩ := own_form HOM (by omega)
      rw [hlen] at HOM hcm ⊢
      have HM := Lib.hid HOM
      clear HOM hown hpad hnb hlen
      generalize hs1 : wr.heap.size = s1 at *
      have HS1 := Lib.hid hs1; clear hs1
      have HGM1 := Lib.hid hgm1
      have HGM2 := Lib.hid hgm2
      have HCM := Lib.hid hcm
      clear hgm1 hgm2 hcm
      obtain ⟨wo2, rfl⟩ : ∃ wo2 : World, wo2 = wr := ⟨_, rfl⟩
      have HWD := Lib.hid (all_words firstSt.toList)
      have hgs : g + 1 ≤ s1 := hsz.out
      have HO0 := Lib.hid (show (wo2.alloc (.cells #[] 175)).ownsRow s1 175 1 (.slice (some ⟨wo2.heap.size, 0, none⟩) 0 0) 0 [] by
        have := World.ownsRow_lit (base := s1) (e := 175) (size := 1) wo2 #[] 0 (by rw [HS1.out]; exact Nat.le_refl _) (by simp [maxLen]) rfl
        exact this)
      have hhh := HH.out.below hbw.out
      have HA0 := Lib.hid (hhh.alloc (by rw [HS1.out]; omega) (.cells #[] 175))
      clear hhh
      have HZZ := Lib.hid (show s1 ≤ (wo2.alloc (.cells #[] 175)).heap.size by simp; have := HS1.out; omega)
      have HMA := Lib.hid (own_alloc HM.out (.cells #[] 175))
      have HBA := Lib.hid (hbw.out.alloc (by rw [HS1.out]; omega) (.cells #[] 175))
      have HBB := Lib.hid (hblk.out.alloc (.cells #[] 175))
      skip
      go_wp2_with (at_builtin; refine wpl_apps rfl rfl el_u32 HO0.out rfl HA0.out rfl HWD.out ?_ ?_ HZZ.out ?_)
      · omega
      · omega
      · intro A7 c7 w7 ho hg _
        have hgrow := hg
        try rw [Nat.zero_add] at ho
        try rw [Nat.zero_add]
        try rw [List.nil_append] at ho
        obtain ⟨gh, rfl, hgh1, hgh2, hch⟩ := own_form ho (by omega)
        have hbw7 := HBA.out.grown hg (by have := HZZ.out; omega) (by intro k hk; cases hk; rw [HS1.out]; omega)
        have hkeep : KeepR g s1 w7.heap.size gm gh nb c5 c7 (padded bs) (firstSt.toList.map W) w w7 :=
          ⟨own_kept HMA.out hg (by intro k hk; cases hk; simp; rw [HS1.out]; have := HGM2.out; omega), ho,
           HBB.out.grown hg (by simp; rw [HS1.out]; omega), hbw7, Nat.le_refl _, Nat.lt_of_lt_of_le (by have := HGM2.out; have := HZZ.out; omega) hg.size, hgh2, by have := hg.size; have := HZZ.out; omega, by have := HGM2.out; omega, by omega⟩
        have HKEEP := Lib.hid hkeep
        clear hkeep hbw7 hgrow ho hg HBB HBA HMA HZZ HA0 HO0 HM
        generalize hs2 : w7.heap.size = s2 at *
        have HS2 := Lib.hid hs2; clear hs2
        have HGH1 := Lib.hid hgh1
        have HGH2 := Lib.hid hgh2
        clear hgh1 hgh2
        go_wp2_with fail
        refine rs_at HNB hnb2 HK HKEEP (Lib.hid ?_)
        intros
        rename_i wr hkeep_
        have hkeep := Lib.hid hkeep_; clear hkeep_
        obtain ⟨we, rfl⟩ : ∃ we : World, we = wr := ⟨_, rfl⟩
        have hsha : sha bs = outB (stB (padded bs) nb) := by rw [sha_eq, HNB.out, Nat.mul_div_cancel_left _ (by omega)]
        have HSHA := Lib.hid hsha; clear hsha
        generalize hst : stB (padded bs) nb = st at *
        clear hst
        go_wp2_with (first | (with_reducible refine wpl_alloc (o := ⟨some 23, _, _, _, _, _⟩) rfl rfl zero_id ?_))
        intro wf hbf hbwf hszf
        have HKO := Lib.hid (hkeep.out.grown (hg := ⟨hbwf.os, hbwf.tape, hbwf.output, hbwf.size, fun k hk _ => hbwf.block k hk⟩) (row := none) (by intro k hk; cases hk))
        obtain ⟨go, hgo⟩ : ∃ go, go = we.heap.size := ⟨_, rfl⟩
        rw [← hgo] at hbf hszf ⊢
        have HOUT := Lib.hid (show Blk wf go 46 (List.replicate 32 (B 0)) from hbf)
        have HGO := Lib.hid (show s2 ≤ go by rw [hgo]; exact hkeep.out.sz)
        clear hbf hbwf hszf hgo hkeep
        go_wp2_with fail
        refine rs_out HGO HOUT HKO (Lib.hid ?_)
        intros
        rename_i wr hout_ hkv_
        have hout := Lib.hid hout_; have hkv := Lib.hid hkv_; clear hout_ hkv_
        generalize hxx0 : (outB st).map B = xs at *
        have hxx := hxx0.symm
        have hxn0 : xs.length = 32 := by rw [hxx, List.length_map, outB_length]
        rw [← HSHA.out] at hxx
        have hxn : xs.length = 32 := hxn0
        have HX1 := Lib.hid (show ∀ v ∈ xs, v.oneCell' = true by rw [hxx]; exact all_bytes _)
        have HXX := Lib.hid hxx
        have HXN := Lib.hid hxn
        clear hxx hxn hxx0 hxn0
        go_wp2_with (first | (with_reducible refine wpl_loadb (o := ⟨some 323, _, _, _, _, _⟩) rfl rfl row_32 hout.out rfl HXN.out ?_) | (with_reducible refine wpl_storeb (o := ⟨none, .store _ _ _, _, _, _, _⟩) rfl rfl row_32 hkv.out.res rfl rfl len32 HXN.out HX1.out ?_))
        intro w11 hb11 hg11 hsz11
        have HB11 := Lib.hid hb11
        have HL11 := Lib.hid (hkv.out.low.grown hg11 (Nat.le_trans (Nat.le_of_lt hkv.out.lg) hkv.out.sz) (fun j hj => by cases hj; exact Nat.le_refl _))
        clear hb11 hg11 hsz11
        go_wp2_with fail
        refine bodyPost_ret (results_cell_row rfl _ _ g _ xs.toArray (0, 0) _ rfl HB11.out Tryz.underlying46 rfl (by rw [List.size_toArray, HXN.out]; kernel_rfl)) rfl ?_
        refine ⟨by rw [HXX.out], ?_⟩
        rw [HG.out]; exact HL11.out
end Go.Proofs.YtnnjjbkdjkjnpaaGreatDoor
/- Contracts of seisinref03.Of, Long; seisinref01.Pick. -/
namespace Go.Proofs.YtnnjjbkdjkjnpaaGreatDoor
open Go.RowKit Go.Shelf
set_option linter.unusedVariables false
set_option maxHeartbeats 1000000 in
theorem of_any (A : Option Addr) (n c : Nat) (bs : List UInt8) (w : World) (hb : Sl w w.heap.size 1 A n (bs.map B)) (hl : n ≤ 1099511627776) :
    Calls Tryz.prog 53 #[.slice A n c] w fun e w' => e = .returned (.agg ((sha bs).map B).toArray) ∧ Below w.heap.size w w' := by
  have HS := Lib.hid hb; clear hb
  have HA := Lib.hid (all_bytes (sha bs))
  have HLN := Lib.hid (show ((sha bs).map B).length = 32 by rw [List.length_map, sha_length])
  have hrs := fun (Ah Ak : Option Addr) (w : World) h1 h2 h3 => rsum_any A Ah Ak n c 8 64 bs w h1 h2 h3 hl
  have HRS := Lib.hid hrs; clear hrs
  generalize hxs : (sha bs).map B = xs at *
  clear hxs
  go_enter Tryz.func53, Tryz.ntmps53
  go_wp2_with (first | (with_reducible refine wpl_alloc (o := ⟨some 2, _, _, _, _, _⟩) rfl rfl zero_id ?_))
  intro w1 hb1 hbw1 hsz1
  have HB1 := Lib.hid hb1; clear hb1
  have HBW1 := Lib.hid hbw1; clear hbw1
  have hs1 := (HS.out.below HBW1.out).more HBW1.out.size
  have HS1 := Lib.hid hs1; clear hs1
  generalize hgd : w.heap.size = g at *
  have HG := Lib.hid hgd; clear hgd
  have HSZ1 := Lib.hid hsz1; clear hsz1
  go_wp2_with fail
  refine (first_ref w1).mono ?_
  rintro e w2 ⟨g2, rfl, hs2, hb2⟩
  have HF2 := Lib.hid hs2
  have HS2 := Lib.hid ((HS1.out.below hb2).more hb2.size)
  have HB2 := Lib.hid (HB1.out.call hb2)
  have HBW2 := Lib.hid (below_step HBW1.out (by have := HSZ1.out; omega) hb2)
  have HZ2 := Lib.hid (Nat.le_trans (Nat.le_of_eq HSZ1.out.symm) hb2.size)
  clear hs2 hb2 HB1 HBW1 HS1
  go_wp2_with fail
  refine (rounds_ref w2).mono ?_
  rintro e w3 ⟨g3, rfl, hs3, hb3⟩
  have HR3 := Lib.hid hs3
  have HF3 := Lib.hid ((HF2.out.below hb3).more hb3.size)
  have HS3 := Lib.hid ((HS2.out.below hb3).more hb3.size)
  have HB3 := Lib.hid (HB2.out.call hb3)
  have HBW3 := Lib.hid (below_step HBW2.out (by have := HZ2.out; omega) hb3)
  have HZ3 := Lib.hid (Nat.le_trans HZ2.out hb3.size)
  clear hs3 hb3 HB2 HBW2 HS2 HF2
  go_wp2_with fail
  refine (HRS.out _ _ w3 HS3.out HF3.out HR3.out).mono ?_
  rintro e w4 ⟨rfl, hb4⟩
  have HB4 := Lib.hid (show Blk w4 g 46 (List.replicate 32 (B 0)) from HB3.out.call hb4)
  have HBW4 := Lib.hid (below_step HBW3.out (by have := HZ3.out; omega) hb4)
  have HZ4 := Lib.hid (Nat.le_trans HZ3.out hb4.size)
  clear hb4 HB3 HBW3 HS3 HF3 HR3 HRS
  have H1 := HA
  go_wp2_with (first | (with_reducible refine wpl_storeb (o := ⟨none, .store _ _ _, _, _, _, _⟩) rfl rfl row_32 HB4.out rfl rfl len32 HLN.out HA.out ?_))
  intro w5 hb5 hg5 hsz5
  have HB5 := Lib.hid hb5
  have HBW5 := Lib.hid (HBW4.out.grown hg5 (by have := HZ4.out; omega) (by intro k hk; cases hk; exact Nat.le_refl _))
  clear hb5 hg5 hsz5
  go_wp2_with fail
  refine bodyPost_ret (results_cell_row rfl _ _ g _ xs.toArray (0, 0) _ rfl HB5.out Tryz.underlying46 rfl (by rw [List.size_toArray, HLN.out]; kernel_rfl)) rfl ?_
  refine ⟨rfl, ?_⟩
  rw [HG.out]; exact HBW5.out
/-- A length as four bytes, and the bytes. -/
theorem long_any (A : Option Addr) (n c : Nat) (bs : List UInt8) (w : World) (hb : Sl w w.heap.size 1 A n (bs.map B)) (hl : n ≤ 4294967295) :
    Calls Tryz.prog 54 #[.slice A n c] w fun e w' => ∃ A' c', e = .returned (.slice A' (4 + n) c') ∧ w'.ownsRow w.heap.size 5 1 (.slice A' (4 + n) c') (4 + n) ((beBytes n 4 ++ bs).map B) ∧ Below w.heap.size w w' := by
  have HS := Lib.hid hb; clear hb
  have HA := Lib.hid (all_bytes bs)
  have e0 : (n : Int) / 16777216 = b8 (beByte n 4 0) := by have h : (n : Int) / 16777216 % 256 = b8 (beByte n 4 0) := beByte_div n 4 0; omega
  have e1 : (n : Int) / 65536 % 256 = b8 (beByte n 4 1) := beByte_div n 4 1
  have e2 : (n : Int) / 256 % 256 = b8 (beByte n 4 2) := beByte_div n 4 2
  have e3 : (n : Int) % 256 = b8 (beByte n 4 3) := by have := beByte_div n 4 3; simpa using this
  have HO := Lib.hid (World.ownsRow_lit (base := w.heap.size) (e := 5) (size := 1) w #[B (beByte n 4 0), B (beByte n 4 1), B (beByte n 4 2), B (beByte n 4 3)] 4 (Nat.le_refl _) (by simp [maxLen]) rfl)
  have HS1 := Lib.hid (HS.out.alloc (Nat.le_refl _) (.cells #[B (beByte n 4 0), B (beByte n 4 1), B (beByte n 4 2), B (beByte n 4 3)] 5))
  go_enter Tryz.func54, Tryz.ntmps54
  go_wp2_with (at_builtin; refine wpl_apps rfl rfl el_u8 HO.out rfl HS1.out rfl HA.out ?_ ?_ (Nat.le_of_lt (by simp)) ?_)
  · omega
  · omega
  · intro A' c' w' ho hg _
    have HO2 := Lib.hid ho
    have HB2 := Lib.hid (((Below.refl w.heap.size w).alloc (Nat.le_refl _) (.cells #[B (beByte n 4 0), B (beByte n 4 1), B (beByte n 4 2), B (beByte n 4 3)] 5)).grown hg (by simp) (by intro k hk; cases hk; exact Nat.le_refl _))
    clear ho hg e0 e1 e2 e3
    go_wp2_with fail
    go_ret
    refine ⟨A', c', rfl, ?_, HB2.out⟩
    have h := HO2.out
    have e : (beBytes n 4 ++ bs).map B = #[B (beByte n 4 0), B (beByte n 4 1), B (beByte n 4 2), B (beByte n 4 3)].toList ++ bs.map B := by
      rw [beBytes]; rfl
    rw [e]
    exact h
end Go.Proofs.YtnnjjbkdjkjnpaaGreatDoor
/- The contract of seisinref03.Of, ready for the laws. -/
namespace Go.Proofs.YtnnjjbkdjkjnpaaGreatDoor
open Go.RowKit Go.Shelf
set_option linter.unusedVariables false
theorem dof_any (A : Option Addr) (n c : Nat) {bs : List UInt8} {xs : List Value} (hx : Dig xs (sha bs)) (w : World) (hb : Sl w w.heap.size 1 A n (bs.map B)) (hl : n ≤ 1099511627776) :
    Calls Tryz.prog 53 #[.slice A n c] w fun e w' => e = .returned (.agg xs.toArray) ∧ Below w.heap.size w w' := by
  rw [hx.1]
  exact of_any A n c bs w hb hl
end Go.Proofs.YtnnjjbkdjkjnpaaGreatDoor
/- Rows of the call's own, in facts that last. -/
namespace Go.Proofs.YtnnjjbkdjkjnpaaGreatDoor
open Go.RowKit Go.Shelf
theorem own_blk {w : World} {base g n : Nat} {e : TypeId} {cs : List Value} (h : Blk w g e cs) (hn : cs.length = n) (hb : base ≤ g) (hm : n ≤ maxLen) : w.ownsRow base e 1 (.slice (some ⟨g, 0, none⟩) n n) n cs :=
  ⟨by omega, .inr ⟨g, n, cs.toArray, rfl, hb, h, Nat.le_refl _, hm, by simp; omega, List.take_of_length_le (by simp; omega)⟩⟩
/-- A row of this call's own. -/
def OwnAt (w : World) (base : Nat) (A : Option Addr) (n c : Nat) (xs : List Value) : Prop := w.ownsRow base 5 1 (.slice A n c) n xs
end Go.Proofs.YtnnjjbkdjkjnpaaGreatDoor
/- Layer 5: the root, in the program and in the document's answer. -/
namespace Go.Proofs.YtnnjjbkdjkjnpaaGreatDoor
open Go.RowKit Go.Shelf
set_option linter.unusedVariables false
def rootB (l : List (List UInt8)) : List UInt8 :=
  match l with
  | [] => noneB
  | [x] => leafB x
  | x :: y :: r => nodeB (rootB ((x :: y :: r).take (halfN (x :: y :: r).length))) (rootB ((x :: y :: r).drop (halfN (x :: y :: r).length)))
termination_by l.length
decreasing_by
  · rw [List.length_take]; have := halfN_lt (n := (x :: y :: r).length) (by simp); omega
  · rw [List.length_drop]; have := halfN_pos (x :: y :: r).length; simp only [List.length_cons] at *; omega
attribute [local irreducible] leafB nodeB noneB
end Go.Proofs.YtnnjjbkdjkjnpaaGreatDoor
/- Headers and entries: their forms, digests, and who follows whom (plain). -/
namespace Go.Proofs.YtnnjjbkdjkjnpaaGreatDoor
open Go.RowKit
set_option linter.unusedVariables false
def zeroD : List UInt8 := List.replicate 32 0
theorem inB_iff {n lo hi : Int} : inB n lo hi = true ↔ lo ≤ n ∧ n ≤ hi := by unfold inB; simp
end Go.Proofs.YtnnjjbkdjkjnpaaGreatDoor
/- Headers and entries, read of bytes (plain). No program in sight. -/
namespace Go.Proofs.YtnnjjbkdjkjnpaaGreatDoor
set_option linter.unusedVariables false
end Go.Proofs.YtnnjjbkdjkjnpaaGreatDoor
