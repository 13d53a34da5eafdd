/- The loop over the blocks of seisinref03.Sum. -/
import Derived.Test.YtlondennhhffdaaDoorRefQ3
import Derived.Test.YtlondennhhffdaaDoorRefQ4
import Derived.Test.YtlondennhhffdaaDoorRefQ5
namespace Go.Proofs.YtlondennhhffdaaDoor
open Go.RowKit Go.Shelf
set_option linter.unusedVariables false

attribute [local go_sem ↓ high] add_w
attribute [local go_sem high] xor_w and_w or_w not_w shr_w shl_w wrap_b8
attribute [local go_sem ↓ high] not_sub

set_option maxRecDepth 100000 in
set_option maxHeartbeats 4000000 in
theorem rs_at {q_0 q_3 q_4 q_5 q_6 q_8 q_9 q_11 q_12 q_13 q_14 q_15 q_16 q_17 q_18 q_19 q_20 q_21 q_22 q_23 q_24 q_25 q_26 q_27 q_28 q_29 q_30 q_31 q_32 q_33 q_34 q_35 q_36 q_37 q_38 q_39 q_40 q_41 q_42 q_43 q_44 q_45 q_46 q_47 q_48 q_49 q_50 q_51 q_52 q_53 q_54 q_55 q_56 q_57 q_58 q_59 q_60 q_61 q_62 q_63 q_64 q_65 q_66 q_67 q_68 q_69 q_70 q_71 q_72 q_73 q_74 q_75 q_76 q_77 q_78 q_79 q_80 q_81 q_82 q_83 q_84 q_85 q_86 q_87 q_88 q_89 q_90 q_91 q_92 q_93 q_94 q_95 q_96 q_97 q_98 q_99 q_100 q_101 q_102 q_103 q_104 q_105 q_106 q_107 q_108 q_109 q_110 q_111 q_112 q_113 q_114 q_115 q_116 q_117 q_118 q_119 q_120 q_121 q_122 q_123 q_124 q_125 q_126 q_127 q_128 q_129 q_130 q_131 q_132 q_133 q_134 q_135 q_136 q_137 q_138 q_139 q_140 q_141 q_142 q_143 q_144 q_145 q_146 q_147 q_148 q_149 q_150 q_151 q_152 q_153 q_154 q_155 q_156 q_157 q_158 q_159 q_160 q_161 q_162 q_163 q_164 q_165 q_166 q_167 q_168 q_169 q_170 q_171 q_172 q_173 q_174 q_175 q_176 q_177 q_178 q_179 q_180 q_181 q_182 q_183 q_184 q_185 q_186 q_187 q_188 q_189 q_190 q_191 q_192 q_193 q_194 q_195 q_196 q_197 q_198 q_199 q_200 q_201 q_202 q_203 q_204 q_205 q_206 q_207 q_208 q_209 q_210 q_211 q_212 q_213 q_214 q_215 q_216 q_217 q_218 q_219 q_220 q_221 q_222 q_223 q_224 q_225 q_226 q_227 q_228 q_229 q_230 q_231 q_232 q_233 q_234 q_235 q_236 q_237 q_238 q_239 q_240 q_241 q_242 q_243 q_244 q_245 q_246 q_247 q_248 q_249 q_250 q_251 q_252 q_253 q_254 q_255 q_256 q_257 q_258 q_259 q_260 q_261 q_262 q_263 q_264 q_265 q_266 q_267 q_268 q_269 q_270 q_271 q_272 q_273 q_274 q_275 q_276 q_277 q_278 q_279 q_280 q_281 q_282 q_283 q_284 q_285 q_286 q_287 q_288 q_289 q_290 q_291 q_292 q_293 q_294 q_295 q_296 q_297 q_298 q_299 q_300 q_301 q_302 q_303 q_304 q_305 q_306 q_307 q_308 q_309 q_310 q_311 q_312 q_313 q_314 q_315 q_316 q_317 q_318 q_319 q_320 q_321 q_322 q_323 : Value} {Q0 : Exit → Act → World → Prop} {g s1 s2 gm gh nb c5 c7 bk ok ck : Nat} {M : List UInt8} {w w7 : World} (HNB : Hid (M.length = 64 * nb)) (hnb2 : nb ≤ 1000000000000)
    (HK : Hid (Sl w g 1 (some ⟨bk, ok, none⟩) 64 (roundKs.map W))) (HKEEP : Hid (KeepR g s1 s2 gm gh nb c5 c7 M (firstSt.toList.map W) w w7))
    (HEX : Hid (∀ {u_11 u_12 u_13 u_14 u_15 u_16 u_17 u_18 u_19 u_20 u_21 u_22 u_56 u_57 u_58 u_59 u_60 u_61 u_62 u_63 u_64 u_65 u_66 u_67 u_68 u_69 u_70 u_71 u_72 u_73 u_74 u_75 u_76 u_77 u_78 u_79 u_80 u_81 u_82 u_83 u_84 u_85 u_86 u_87 u_88 u_89 u_90 u_91 u_92 u_93 u_94 u_95 u_96 u_97 u_98 u_99 u_100 u_101 u_102 u_103 u_104 u_105 u_106 u_107 u_108 u_109 u_110 u_111 u_112 u_113 u_114 u_115 u_116 u_117 u_118 u_119 u_120 u_121 u_122 u_123 u_124 u_125 u_126 u_127 u_128 u_129 u_130 u_131 u_132 u_133 u_134 u_135 u_136 u_137 u_138 u_139 u_140 u_141 u_142 u_143 u_144 u_145 u_146 u_147 u_148 u_149 u_150 u_151 u_152 u_153 u_154 u_155 u_156 u_157 u_158 u_159 u_160 u_161 u_162 u_163 u_164 u_165 u_166 u_167 u_168 u_169 u_170 u_171 u_172 u_173 u_174 u_175 u_176 u_177 u_178 u_179 u_180 u_181 u_182 u_183 u_184 u_185 u_186 u_187 u_188 u_189 u_190 u_191 u_192 u_193 u_194 u_195 u_196 u_197 u_198 u_199 u_200 u_201 u_202 u_203 u_204 u_205 u_206 u_207 u_208 u_209 u_210 u_211 u_212 u_213 u_214 u_215 u_216 u_217 u_218 u_219 u_220 u_221 u_222 u_223 u_224 u_225 u_226 u_227 u_228 u_229 u_230 u_231 u_232 u_233 u_234 u_235 u_236 u_237 u_238 u_239 u_240 u_241 u_242 u_243 u_244 u_245 u_246 u_247 u_248 u_249 u_250 u_251 u_252 u_253 u_254 u_255 u_256 u_257 u_258 u_259 u_260 u_261 u_262 u_263 u_264 u_265 u_266 u_267 u_268 u_269 u_270 u_271 u_272 u_273 u_274 u_275 u_276 u_277 u_278 u_279 u_280 u_281 u_282 u_283 u_284 u_285 u_286 u_287 u_288 u_289 u_290 u_291 u_292 u_293 u_294 u_295 u_296 u_297 u_298 u_299 u_300 u_301 u_302 u_303 u_304 u_305 : Value} {wr : World}, KeepR g s1 s2 gm gh nb c5 c7 M ((stB M nb).toList.map W) w wr → Q0 (.exit 4) ⟨(q_0 :: (.slice (some ⟨gh, 0, none⟩) 8 c7) :: (.slice (some ⟨bk, ok, none⟩) 64 ck) :: q_3 :: q_4 :: q_5 :: q_6 :: (.slice (some ⟨gm, 0, none⟩) (64 * nb) c5) :: q_8 :: q_9 :: (.int .i64 (64 * (nb : Int))) :: u_11 :: u_12 :: u_13 :: u_14 :: u_15 :: u_16 :: u_17 :: u_18 :: u_19 :: u_20 :: u_21 :: u_22 :: q_23 :: q_24 :: q_25 :: q_26 :: q_27 :: q_28 :: q_29 :: q_30 :: q_31 :: q_32 :: q_33 :: q_34 :: q_35 :: q_36 :: q_37 :: q_38 :: q_39 :: q_40 :: q_41 :: q_42 :: q_43 :: q_44 :: q_45 :: q_46 :: q_47 :: q_48 :: q_49 :: q_50 :: q_51 :: q_52 :: q_53 :: q_54 :: q_55 :: u_56 :: u_57 :: u_58 :: u_59 :: u_60 :: u_61 :: u_62 :: u_63 :: u_64 :: u_65 :: u_66 :: u_67 :: u_68 :: u_69 :: u_70 :: u_71 :: u_72 :: u_73 :: u_74 :: u_75 :: u_76 :: u_77 :: u_78 :: u_79 :: u_80 :: u_81 :: u_82 :: u_83 :: u_84 :: u_85 :: u_86 :: u_87 :: u_88 :: u_89 :: u_90 :: u_91 :: u_92 :: u_93 :: u_94 :: u_95 :: u_96 :: u_97 :: u_98 :: u_99 :: u_100 :: u_101 :: u_102 :: u_103 :: u_104 :: u_105 :: u_106 :: u_107 :: u_108 :: u_109 :: u_110 :: u_111 :: u_112 :: u_113 :: u_114 :: u_115 :: u_116 :: u_117 :: u_118 :: u_119 :: u_120 :: u_121 :: u_122 :: u_123 :: u_124 :: u_125 :: u_126 :: u_127 :: u_128 :: u_129 :: u_130 :: u_131 :: u_132 :: u_133 :: u_134 :: u_135 :: u_136 :: u_137 :: u_138 :: u_139 :: u_140 :: u_141 :: u_142 :: u_143 :: u_144 :: u_145 :: u_146 :: u_147 :: u_148 :: u_149 :: u_150 :: u_151 :: u_152 :: u_153 :: u_154 :: u_155 :: u_156 :: u_157 :: u_158 :: u_159 :: u_160 :: u_161 :: u_162 :: u_163 :: u_164 :: u_165 :: u_166 :: u_167 :: u_168 :: u_169 :: u_170 :: u_171 :: u_172 :: u_173 :: u_174 :: u_175 :: u_176 :: u_177 :: u_178 :: u_179 :: u_180 :: u_181 :: u_182 :: u_183 :: u_184 :: u_185 :: u_186 :: u_187 :: u_188 :: u_189 :: u_190 :: u_191 :: u_192 :: u_193 :: u_194 :: u_195 :: u_196 :: u_197 :: u_198 :: u_199 :: u_200 :: u_201 :: u_202 :: u_203 :: u_204 :: u_205 :: u_206 :: u_207 :: u_208 :: u_209 :: u_210 :: u_211 :: u_212 :: u_213 :: u_214 :: u_215 :: u_216 :: u_217 :: u_218 :: u_219 :: u_220 :: u_221 :: u_222 :: u_223 :: u_224 :: u_225 :: u_226 :: u_227 :: u_228 :: u_229 :: u_230 :: u_231 :: u_232 :: u_233 :: u_234 :: u_235 :: u_236 :: u_237 :: u_238 :: u_239 :: u_240 :: u_241 :: u_242 :: u_243 :: u_244 :: u_245 :: u_246 :: u_247 :: u_248 :: u_249 :: u_250 :: u_251 :: u_252 :: u_253 :: u_254 :: u_255 :: u_256 :: u_257 :: u_258 :: u_259 :: u_260 :: u_261 :: u_262 :: u_263 :: u_264 :: u_265 :: u_266 :: u_267 :: u_268 :: u_269 :: u_270 :: u_271 :: u_272 :: u_273 :: u_274 :: u_275 :: u_276 :: u_277 :: u_278 :: u_279 :: u_280 :: u_281 :: u_282 :: u_283 :: u_284 :: u_285 :: u_286 :: u_287 :: u_288 :: u_289 :: u_290 :: u_291 :: u_292 :: u_293 :: u_294 :: u_295 :: u_296 :: u_297 :: u_298 :: u_299 :: u_300 :: u_301 :: u_302 :: u_303 :: u_304 :: u_305 :: q_306 :: q_307 :: q_308 :: q_309 :: q_310 :: q_311 :: q_312 :: q_313 :: q_314 :: q_315 :: q_316 :: q_317 :: q_318 :: q_319 :: q_320 :: q_321 :: q_322 :: q_323 :: []).toArray, []⟩ wr)) :
    Code.wp Tryd.prog (.loop (rsBody 2)) Q0 ⟨(q_0 :: (.slice (some ⟨gh, 0, none⟩) 8 c7) :: (.slice (some ⟨bk, ok, none⟩) 64 ck) :: q_3 :: q_4 :: q_5 :: q_6 :: (.slice (some ⟨gm, 0, none⟩) (64 * nb) c5) :: q_8 :: q_9 :: (.int .i64 0) :: q_11 :: q_12 :: q_13 :: q_14 :: q_15 :: q_16 :: q_17 :: q_18 :: q_19 :: q_20 :: q_21 :: q_22 :: q_23 :: q_24 :: q_25 :: q_26 :: q_27 :: q_28 :: q_29 :: q_30 :: q_31 :: q_32 :: q_33 :: q_34 :: q_35 :: q_36 :: q_37 :: q_38 :: q_39 :: q_40 :: q_41 :: q_42 :: q_43 :: q_44 :: q_45 :: q_46 :: q_47 :: q_48 :: q_49 :: q_50 :: q_51 :: q_52 :: q_53 :: q_54 :: q_55 :: q_56 :: q_57 :: q_58 :: q_59 :: q_60 :: q_61 :: q_62 :: q_63 :: q_64 :: q_65 :: q_66 :: q_67 :: q_68 :: q_69 :: q_70 :: q_71 :: q_72 :: q_73 :: q_74 :: q_75 :: q_76 :: q_77 :: q_78 :: q_79 :: q_80 :: q_81 :: q_82 :: q_83 :: q_84 :: q_85 :: q_86 :: q_87 :: q_88 :: q_89 :: q_90 :: q_91 :: q_92 :: q_93 :: q_94 :: q_95 :: q_96 :: q_97 :: q_98 :: q_99 :: q_100 :: q_101 :: q_102 :: q_103 :: q_104 :: q_105 :: q_106 :: q_107 :: q_108 :: q_109 :: q_110 :: q_111 :: q_112 :: q_113 :: q_114 :: q_115 :: q_116 :: q_117 :: q_118 :: q_119 :: q_120 :: q_121 :: q_122 :: q_123 :: q_124 :: q_125 :: q_126 :: q_127 :: q_128 :: q_129 :: q_130 :: q_131 :: q_132 :: q_133 :: q_134 :: q_135 :: q_136 :: q_137 :: q_138 :: q_139 :: q_140 :: q_141 :: q_142 :: q_143 :: q_144 :: q_145 :: q_146 :: q_147 :: q_148 :: q_149 :: q_150 :: q_151 :: q_152 :: q_153 :: q_154 :: q_155 :: q_156 :: q_157 :: q_158 :: q_159 :: q_160 :: q_161 :: q_162 :: q_163 :: q_164 :: q_165 :: q_166 :: q_167 :: q_168 :: q_169 :: q_170 :: q_171 :: q_172 :: q_173 :: q_174 :: q_175 :: q_176 :: q_177 :: q_178 :: q_179 :: q_180 :: q_181 :: q_182 :: q_183 :: q_184 :: q_185 :: q_186 :: q_187 :: q_188 :: q_189 :: q_190 :: q_191 :: q_192 :: q_193 :: q_194 :: q_195 :: q_196 :: q_197 :: q_198 :: q_199 :: q_200 :: q_201 :: q_202 :: q_203 :: q_204 :: q_205 :: q_206 :: q_207 :: q_208 :: q_209 :: q_210 :: q_211 :: q_212 :: q_213 :: q_214 :: q_215 :: q_216 :: q_217 :: q_218 :: q_219 :: q_220 :: q_221 :: q_222 :: q_223 :: q_224 :: q_225 :: q_226 :: q_227 :: q_228 :: q_229 :: q_230 :: q_231 :: q_232 :: q_233 :: q_234 :: q_235 :: q_236 :: q_237 :: q_238 :: q_239 :: q_240 :: q_241 :: q_242 :: q_243 :: q_244 :: q_245 :: q_246 :: q_247 :: q_248 :: q_249 :: q_250 :: q_251 :: q_252 :: q_253 :: q_254 :: q_255 :: q_256 :: q_257 :: q_258 :: q_259 :: q_260 :: q_261 :: q_262 :: q_263 :: q_264 :: q_265 :: q_266 :: q_267 :: q_268 :: q_269 :: q_270 :: q_271 :: q_272 :: q_273 :: q_274 :: q_275 :: q_276 :: q_277 :: q_278 :: q_279 :: q_280 :: q_281 :: q_282 :: q_283 :: q_284 :: q_285 :: q_286 :: q_287 :: q_288 :: q_289 :: q_290 :: q_291 :: q_292 :: q_293 :: q_294 :: q_295 :: q_296 :: q_297 :: q_298 :: q_299 :: q_300 :: q_301 :: q_302 :: q_303 :: q_304 :: q_305 :: q_306 :: q_307 :: q_308 :: q_309 :: q_310 :: q_311 :: q_312 :: q_313 :: q_314 :: q_315 :: q_316 :: q_317 :: q_318 :: q_319 :: q_320 :: q_321 :: q_322 :: q_323 :: []).toArray, []⟩ w7 := by
  conv => arg 2; arg 1; whnf
  go_loopw [10] (fun i wr => ∃ b : Nat, b ≤ nb ∧ i = .int .i64 (64 * (b : Int)) ∧ Hid (KeepR g s1 s2 gm gh nb c5 c7 M ((stB M b).toList.map W) w wr)) (fun i _ => 64 * nb - (intOf i).toNat)
  case atStart => exact ⟨0, by omega, rfl, (show KeepR _ _ _ _ _ _ _ _ _ _ _ _ by rw [stB_zero]; exact HKEEP.out)⟩
  case round =>
    obtain ⟨b, hb, rfl, hkeep⟩ := hrel
    by_cases hlt : b < nb
    · go_wp2_with fail
      obtain ⟨wb, rfl⟩ : ∃ wb : World, wb = wr := ⟨_, rfl⟩
      obtain ⟨s3, hs3⟩ : ∃ s3, s3 = wb.heap.size := ⟨_, rfl⟩
      have hk3 := hkeep.out.more (s3 := s3) (by rw [hs3]; exact hkeep.out.sz) (by rw [hs3]; exact Nat.le_refl _)
      have HK3 := Lib.hid hk3
      have HS23 := Lib.hid (show s2 ≤ s3 by rw [hs3]; exact hkeep.out.sz)
      clear hk3
      clear hs3
      refine rs_w HNB hlt hnb2 HK3 (Lib.hid ?_)
      intros
      rename_i A8 c8 wr hw_ hkp_
      have hw := Lib.hid hw_; have hkp := Lib.hid hkp_; clear hw_ hkp_
      obtain ⟨gw, rfl, hgw1, hgw2, hcw⟩ := own_form hw.out (by omega)
      have HGW := Lib.hid hgw2
      clear hgw1 hgw2 hcw
      obtain ⟨wc, rfl⟩ : ∃ wc : World, wc = wr := ⟨_, rfl⟩
      obtain ⟨st, hst⟩ : ∃ st, st = stB M b := ⟨_, rfl⟩
      have hkp0 := hkp.out
      rw [← hst] at hkp0
      have HST := Lib.hid hst; clear hst
      obtain ⟨s4, hs4⟩ : ∃ s4, s4 = wc.heap.size := ⟨_, rfl⟩
      have HS4 := Lib.hid hs4.symm; clear hs4
      have hkp4 := hkp0.more (s3 := s4) (by rw [← HS4.out]; exact hkp0.sz) (by rw [HS4.out]; exact Nat.le_refl _)
      have HWD2 := Lib.hid (all_words st.toList)
      have HO4 := Lib.hid (show (wc.alloc (.cells #[] 70)).ownsRow s4 70 1 (.slice (some ⟨wc.heap.size, 0, none⟩) 0 0) 0 [] by
        exact World.ownsRow_lit (base := s4) (e := 70) (size := 1) wc #[] 0 (by rw [HS4.out]; exact Nat.le_refl _) (by simp [maxLen]) rfl)
      have HA4 := Lib.hid ((Sl.of_own hkp4.hs).alloc (Nat.le_refl _) (.cells #[] 70))
      have HZ4 := Lib.hid (show s4 ≤ (wc.alloc (.cells #[] 70)).heap.size by simp; have := HS4.out; omega)
      have HK4 := Lib.hid (hkp4.grown (grown_alloc wc (.cells #[] 70)) (by intro k hk; cases hk))
      have HW4 := Lib.hid (own_alloc hw.out (.cells #[] 70))
      have HS34 := Lib.hid (show s3 ≤ s4 by rw [← HS4.out]; exact hkp0.sz)
      clear hkp0 hkp4
      try rw [show ((64 : Nat) : Int) = 64 from rfl]
      go_wp2_with (at_builtin; refine wpl_apps rfl rfl el_u32 HO4.out rfl HA4.out rfl HWD2.out ?_ ?_ HZ4.out ?_)
      · omega
      · omega
      · intro A9 c9 w9 ho hg _
        try rw [Nat.zero_add] at ho
        try rw [Nat.zero_add]
        try rw [List.nil_append] at ho
        have HV9 := Lib.hid ho
        have HK9 := Lib.hid (HK4.out.grown hg (by intro k hk; cases hk; rw [HS4.out]; exact Nat.le_refl _))
        have HW9 := Lib.hid (own_kept HW4.out hg (by intro k hk; cases hk; have := HGW.out; simp; omega))
        clear ho hg HO4 HA4 HZ4 HK4 HW4
        go_wp2_with fail
        refine rs_v hlt hnb2 HK HV9 HW9 HK9 (Lib.hid (by rw [← HS4.out]; exact HGW.out)) (Lib.hid ?_)
        intros
        rename_i A10 c10 wr hv_ hkv_
        have hv := Lib.hid hv_; have hkv := Lib.hid hkv_; clear hv_ hkv_
        obtain ⟨gv, rfl, hgv1, hgv2, hcv⟩ := own_form hv.out (by omega)
        have HGV := Lib.hid hgv1
        clear hgv1 hgv2 hcv
        obtain ⟨wd, rfl⟩ : ∃ wd : World, wd = wr := ⟨_, rfl⟩
        try rw [show ((64 : Nat) : Int) = 64 from rfl]
        have HCE := Lib.hid (show stB M (b + 1) = st.add (stN (chunkAt M b) st 64) by rw [stB_succ, ← HST.out, compress_eq])
        generalize hsn : stN (chunkAt M b) st 64 = sn at *
        clear hsn
        go_wp2_with fail
        refine rs_add HGV hv hkv (Lib.hid ?_)
        intros
        rename_i xs wr hup_ hkv_
        have hup := Lib.hid hup_; have hkv := Lib.hid hkv_; clear hup_ hkv_
        have hxs := upTo8_all hup.out
        rw [← HCE.out] at hxs
        have hkf := (hkv.out.less (s2 := s2) (by have := HS23.out; have := HS34.out; omega) HKEEP.out.lm HKEEP.out.lh HKEEP.out.lg)
        rw [hxs] at hkf
        have HKF := Lib.hid hkf
        clear hkf hxs hup hv hkv
        go_wp2_with fail
        go_roundw
        case rel => exact ⟨b + 1, by omega, by go_num, HKF⟩
        case measure => simp [intOf]; omega
    · obtain rfl : b = nb := by omega
      go_wp2_with fail
      exact HEX.out hkeep.out
end Go.Proofs.YtlondennhhffdaaDoor
