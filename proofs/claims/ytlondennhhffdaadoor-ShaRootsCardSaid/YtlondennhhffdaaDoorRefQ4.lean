/- The rounds of seisinref03.Sum. -/
import Derived.Test.YtlondennhhffdaaDoorRefP
import Derived.Test.YtlondennhhffdaaDoorRefV26
import Derived.Test.YtlondennhhffdaaDoorRefV27
import Derived.Test.YtlondennhhffdaaDoorRefV28
import Derived.Test.YtlondennhhffdaaDoorRefV29
import Derived.Test.YtlondennhhffdaaDoorRefV30
import Derived.Test.YtlondennhhffdaaDoorRefV31
namespace Go.Proofs.YtlondennhhffdaaDoor
open Go.RowKit Go.Shelf
set_option linter.unusedVariables false

attribute [local go_sem ↓ high] add_w
attribute [local go_sem high] xor_w and_w or_w not_w shr_w shl_w wrap_b8
attribute [local go_sem ↓ high] not_sub

set_option maxRecDepth 100000 in
set_option maxHeartbeats 4000000 in
theorem rs_v {q_0 q_1 q_3 q_4 q_5 q_6 q_7 q_8 q_9 q_10 q_12 q_13 q_14 q_17 q_18 q_19 q_20 q_21 q_22 q_23 q_24 q_25 q_26 q_27 q_28 q_29 q_30 q_31 q_32 q_33 q_34 q_35 q_36 q_37 q_38 q_39 q_40 q_41 q_42 q_43 q_44 q_45 q_46 q_47 q_48 q_49 q_50 q_51 q_52 q_53 q_54 q_55 q_56 q_57 q_58 q_59 q_60 q_61 q_62 q_63 q_64 q_65 q_66 q_67 q_68 q_69 q_70 q_71 q_72 q_73 q_74 q_75 q_76 q_77 q_78 q_79 q_80 q_81 q_82 q_83 q_84 q_85 q_86 q_87 q_88 q_89 q_90 q_91 q_92 q_93 q_94 q_95 q_96 q_97 q_98 q_99 q_100 q_101 q_102 q_103 q_104 q_105 q_106 q_107 q_108 q_109 q_110 q_111 q_112 q_113 q_114 q_115 q_116 q_117 q_118 q_119 q_120 q_121 q_122 q_123 q_124 q_125 q_126 q_127 q_128 q_129 q_130 q_131 q_132 q_133 q_134 q_135 q_136 q_137 q_138 q_139 q_140 q_141 q_142 q_143 q_144 q_145 q_146 q_147 q_148 q_149 q_150 q_151 q_152 q_153 q_154 q_155 q_156 q_157 q_158 q_159 q_160 q_161 q_162 q_163 q_164 q_165 q_166 q_167 q_168 q_169 q_170 q_171 q_172 q_173 q_174 q_175 q_176 q_177 q_178 q_179 q_180 q_181 q_182 q_183 q_184 q_185 q_186 q_187 q_188 q_189 q_190 q_191 q_192 q_193 q_194 q_195 q_196 q_197 q_198 q_199 q_200 q_201 q_202 q_203 q_204 q_205 q_206 q_207 q_208 q_209 q_210 q_211 q_212 q_213 q_214 q_215 q_216 q_217 q_218 q_219 q_220 q_221 q_222 q_223 q_224 q_225 q_226 q_227 q_228 q_229 q_230 q_231 q_232 q_233 q_234 q_235 q_236 q_237 q_238 q_239 q_240 q_241 q_242 q_243 q_244 q_245 q_246 q_247 q_248 q_249 q_250 q_251 q_252 q_253 q_254 q_255 q_256 q_257 q_258 q_259 q_260 q_261 q_262 q_263 q_264 q_265 q_266 q_267 q_268 q_269 q_270 q_271 q_272 q_273 q_274 q_275 q_276 q_277 q_278 q_279 q_280 q_281 q_282 q_283 q_284 q_285 q_286 q_287 q_288 q_289 q_290 q_291 q_292 q_293 q_294 q_295 q_296 q_297 q_298 q_299 q_300 q_301 q_302 q_303 q_304 q_305 q_306 q_307 q_308 q_309 q_310 q_311 q_312 q_313 q_314 q_315 q_316 q_317 q_318 q_319 q_320 q_321 q_322 q_323 : Value} {Q0 : Exit → Act → World → Prop} {g s1 s3 s4 gm gh gw nb b c5 c7 c8 c9 bk ok ck : Nat} {M : List UInt8} {st : St} {A9 : Option Addr} {xs0 : List Value} {w w9 : World} (hlt : b < nb) (hnb2 : nb ≤ 1000000000000)
    (HK : Hid (Sl w g 1 (some ⟨bk, ok, none⟩) 64 (roundKs.map W)))
    (HV9 : Hid (w9.ownsRow s4 70 1 (.slice A9 8 c9) 8 (st.toList.map W))) (HW9 : Hid (w9.ownsRow s3 70 1 (.slice (some ⟨gw, 0, none⟩) 64 c8) 64 ((List.range 64).map fun i => W (sw (chunkAt M b) i)))) (HK9 : Hid (KeepR g s1 s4 gm gh nb c5 c7 M xs0 w w9))
    (HGW : Hid (gw < s4))
    (HEX : Hid (∀ {u_17 u_18 u_19 u_20 u_21 u_173 u_174 u_175 u_176 u_177 u_178 u_179 u_180 u_181 u_182 u_183 u_184 u_185 u_186 u_187 u_188 u_189 u_190 u_191 u_192 u_193 u_194 u_195 u_196 u_197 u_198 u_199 u_200 u_201 u_202 u_203 u_204 u_205 u_206 u_207 u_208 u_209 u_210 u_211 u_212 u_213 u_214 u_215 u_216 u_217 u_218 u_219 u_220 u_221 u_222 u_223 u_224 u_225 u_226 u_227 u_228 u_229 u_230 u_231 u_232 u_233 u_234 u_235 u_236 u_237 u_238 u_239 u_240 u_241 u_242 u_243 u_244 u_245 u_246 u_247 u_248 u_249 u_250 u_251 u_252 u_253 u_254 u_255 u_256 u_257 u_258 u_259 u_260 u_261 u_262 u_263 u_264 u_265 u_266 u_267 u_268 u_269 u_270 u_271 u_272 u_273 u_274 u_275 u_276 u_277 u_278 u_279 u_280 u_281 u_282 u_283 u_284 u_285 u_286 u_287 u_288 u_289 : Value} {A' : Option Addr} {c' : Nat} {wr : World}, wr.ownsRow s4 70 1 (.slice A' 8 c') 8 ((stN (chunkAt M b) st 64).toList.map W) → KeepR g s1 s4 gm gh nb c5 c7 M xs0 w wr → Q0 (.exit 8) ⟨(q_0 :: q_1 :: (.slice (some ⟨bk, ok, none⟩) 64 ck) :: q_3 :: q_4 :: q_5 :: q_6 :: q_7 :: q_8 :: q_9 :: q_10 :: (.slice (some ⟨gw, 0, none⟩) 64 c8) :: q_12 :: q_13 :: q_14 :: (.slice A' 8 c') :: (.int .i64 64) :: u_17 :: u_18 :: u_19 :: u_20 :: u_21 :: q_22 :: q_23 :: q_24 :: q_25 :: q_26 :: q_27 :: q_28 :: q_29 :: q_30 :: q_31 :: q_32 :: q_33 :: q_34 :: q_35 :: q_36 :: q_37 :: q_38 :: q_39 :: q_40 :: q_41 :: q_42 :: q_43 :: q_44 :: q_45 :: q_46 :: q_47 :: q_48 :: q_49 :: q_50 :: q_51 :: q_52 :: q_53 :: q_54 :: q_55 :: q_56 :: q_57 :: q_58 :: q_59 :: q_60 :: q_61 :: q_62 :: q_63 :: q_64 :: q_65 :: q_66 :: q_67 :: q_68 :: q_69 :: q_70 :: q_71 :: q_72 :: q_73 :: q_74 :: q_75 :: q_76 :: q_77 :: q_78 :: q_79 :: q_80 :: q_81 :: q_82 :: q_83 :: q_84 :: q_85 :: q_86 :: q_87 :: q_88 :: q_89 :: q_90 :: q_91 :: q_92 :: q_93 :: q_94 :: q_95 :: q_96 :: q_97 :: q_98 :: q_99 :: q_100 :: q_101 :: q_102 :: q_103 :: q_104 :: q_105 :: q_106 :: q_107 :: q_108 :: q_109 :: q_110 :: q_111 :: q_112 :: q_113 :: q_114 :: q_115 :: q_116 :: q_117 :: q_118 :: q_119 :: q_120 :: q_121 :: q_122 :: q_123 :: q_124 :: q_125 :: q_126 :: q_127 :: q_128 :: q_129 :: q_130 :: q_131 :: q_132 :: q_133 :: q_134 :: q_135 :: q_136 :: q_137 :: q_138 :: q_139 :: q_140 :: q_141 :: q_142 :: q_143 :: q_144 :: q_145 :: q_146 :: q_147 :: q_148 :: q_149 :: q_150 :: q_151 :: q_152 :: q_153 :: q_154 :: q_155 :: q_156 :: q_157 :: q_158 :: q_159 :: q_160 :: q_161 :: q_162 :: q_163 :: q_164 :: q_165 :: q_166 :: q_167 :: q_168 :: q_169 :: q_170 :: q_171 :: q_172 :: u_173 :: u_174 :: u_175 :: u_176 :: u_177 :: u_178 :: u_179 :: u_180 :: u_181 :: u_182 :: u_183 :: u_184 :: u_185 :: u_186 :: u_187 :: u_188 :: u_189 :: u_190 :: u_191 :: u_192 :: u_193 :: u_194 :: u_195 :: u_196 :: u_197 :: u_198 :: u_199 :: u_200 :: u_201 :: u_202 :: u_203 :: u_204 :: u_205 :: u_206 :: u_207 :: u_208 :: u_209 :: u_210 :: u_211 :: u_212 :: u_213 :: u_214 :: u_215 :: u_216 :: u_217 :: u_218 :: u_219 :: u_220 :: u_221 :: u_222 :: u_223 :: u_224 :: u_225 :: u_226 :: u_227 :: u_228 :: u_229 :: u_230 :: u_231 :: u_232 :: u_233 :: u_234 :: u_235 :: u_236 :: u_237 :: u_238 :: u_239 :: u_240 :: u_241 :: u_242 :: u_243 :: u_244 :: u_245 :: u_246 :: u_247 :: u_248 :: u_249 :: u_250 :: u_251 :: u_252 :: u_253 :: u_254 :: u_255 :: u_256 :: u_257 :: u_258 :: u_259 :: u_260 :: u_261 :: u_262 :: u_263 :: u_264 :: u_265 :: u_266 :: u_267 :: u_268 :: u_269 :: u_270 :: u_271 :: u_272 :: u_273 :: u_274 :: u_275 :: u_276 :: u_277 :: u_278 :: u_279 :: u_280 :: u_281 :: u_282 :: u_283 :: u_284 :: u_285 :: u_286 :: u_287 :: u_288 :: u_289 :: q_290 :: q_291 :: q_292 :: q_293 :: q_294 :: q_295 :: q_296 :: q_297 :: q_298 :: q_299 :: q_300 :: q_301 :: q_302 :: q_303 :: q_304 :: q_305 :: q_306 :: q_307 :: q_308 :: q_309 :: q_310 :: q_311 :: q_312 :: q_313 :: q_314 :: q_315 :: q_316 :: q_317 :: q_318 :: q_319 :: q_320 :: q_321 :: q_322 :: q_323 :: []).toArray, []⟩ wr)) :
    Code.wp Tryd.prog (.loop (rsBody 4)) Q0 ⟨(q_0 :: q_1 :: (.slice (some ⟨bk, ok, none⟩) 64 ck) :: q_3 :: q_4 :: q_5 :: q_6 :: q_7 :: q_8 :: q_9 :: q_10 :: (.slice (some ⟨gw, 0, none⟩) 64 c8) :: q_12 :: q_13 :: q_14 :: (.slice A9 8 c9) :: (.int .i64 0) :: q_17 :: q_18 :: q_19 :: q_20 :: q_21 :: q_22 :: q_23 :: q_24 :: q_25 :: q_26 :: q_27 :: q_28 :: q_29 :: q_30 :: q_31 :: q_32 :: q_33 :: q_34 :: q_35 :: q_36 :: q_37 :: q_38 :: q_39 :: q_40 :: q_41 :: q_42 :: q_43 :: q_44 :: q_45 :: q_46 :: q_47 :: q_48 :: q_49 :: q_50 :: q_51 :: q_52 :: q_53 :: q_54 :: q_55 :: q_56 :: q_57 :: q_58 :: q_59 :: q_60 :: q_61 :: q_62 :: q_63 :: q_64 :: q_65 :: q_66 :: q_67 :: q_68 :: q_69 :: q_70 :: q_71 :: q_72 :: q_73 :: q_74 :: q_75 :: q_76 :: q_77 :: q_78 :: q_79 :: q_80 :: q_81 :: q_82 :: q_83 :: q_84 :: q_85 :: q_86 :: q_87 :: q_88 :: q_89 :: q_90 :: q_91 :: q_92 :: q_93 :: q_94 :: q_95 :: q_96 :: q_97 :: q_98 :: q_99 :: q_100 :: q_101 :: q_102 :: q_103 :: q_104 :: q_105 :: q_106 :: q_107 :: q_108 :: q_109 :: q_110 :: q_111 :: q_112 :: q_113 :: q_114 :: q_115 :: q_116 :: q_117 :: q_118 :: q_119 :: q_120 :: q_121 :: q_122 :: q_123 :: q_124 :: q_125 :: q_126 :: q_127 :: q_128 :: q_129 :: q_130 :: q_131 :: q_132 :: q_133 :: q_134 :: q_135 :: q_136 :: q_137 :: q_138 :: q_139 :: q_140 :: q_141 :: q_142 :: q_143 :: q_144 :: q_145 :: q_146 :: q_147 :: q_148 :: q_149 :: q_150 :: q_151 :: q_152 :: q_153 :: q_154 :: q_155 :: q_156 :: q_157 :: q_158 :: q_159 :: q_160 :: q_161 :: q_162 :: q_163 :: q_164 :: q_165 :: q_166 :: q_167 :: q_168 :: q_169 :: q_170 :: q_171 :: q_172 :: q_173 :: q_174 :: q_175 :: q_176 :: q_177 :: q_178 :: q_179 :: q_180 :: q_181 :: q_182 :: q_183 :: q_184 :: q_185 :: q_186 :: q_187 :: q_188 :: q_189 :: q_190 :: q_191 :: q_192 :: q_193 :: q_194 :: q_195 :: q_196 :: q_197 :: q_198 :: q_199 :: q_200 :: q_201 :: q_202 :: q_203 :: q_204 :: q_205 :: q_206 :: q_207 :: q_208 :: q_209 :: q_210 :: q_211 :: q_212 :: q_213 :: q_214 :: q_215 :: q_216 :: q_217 :: q_218 :: q_219 :: q_220 :: q_221 :: q_222 :: q_223 :: q_224 :: q_225 :: q_226 :: q_227 :: q_228 :: q_229 :: q_230 :: q_231 :: q_232 :: q_233 :: q_234 :: q_235 :: q_236 :: q_237 :: q_238 :: q_239 :: q_240 :: q_241 :: q_242 :: q_243 :: q_244 :: q_245 :: q_246 :: q_247 :: q_248 :: q_249 :: q_250 :: q_251 :: q_252 :: q_253 :: q_254 :: q_255 :: q_256 :: q_257 :: q_258 :: q_259 :: q_260 :: q_261 :: q_262 :: q_263 :: q_264 :: q_265 :: q_266 :: q_267 :: q_268 :: q_269 :: q_270 :: q_271 :: q_272 :: q_273 :: q_274 :: q_275 :: q_276 :: q_277 :: q_278 :: q_279 :: q_280 :: q_281 :: q_282 :: q_283 :: q_284 :: q_285 :: q_286 :: q_287 :: q_288 :: q_289 :: q_290 :: q_291 :: q_292 :: q_293 :: q_294 :: q_295 :: q_296 :: q_297 :: q_298 :: q_299 :: q_300 :: q_301 :: q_302 :: q_303 :: q_304 :: q_305 :: q_306 :: q_307 :: q_308 :: q_309 :: q_310 :: q_311 :: q_312 :: q_313 :: q_314 :: q_315 :: q_316 :: q_317 :: q_318 :: q_319 :: q_320 :: q_321 :: q_322 :: q_323 :: []).toArray, []⟩ w9 := by
  conv => arg 2; arg 1; whnf
  go_loopw [15, 16] (fun v i wr => ∃ k : Nat, ∃ A' c', k ≤ 64 ∧ i = .int .i64 k ∧ v = .slice A' 8 c' ∧ Hid (wr.ownsRow s4 70 1 (.slice A' 8 c') 8 ((stN (chunkAt M b) st k).toList.map W)) ∧ Hid (wr.ownsRow s3 70 1 (.slice (some ⟨gw, 0, none⟩) 64 c8) 64 ((List.range 64).map fun i => W (sw (chunkAt M b) i))) ∧ Hid (KeepR g s1 s4 gm gh nb c5 c7 M xs0 w wr)) (fun v i _ => 64 - (intOf i).toNat)
  case atStart => exact ⟨0, A9, c9, by omega, rfl, rfl, (show w9.ownsRow _ _ _ _ _ _ by rw [stN_zero]; exact HV9.out), HW9, HK9⟩
  case round =>
    obtain ⟨k, A10, c10, hk, rfl, rfl, hv, hw2, hkv⟩ := hrel
    by_cases hk64 : k < 64
    · as_aux_lemma =>
      obtain ⟨gv, rfl, hgv1, hgv2, hcv⟩ := own_form hv.out (by omega)
      clear hgv1 hgv2 hcv
      have HNX := Lib.hid (stN_succ (chunkAt M b) st k)
      generalize hsn : stN (chunkAt M b) st k = s at *
      obtain ⟨sa, sb, sc, sd, se, sf, sg, sh⟩ := s
      clear hsn
      have q4 : wr.cell? ⟨gv, 4, none⟩ = some (.int .u32 (w32 se)) := (hv.out.cellAt 4 (by omega)).trans rfl
      have Q0 := Lib.hid (show wr.cell? ⟨gv, 0, none⟩ = some (.int .u32 (w32 sa)) from (hv.out.cellAt 0 (by omega)).trans rfl)
      have Q1 := Lib.hid (show wr.cell? ⟨gv, 1, none⟩ = some (.int .u32 (w32 sb)) from (hv.out.cellAt 1 (by omega)).trans rfl)
      have Q2 := Lib.hid (show wr.cell? ⟨gv, 2, none⟩ = some (.int .u32 (w32 sc)) from (hv.out.cellAt 2 (by omega)).trans rfl)
      have Q3 := Lib.hid (show wr.cell? ⟨gv, 3, none⟩ = some (.int .u32 (w32 sd)) from (hv.out.cellAt 3 (by omega)).trans rfl)
      have Q4 := Lib.hid q4
      have Q5 := Lib.hid (show wr.cell? ⟨gv, 5, none⟩ = some (.int .u32 (w32 sf)) from (hv.out.cellAt 5 (by omega)).trans rfl)
      have Q6 := Lib.hid (show wr.cell? ⟨gv, 6, none⟩ = some (.int .u32 (w32 sg)) from (hv.out.cellAt 6 (by omega)).trans rfl)
      have Q7 := Lib.hid (show wr.cell? ⟨gv, 7, none⟩ = some (.int .u32 (w32 sh)) from (hv.out.cellAt 7 (by omega)).trans rfl)
      obtain ⟨rk, hrk, hck⟩ : ∃ rk, roundKs[k]?.getD 0 = rk ∧ wr.cell? ⟨bk, ok + k, none⟩ = some (.int .u32 (w32 rk)) := by
        refine ⟨_, rfl, ?_⟩
        have h1 := HK.out.below hkv.out.low
        obtain ⟨b', o', e, _, hc⟩ := h1.2 (by omega)
        cases e
        refine hc k _ ?_
        rw [List.getElem?_map, List.getElem?_eq_getElem (by rw [roundKs_length]; exact hk64)]
        rfl
      obtain ⟨xw, hxw, hcw⟩ : ∃ xw, sw (chunkAt M b) k = xw ∧ wr.cell? ⟨gw, k, none⟩ = some (.int .u32 (w32 xw)) := by
        refine ⟨_, rfl, ?_⟩
        have h1 := hw2.out.cellAt k (by omega)
        rw [h1]
        simp [hk64, W]
      have HNX2 := Lib.hid (show stN (chunkAt M b) st (k + 1) = roundF rk xw ⟨sa, sb, sc, sd, se, sf, sg, sh⟩ by rw [HNX.out, hrk, hxw])
      have HCK := Lib.hid hck
      have HCW := Lib.hid hcw
      clear hck hcw HNX hrk hxw
      have gk : (k : Int) < 64 := by omega
      go_wp2_with fail
      refine rv26 Q4 (Lib.hid ?_)
      intros
      rename_i wr1 hd_
      have HD_wr1 := Lib.hid (hd_); clear hd_
      go_wp2_with fail
      refine rv27 (Lib.hid ((HD_wr1.out.cell _).trans Q4.out)) (Lib.hid ((HD_wr1.out.cell _).trans Q5.out)) (Lib.hid ((HD_wr1.out.cell _).trans Q6.out)) (Lib.hid ?_)
      intros
      rename_i wr2 hd_
      have HD_wr2 := Lib.hid (HD_wr1.out.trans hd_); clear hd_
      go_wp2_with fail
      refine rv28 gk (Lib.hid ((HD_wr2.out.cell _).trans Q7.out)) (Lib.hid ((HD_wr2.out.cell _).trans HCK.out)) (Lib.hid ((HD_wr2.out.cell _).trans HCW.out)) (Lib.hid ?_)
      intros
      rename_i wr3 hd_
      have HD_wr3 := Lib.hid (HD_wr2.out.trans hd_); clear hd_
      go_wp2_with fail
      refine rv29 (Lib.hid ((HD_wr3.out.cell _).trans Q0.out)) (Lib.hid ?_)
      intros
      rename_i wr4 hd_
      have HD_wr4 := Lib.hid (HD_wr3.out.trans hd_); clear hd_
      go_wp2_with fail
      refine rv30 (Lib.hid ((HD_wr4.out.cell _).trans Q0.out)) (Lib.hid ((HD_wr4.out.cell _).trans Q1.out)) (Lib.hid ((HD_wr4.out.cell _).trans Q2.out)) (Lib.hid ?_)
      intros
      rename_i wr5 hd_
      have HD_wr5 := Lib.hid (HD_wr4.out.trans hd_); clear hd_
      go_wp2_with fail
      refine rv31 (Lib.hid ((HD_wr5.out.cell _).trans Q0.out)) (Lib.hid ((HD_wr5.out.cell _).trans Q1.out)) (Lib.hid ((HD_wr5.out.cell _).trans Q2.out)) (Lib.hid ((HD_wr5.out.cell _).trans Q3.out)) (Lib.hid ((HD_wr5.out.cell _).trans Q4.out)) (Lib.hid ((HD_wr5.out.cell _).trans Q5.out)) (Lib.hid ((HD_wr5.out.cell _).trans Q6.out)) (Lib.hid ?_)
      intros
      rename_i w6 hd_
      have HD7 := Lib.hid (HD_wr5.out.trans hd_); clear hd_
      clear HD_wr1 HD_wr2 HD_wr3 HD_wr4 HD_wr5 Q0 Q1 Q2 Q3 Q4 Q5 Q6 Q7 HCK HCW q4
      go_wp2_with fail
      have hk6 := hkv.out.drawn HD7.out
      have hw6 := HD7.out.own hw2.out
      go_roundw
      case rel =>
        refine ⟨k + 1, some ⟨w6.heap.size, 0, none⟩, 8, by omega, by go_num, rfl, ?_, ?_, ?_⟩
        · show World.ownsRow _ _ _ _ _ _ _
          rw [HNX2.out, roundF, tOne, tTwo, big0, big1, chF, majF]
          exact World.ownsRow_lit (base := s4) (e := 70) (size := 1) w6 _ 8 hk6.sz (by simp [maxLen]) rfl
        · exact own_alloc hw6 _
        · exact hk6.grown (grown_alloc w6 _) (by intro k hk; cases hk)
      case measure => simp [intOf]; omega
    · obtain rfl : k = 64 := by omega
      rw [show ((64 : Nat) : Int) = 64 from rfl]
      go_wp2_with fail
      exact HEX.out hv.out hkv.out
end Go.Proofs.YtlondennhhffdaaDoor
