/- The length loop of seisinref03.Sum. -/
import Derived.Test.YtlondennhhffdaaDoorRefP
namespace Go.Proofs.YtlondennhhffdaaDoor
open Go.RowKit Go.Shelf
set_option linter.unusedVariables false

attribute [local go_sem ↓ high] add_w
attribute [local go_sem high] xor_w and_w or_w not_w shr_w shl_w wrap_b8
attribute [local go_sem ↓ high] not_sub

set_option maxRecDepth 100000 in
set_option maxHeartbeats 4000000 in
theorem rs_bits {q_0 q_1 q_2 q_3 q_4 q_5 q_6 q_10 q_11 q_12 q_13 q_14 q_15 q_16 q_17 q_18 q_19 q_20 q_21 q_22 q_23 q_24 q_25 q_26 q_27 q_28 q_29 q_30 q_31 q_32 q_33 q_34 q_35 q_36 q_37 q_38 q_39 q_40 q_41 q_42 q_43 q_44 q_45 q_46 q_47 q_48 q_49 q_50 q_51 q_52 q_53 q_54 q_55 q_56 q_57 q_58 q_59 q_60 q_61 q_62 q_63 q_64 q_65 q_66 q_67 q_68 q_69 q_70 q_71 q_72 q_73 q_74 q_75 q_76 q_77 q_78 q_79 q_80 q_81 q_82 q_83 q_84 q_85 q_86 q_87 q_88 q_89 q_90 q_91 q_92 q_93 q_94 q_95 q_96 q_97 q_98 q_99 q_100 q_101 q_102 q_103 q_104 q_105 q_106 q_107 q_108 q_109 q_110 q_111 q_112 q_113 q_114 q_115 q_116 q_117 q_118 q_119 q_120 q_121 q_122 q_123 q_124 q_125 q_126 q_127 q_128 q_129 q_130 q_131 q_132 q_133 q_134 q_135 q_136 q_137 q_138 q_139 q_140 q_141 q_142 q_143 q_144 q_145 q_146 q_147 q_148 q_149 q_150 q_151 q_152 q_153 q_154 q_155 q_156 q_157 q_158 q_159 q_160 q_161 q_162 q_163 q_164 q_165 q_166 q_167 q_168 q_169 q_170 q_171 q_172 q_173 q_174 q_175 q_176 q_177 q_178 q_179 q_180 q_181 q_182 q_183 q_184 q_185 q_186 q_187 q_188 q_189 q_190 q_191 q_192 q_193 q_194 q_195 q_196 q_197 q_198 q_199 q_200 q_201 q_202 q_203 q_204 q_205 q_206 q_207 q_208 q_209 q_210 q_211 q_212 q_213 q_214 q_215 q_216 q_217 q_218 q_219 q_220 q_221 q_222 q_223 q_224 q_225 q_226 q_227 q_228 q_229 q_230 q_231 q_232 q_233 q_234 q_235 q_236 q_237 q_238 q_239 q_240 q_241 q_242 q_243 q_244 q_245 q_246 q_247 q_248 q_249 q_250 q_251 q_252 q_253 q_254 q_255 q_256 q_257 q_258 q_259 q_260 q_261 q_262 q_263 q_264 q_265 q_266 q_267 q_268 q_269 q_270 q_271 q_272 q_273 q_274 q_275 q_276 q_277 q_278 q_279 q_280 q_281 q_282 q_283 q_284 q_285 q_286 q_287 q_288 q_289 q_290 q_291 q_292 q_293 q_294 q_295 q_296 q_297 q_298 q_299 q_300 q_301 q_302 q_303 q_304 q_305 q_306 q_307 q_308 q_309 q_310 q_311 q_312 q_313 q_314 q_315 q_316 q_317 q_318 q_319 q_320 q_321 q_322 q_323 : Value} {Q0 : Exit → Act → World → Prop} {g n j : Nat} {bs : List UInt8} {A4 : Option Addr} {c4 : Nat} {w wo : World} (hl : n ≤ 1099511627776) (hz1 : j ≤ 63)
    (hown : Hid (wo.ownsRow (g + 1) 5 1 (.slice A4 (n + 1 + j) c4) (n + 1 + j) ((bs ++ [128] ++ List.replicate j 0).map B))) (hblk : Hid (Blk wo g 26 (List.replicate 32 (B 0)))) (hbw : Hid (Below g w wo)) (hsz : Hid (g + 1 ≤ wo.heap.size))
    (HEX : Hid (∀ {u_41 u_42 u_43 u_44 u_45 u_46 u_47 u_48 u_49 u_50 u_51 u_52 : Value} {A' : Option Addr} {c' : Nat} {wr : World}, wr.ownsRow (g + 1) 5 1 (.slice A' (n + 1 + j + 8) c') (n + 1 + j + 8) ((bs ++ [128] ++ List.replicate j 0 ++ (beBytes (8 * n) 8).take 8).map B) → Blk wr g 26 (List.replicate 32 (B 0)) → Below g w wr → g + 1 ≤ wr.heap.size → Q0 (.exit 2) ⟨(q_0 :: q_1 :: q_2 :: q_3 :: q_4 :: q_5 :: q_6 :: (.slice A' (n + 1 + j + 8) c') :: (.int .u64 ((n : Int) * 8)) :: (.int .i64 (-1)) :: q_10 :: q_11 :: q_12 :: q_13 :: q_14 :: q_15 :: q_16 :: q_17 :: q_18 :: q_19 :: q_20 :: q_21 :: q_22 :: q_23 :: q_24 :: q_25 :: q_26 :: q_27 :: q_28 :: q_29 :: q_30 :: q_31 :: q_32 :: q_33 :: q_34 :: q_35 :: q_36 :: q_37 :: q_38 :: q_39 :: q_40 :: u_41 :: u_42 :: u_43 :: u_44 :: u_45 :: u_46 :: u_47 :: u_48 :: u_49 :: u_50 :: u_51 :: u_52 :: q_53 :: q_54 :: q_55 :: q_56 :: q_57 :: q_58 :: q_59 :: q_60 :: q_61 :: q_62 :: q_63 :: q_64 :: q_65 :: q_66 :: q_67 :: q_68 :: q_69 :: q_70 :: q_71 :: q_72 :: q_73 :: q_74 :: q_75 :: q_76 :: q_77 :: q_78 :: q_79 :: q_80 :: q_81 :: q_82 :: q_83 :: q_84 :: q_85 :: q_86 :: q_87 :: q_88 :: q_89 :: q_90 :: q_91 :: q_92 :: q_93 :: q_94 :: q_95 :: q_96 :: q_97 :: q_98 :: q_99 :: q_100 :: q_101 :: q_102 :: q_103 :: q_104 :: q_105 :: q_106 :: q_107 :: q_108 :: q_109 :: q_110 :: q_111 :: q_112 :: q_113 :: q_114 :: q_115 :: q_116 :: q_117 :: q_118 :: q_119 :: q_120 :: q_121 :: q_122 :: q_123 :: q_124 :: q_125 :: q_126 :: q_127 :: q_128 :: q_129 :: q_130 :: q_131 :: q_132 :: q_133 :: q_134 :: q_135 :: q_136 :: q_137 :: q_138 :: q_139 :: q_140 :: q_141 :: q_142 :: q_143 :: q_144 :: q_145 :: q_146 :: q_147 :: q_148 :: q_149 :: q_150 :: q_151 :: q_152 :: q_153 :: q_154 :: q_155 :: q_156 :: q_157 :: q_158 :: q_159 :: q_160 :: q_161 :: q_162 :: q_163 :: q_164 :: q_165 :: q_166 :: q_167 :: q_168 :: q_169 :: q_170 :: q_171 :: q_172 :: q_173 :: q_174 :: q_175 :: q_176 :: q_177 :: q_178 :: q_179 :: q_180 :: q_181 :: q_182 :: q_183 :: q_184 :: q_185 :: q_186 :: q_187 :: q_188 :: q_189 :: q_190 :: q_191 :: q_192 :: q_193 :: q_194 :: q_195 :: q_196 :: q_197 :: q_198 :: q_199 :: q_200 :: q_201 :: q_202 :: q_203 :: q_204 :: q_205 :: q_206 :: q_207 :: q_208 :: q_209 :: q_210 :: q_211 :: q_212 :: q_213 :: q_214 :: q_215 :: q_216 :: q_217 :: q_218 :: q_219 :: q_220 :: q_221 :: q_222 :: q_223 :: q_224 :: q_225 :: q_226 :: q_227 :: q_228 :: q_229 :: q_230 :: q_231 :: q_232 :: q_233 :: q_234 :: q_235 :: q_236 :: q_237 :: q_238 :: q_239 :: q_240 :: q_241 :: q_242 :: q_243 :: q_244 :: q_245 :: q_246 :: q_247 :: q_248 :: q_249 :: q_250 :: q_251 :: q_252 :: q_253 :: q_254 :: q_255 :: q_256 :: q_257 :: q_258 :: q_259 :: q_260 :: q_261 :: q_262 :: q_263 :: q_264 :: q_265 :: q_266 :: q_267 :: q_268 :: q_269 :: q_270 :: q_271 :: q_272 :: q_273 :: q_274 :: q_275 :: q_276 :: q_277 :: q_278 :: q_279 :: q_280 :: q_281 :: q_282 :: q_283 :: q_284 :: q_285 :: q_286 :: q_287 :: q_288 :: q_289 :: q_290 :: q_291 :: q_292 :: q_293 :: q_294 :: q_295 :: q_296 :: q_297 :: q_298 :: q_299 :: q_300 :: q_301 :: q_302 :: q_303 :: q_304 :: q_305 :: q_306 :: q_307 :: q_308 :: q_309 :: q_310 :: q_311 :: q_312 :: q_313 :: q_314 :: q_315 :: q_316 :: q_317 :: q_318 :: q_319 :: q_320 :: q_321 :: q_322 :: q_323 :: []).toArray, []⟩ wr)) :
    Code.wp Tryd.prog (.loop (rsBody 1)) Q0 ⟨(q_0 :: q_1 :: q_2 :: q_3 :: q_4 :: q_5 :: q_6 :: (.slice A4 (n + 1 + j) c4) :: (.int .u64 ((n : Int) * 8)) :: (.int .i64 7) :: q_10 :: q_11 :: q_12 :: q_13 :: q_14 :: q_15 :: q_16 :: q_17 :: q_18 :: q_19 :: q_20 :: q_21 :: q_22 :: q_23 :: q_24 :: q_25 :: q_26 :: q_27 :: q_28 :: q_29 :: q_30 :: q_31 :: q_32 :: q_33 :: q_34 :: q_35 :: q_36 :: q_37 :: q_38 :: q_39 :: q_40 :: q_41 :: q_42 :: q_43 :: q_44 :: q_45 :: q_46 :: q_47 :: q_48 :: q_49 :: q_50 :: q_51 :: q_52 :: q_53 :: q_54 :: q_55 :: q_56 :: q_57 :: q_58 :: q_59 :: q_60 :: q_61 :: q_62 :: q_63 :: q_64 :: q_65 :: q_66 :: q_67 :: q_68 :: q_69 :: q_70 :: q_71 :: q_72 :: q_73 :: q_74 :: q_75 :: q_76 :: q_77 :: q_78 :: q_79 :: q_80 :: q_81 :: q_82 :: q_83 :: q_84 :: q_85 :: q_86 :: q_87 :: q_88 :: q_89 :: q_90 :: q_91 :: q_92 :: q_93 :: q_94 :: q_95 :: q_96 :: q_97 :: q_98 :: q_99 :: q_100 :: q_101 :: q_102 :: q_103 :: q_104 :: q_105 :: q_106 :: q_107 :: q_108 :: q_109 :: q_110 :: q_111 :: q_112 :: q_113 :: q_114 :: q_115 :: q_116 :: q_117 :: q_118 :: q_119 :: q_120 :: q_121 :: q_122 :: q_123 :: q_124 :: q_125 :: q_126 :: q_127 :: q_128 :: q_129 :: q_130 :: q_131 :: q_132 :: q_133 :: q_134 :: q_135 :: q_136 :: q_137 :: q_138 :: q_139 :: q_140 :: q_141 :: q_142 :: q_143 :: q_144 :: q_145 :: q_146 :: q_147 :: q_148 :: q_149 :: q_150 :: q_151 :: q_152 :: q_153 :: q_154 :: q_155 :: q_156 :: q_157 :: q_158 :: q_159 :: q_160 :: q_161 :: q_162 :: q_163 :: q_164 :: q_165 :: q_166 :: q_167 :: q_168 :: q_169 :: q_170 :: q_171 :: q_172 :: q_173 :: q_174 :: q_175 :: q_176 :: q_177 :: q_178 :: q_179 :: q_180 :: q_181 :: q_182 :: q_183 :: q_184 :: q_185 :: q_186 :: q_187 :: q_188 :: q_189 :: q_190 :: q_191 :: q_192 :: q_193 :: q_194 :: q_195 :: q_196 :: q_197 :: q_198 :: q_199 :: q_200 :: q_201 :: q_202 :: q_203 :: q_204 :: q_205 :: q_206 :: q_207 :: q_208 :: q_209 :: q_210 :: q_211 :: q_212 :: q_213 :: q_214 :: q_215 :: q_216 :: q_217 :: q_218 :: q_219 :: q_220 :: q_221 :: q_222 :: q_223 :: q_224 :: q_225 :: q_226 :: q_227 :: q_228 :: q_229 :: q_230 :: q_231 :: q_232 :: q_233 :: q_234 :: q_235 :: q_236 :: q_237 :: q_238 :: q_239 :: q_240 :: q_241 :: q_242 :: q_243 :: q_244 :: q_245 :: q_246 :: q_247 :: q_248 :: q_249 :: q_250 :: q_251 :: q_252 :: q_253 :: q_254 :: q_255 :: q_256 :: q_257 :: q_258 :: q_259 :: q_260 :: q_261 :: q_262 :: q_263 :: q_264 :: q_265 :: q_266 :: q_267 :: q_268 :: q_269 :: q_270 :: q_271 :: q_272 :: q_273 :: q_274 :: q_275 :: q_276 :: q_277 :: q_278 :: q_279 :: q_280 :: q_281 :: q_282 :: q_283 :: q_284 :: q_285 :: q_286 :: q_287 :: q_288 :: q_289 :: q_290 :: q_291 :: q_292 :: q_293 :: q_294 :: q_295 :: q_296 :: q_297 :: q_298 :: q_299 :: q_300 :: q_301 :: q_302 :: q_303 :: q_304 :: q_305 :: q_306 :: q_307 :: q_308 :: q_309 :: q_310 :: q_311 :: q_312 :: q_313 :: q_314 :: q_315 :: q_316 :: q_317 :: q_318 :: q_319 :: q_320 :: q_321 :: q_322 :: q_323 :: []).toArray, []⟩ wo := by
  conv => arg 2; arg 1; whnf
  have b0 : (n : Int) * 8 ≤ 18446744073709551615 := by omega
  go_loopw [7, 9] (fun v i wr => ∃ k : Nat, ∃ A' c', k ≤ 8 ∧ i = .int .i64 (7 - (k : Int)) ∧ v = .slice A' (n + 1 + j + k) c' ∧ Hid (wr.ownsRow (g + 1) 5 1 (.slice A' (n + 1 + j + k) c') (n + 1 + j + k) ((bs ++ [128] ++ List.replicate j 0 ++ (beBytes (8 * n) 8).take k).map B)) ∧ Hid (Blk wr g 26 (List.replicate 32 (B 0))) ∧ Hid (Below g w wr) ∧ Hid (g + 1 ≤ wr.heap.size)) (fun v i _ => (intOf i + 1).toNat)
  case atStart => exact ⟨0, A4, c4, by omega, rfl, rfl, (show wo.ownsRow _ _ _ _ _ _ by simpa using hown.out), hblk, hbw, hsz⟩
  case round =>
    clear hown hblk hbw hsz
    obtain ⟨k, A5, c5, hk, rfl, rfl, hown, hblk, hbw, hsz⟩ := hrel
    by_cases hlt : k < 8
    · as_aux_lemma =>
      have hbyte : ((n : Int) * 8) / 2 ^ (8 * (7 - k)) % 256 = b8 (beByte (8 * n) 8 k) := by
        have := beByte_div (8 * n) 8 k
        rw [show (n : Int) * 8 = ((8 * n : Nat) : Int) by omega]
        exact this
      have s0 : 0 ≤ 8 * (7 - (k : Int)) := by omega
      have s1 : 8 * (7 - (k : Int)) ≤ 63 := by omega
      have s2 : (8 * (7 - (k : Int))).toNat = 8 * (7 - k) := by omega
      have HSN := Lib.hid (show (beBytes (8 * n) 8).take (k + 1) = (beBytes (8 * n) 8).take k ++ [beByte (8 * n) 8 k] by
        rw [beBytes, ← List.map_take, ← List.map_take, List.take_range, List.take_range, Nat.min_eq_left (by omega), Nat.min_eq_left (by omega), List.range_succ]; simp)
      go_wp2_with (at_builtin; refine wpl_app1 rfl rfl el_u8 hown.out rfl (m := 1) rfl rfl ?_ ?_ ?_ hsz.out ?_)
      · simp [Value.oneCell']
      · omega
      · omega
      · intro A6 c6 w6 ho hg _
        have hb3 := below_grown hbw.out hg (by have := hsz.out; omega) (fun j hj => by have := own_from hown.out j hj; omega)
        have HO5 := Lib.hid ho
        have HB5 := Lib.hid (hblk.out.grown hg (fun e => by have := own_from hown.out g e.symm; omega))
        have HBW5 := Lib.hid hb3
        have HSZ5 := Lib.hid (Nat.le_trans hsz.out hg.size)
        clear ho hb3 hg
        go_wp2_with fail
        go_roundw
        case rel =>
          refine ⟨k + 1, A6, c6, by omega, by go_num, rfl, ?_, HB5, HBW5, HSZ5⟩
          have h5 := HO5.out
          show w6.ownsRow _ _ _ _ _ _
          rw [HSN.out, show n + 1 + j + (k + 1) = n + 1 + j + k + 1 by omega, ← List.append_assoc]
          simpa [show Value.int .u8 (b8 (beByte (8 * n) 8 k)) = B (beByte (8 * n) 8 k) from rfl] using h5
        case measure => simp [intOf]; omega
    · obtain rfl : k = 8 := by omega
      rw [show (7 - ((8 : Nat) : Int)) = -1 by omega]
      go_wp2_with fail
      exact HEX.out hown.out hblk.out hbw.out hsz.out
end Go.Proofs.YtlondennhhffdaaDoor
