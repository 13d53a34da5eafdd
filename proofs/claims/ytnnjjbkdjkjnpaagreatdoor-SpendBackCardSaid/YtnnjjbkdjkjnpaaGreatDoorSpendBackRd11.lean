/- The loop over the blocks of seisinref03.Sum. -/
import Derived.Test.YtnnjjbkdjkjnpaaGreatDoorSpendBackRd10
import Derived.Test.YtnnjjbkdjkjnpaaGreatDoorSpendBackRd7
set_option linter.unusedSimpArgs false
set_option linter.unusedVariables false
set_option maxRecDepth 100000
set_option maxHeartbeats 16000000
namespace Go.Proofs.YtnnjjbkdjkjnpaaGreatDoor
open Go.RowKit Go.Shelf
attribute [local go_sem ↓ high] add_w
attribute [local go_sem high] xor_w and_w or_w not_w shr_w shl_w wrap_b8
attribute [local go_sem ↓ high] not_sub
theorem rs_at {o0 o3 o4 o5 o6 o8 o9 o11 o12 o13 o14 o15 o16 o17 o18 o19 o20 o21 o22 o23 o24 o25 o26 o27 o28 o29 o30 o31 o32 o33 o34 o35 o36 o37 o38 o39 o40 o41 o42 o43 o44 o45 o46 o47 o48 o49 o50 o51 o52 o53 o54 o55 o56 o57 o58 o59 o60 o61 o62 o63 o64 o65 o66 o67 o68 o69 o70 o71 o72 o73 o74 o75 o76 o77 o78 o79 o80 o81 o82 o83 o84 o85 o86 o87 o88 o89 o90 o91 o92 o93 o94 o95 o96 o97 o98 o99 o100 o101 o102 o103 o104 o105 o106 o107 o108 o109 o110 o111 o112 o113 o114 o115 o116 o117 o118 o119 o120 o121 o122 o123 o124 o125 o126 o127 o128 o129 o130 o131 o132 o133 o134 o135 o136 o137 o138 o139 o140 o141 o142 o143 o144 o145 o146 o147 o148 o149 o150 o151 o152 o153 o154 o155 o156 o157 o158 o159 o160 o161 o162 o163 o164 o165 o166 o167 o168 o169 o170 o171 o172 o173 o174 o175 o176 o177 o178 o179 o180 o181 o182 o183 o184 o185 o186 o187 o188 o189 o190 o191 o192 o193 o194 o195 o196 o197 o198 o199 o200 o201 o202 o203 o204 o205 o206 o207 o208 o209 o210 o211 o212 o213 o214 o215 o216 o217 o218 o219 o220 o221 o222 o223 o224 o225 o226 o227 o228 o229 o230 o231 o232 o233 o234 o235 o236 o237 o238 o239 o240 o241 o242 o243 o244 o245 o246 o247 o248 o249 o250 o251 o252 o253 o254 o255 o256 o257 o258 o259 o260 o261 o262 o263 o264 o265 o266 o267 o268 o269 o270 o271 o272 o273 o274 o275 o276 o277 o278 o279 o280 o281 o282 o283 o284 o285 o286 o287 o288 o289 o290 o291 o292 o293 o294 o295 o296 o297 o298 o299 o300 o301 o302 o303 o304 o305 o306 o307 o308 o309 o310 o311 o312 o313 o314 o315 o316 o317 o318 o319 o320 o321 o322 o323 : Value} {Q0 : Exit → Act → World → Prop} {g s1 s2 gm gh nb c5 c7 bk ok ck : Nat} {M : List UInt8} {w w7 : World} (HNB : Hid (M.length = 64 * nb)) (hnb2 : nb ≤ 1000000000000)
  (HK : Hid (Sl w g 1 (some ⟨bk, ok, none⟩) 64 (roundKs.map W))) (HKEEP : Hid (KeepR g s1 s2 gm gh nb c5 c7 M (firstSt.toList.map W) w w7))
  (HEX : Hid (∀ {u_11 u_12 u_13 u_14 u_15 u_16 u_17 u_18 u_19 u_20 u_21 u_22 u_56 u_57 u_58 u_59 u_60 u_61 u_62 u_63 u_64 u_65 u_66 u_67 u_68 u_69 u_70 u_71 u_72 u_73 u_74 u_75 u_76 u_77 u_78 u_79 u_80 u_81 u_82 u_83 u_84 u_85 u_86 u_87 u_88 u_89 u_90 u_91 u_92 u_93 u_94 u_95 u_96 u_97 u_98 u_99 u_100 u_101 u_102 u_103 u_104 u_105 u_106 u_107 u_108 u_109 u_110 u_111 u_112 u_113 u_114 u_115 u_116 u_117 u_118 u_119 u_120 u_121 u_122 u_123 u_124 u_125 u_126 u_127 u_128 u_129 u_130 u_131 u_132 u_133 u_134 u_135 u_136 u_137 u_138 u_139 u_140 u_141 u_142 u_143 u_144 u_145 u_146 u_147 u_148 u_149 u_150 u_151 u_152 u_153 u_154 u_155 u_156 u_157 u_158 u_159 u_160 u_161 u_162 u_163 u_164 u_165 u_166 u_167 u_168 u_169 u_170 u_171 u_172 u_173 u_174 u_175 u_176 u_177 u_178 u_179 u_180 u_181 u_182 u_183 u_184 u_185 u_186 u_187 u_188 u_189 u_190 u_191 u_192 u_193 u_194 u_195 u_196 u_197 u_198 u_199 u_200 u_201 u_202 u_203 u_204 u_205 u_206 u_207 u_208 u_209 u_210 u_211 u_212 u_213 u_214 u_215 u_216 u_217 u_218 u_219 u_220 u_221 u_222 u_223 u_224 u_225 u_226 u_227 u_228 u_229 u_230 u_231 u_232 u_233 u_234 u_235 u_236 u_237 u_238 u_239 u_240 u_241 u_242 u_243 u_244 u_245 u_246 u_247 u_248 u_249 u_250 u_251 u_252 u_253 u_254 u_255 u_256 u_257 u_258 u_259 u_260 u_261 u_262 u_263 u_264 u_265 u_266 u_267 u_268 u_269 u_270 u_271 u_272 u_273 u_274 u_275 u_276 u_277 u_278 u_279 u_280 u_281 u_282 u_283 u_284 u_285 u_286 u_287 u_288 u_289 u_290 u_291 u_292 u_293 u_294 u_295 u_296 u_297 u_298 u_299 u_300 u_301 u_302 u_303 u_304 u_305 : Value} {wr : World}, KeepR g s1 s2 gm gh nb c5 c7 M ((stB M nb).toList.map W) w wr → Q0 (.exit 4) ⟨(o0 :: (.slice (some ⟨gh, 0, none⟩) 8 c7) :: (.slice (some ⟨bk, ok, none⟩) 64 ck) :: o3 :: o4 :: o5 :: o6 :: (.slice (some ⟨gm, 0, none⟩) (64 * nb) c5) :: o8 :: o9 :: (.int .i64 (64 * (nb : Int))) :: u_11 :: u_12 :: u_13 :: u_14 :: u_15 :: u_16 :: u_17 :: u_18 :: u_19 :: u_20 :: u_21 :: u_22 :: o23 :: o24 :: o25 :: o26 :: o27 :: o28 :: o29 :: o30 :: o31 :: o32 :: o33 :: o34 :: o35 :: o36 :: o37 :: o38 :: o39 :: o40 :: o41 :: o42 :: o43 :: o44 :: o45 :: o46 :: o47 :: o48 :: o49 :: o50 :: o51 :: o52 :: o53 :: o54 :: o55 :: u_56 :: u_57 :: u_58 :: u_59 :: u_60 :: u_61 :: u_62 :: u_63 :: u_64 :: u_65 :: u_66 :: u_67 :: u_68 :: u_69 :: u_70 :: u_71 :: u_72 :: u_73 :: u_74 :: u_75 :: u_76 :: u_77 :: u_78 :: u_79 :: u_80 :: u_81 :: u_82 :: u_83 :: u_84 :: u_85 :: u_86 :: u_87 :: u_88 :: u_89 :: u_90 :: u_91 :: u_92 :: u_93 :: u_94 :: u_95 :: u_96 :: u_97 :: u_98 :: u_99 :: u_100 :: u_101 :: u_102 :: u_103 :: u_104 :: u_105 :: u_106 :: u_107 :: u_108 :: u_109 :: u_110 :: u_111 :: u_112 :: u_113 :: u_114 :: u_115 :: u_116 :: u_117 :: u_118 :: u_119 :: u_120 :: u_121 :: u_122 :: u_123 :: u_124 :: u_125 :: u_126 :: u_127 :: u_128 :: u_129 :: u_130 :: u_131 :: u_132 :: u_133 :: u_134 :: u_135 :: u_136 :: u_137 :: u_138 :: u_139 :: u_140 :: u_141 :: u_142 :: u_143 :: u_144 :: u_145 :: u_146 :: u_147 :: u_148 :: u_149 :: u_150 :: u_151 :: u_152 :: u_153 :: u_154 :: u_155 :: u_156 :: u_157 :: u_158 :: u_159 :: u_160 :: u_161 :: u_162 :: u_163 :: u_164 :: u_165 :: u_166 :: u_167 :: u_168 :: u_169 :: u_170 :: u_171 :: u_172 :: u_173 :: u_174 :: u_175 :: u_176 :: u_177 :: u_178 :: u_179 :: u_180 :: u_181 :: u_182 :: u_183 :: u_184 :: u_185 :: u_186 :: u_187 :: u_188 :: u_189 :: u_190 :: u_191 :: u_192 :: u_193 :: u_194 :: u_195 :: u_196 :: u_197 :: u_198 :: u_199 :: u_200 :: u_201 :: u_202 :: u_203 :: u_204 :: u_205 :: u_206 :: u_207 :: u_208 :: u_209 :: u_210 :: u_211 :: u_212 :: u_213 :: u_214 :: u_215 :: u_216 :: u_217 :: u_218 :: u_219 :: u_220 :: u_221 :: u_222 :: u_223 :: u_224 :: u_225 :: u_226 :: u_227 :: u_228 :: u_229 :: u_230 :: u_231 :: u_232 :: u_233 :: u_234 :: u_235 :: u_236 :: u_237 :: u_238 :: u_239 :: u_240 :: u_241 :: u_242 :: u_243 :: u_244 :: u_245 :: u_246 :: u_247 :: u_248 :: u_249 :: u_250 :: u_251 :: u_252 :: u_253 :: u_254 :: u_255 :: u_256 :: u_257 :: u_258 :: u_259 :: u_260 :: u_261 :: u_262 :: u_263 :: u_264 :: u_265 :: u_266 :: u_267 :: u_268 :: u_269 :: u_270 :: u_271 :: u_272 :: u_273 :: u_274 :: u_275 :: u_276 :: u_277 :: u_278 :: u_279 :: u_280 :: u_281 :: u_282 :: u_283 :: u_284 :: u_285 :: u_286 :: u_287 :: u_288 :: u_289 :: u_290 :: u_291 :: u_292 :: u_293 :: u_294 :: u_295 :: u_296 :: u_297 :: u_298 :: u_299 :: u_300 :: u_301 :: u_302 :: u_303 :: u_304 :: u_305 :: o306 :: o307 :: o308 :: o309 :: o310 :: o311 :: o312 :: o313 :: o314 :: o315 :: o316 :: o317 :: o318 :: o319 :: o320 :: o321 :: o322 :: o323 :: []).toArray, []⟩ wr)) :
  Code.wp Tryz.prog (.loop (rsBody 2)) Q0 ⟨(o0 :: (.slice (some ⟨gh, 0, none⟩) 8 c7) :: (.slice (some ⟨bk, ok, none⟩) 64 ck) :: o3 :: o4 :: o5 :: o6 :: (.slice (some ⟨gm, 0, none⟩) (64 * nb) c5) :: o8 :: o9 :: (.int .i64 0) :: o11 :: o12 :: o13 :: o14 :: o15 :: o16 :: o17 :: o18 :: o19 :: o20 :: o21 :: o22 :: o23 :: o24 :: o25 :: o26 :: o27 :: o28 :: o29 :: o30 :: o31 :: o32 :: o33 :: o34 :: o35 :: o36 :: o37 :: o38 :: o39 :: o40 :: o41 :: o42 :: o43 :: o44 :: o45 :: o46 :: o47 :: o48 :: o49 :: o50 :: o51 :: o52 :: o53 :: o54 :: o55 :: o56 :: o57 :: o58 :: o59 :: o60 :: o61 :: o62 :: o63 :: o64 :: o65 :: o66 :: o67 :: o68 :: o69 :: o70 :: o71 :: o72 :: o73 :: o74 :: o75 :: o76 :: o77 :: o78 :: o79 :: o80 :: o81 :: o82 :: o83 :: o84 :: o85 :: o86 :: o87 :: o88 :: o89 :: o90 :: o91 :: o92 :: o93 :: o94 :: o95 :: o96 :: o97 :: o98 :: o99 :: o100 :: o101 :: o102 :: o103 :: o104 :: o105 :: o106 :: o107 :: o108 :: o109 :: o110 :: o111 :: o112 :: o113 :: o114 :: o115 :: o116 :: o117 :: o118 :: o119 :: o120 :: o121 :: o122 :: o123 :: o124 :: o125 :: o126 :: o127 :: o128 :: o129 :: o130 :: o131 :: o132 :: o133 :: o134 :: o135 :: o136 :: o137 :: o138 :: o139 :: o140 :: o141 :: o142 :: o143 :: o144 :: o145 :: o146 :: o147 :: o148 :: o149 :: o150 :: o151 :: o152 :: o153 :: o154 :: o155 :: o156 :: o157 :: o158 :: o159 :: o160 :: o161 :: o162 :: o163 :: o164 :: o165 :: o166 :: o167 :: o168 :: o169 :: o170 :: o171 :: o172 :: o173 :: o174 :: o175 :: o176 :: o177 :: o178 :: o179 :: o180 :: o181 :: o182 :: o183 :: o184 :: o185 :: o186 :: o187 :: o188 :: o189 :: o190 :: o191 :: o192 :: o193 :: o194 :: o195 :: o196 :: o197 :: o198 :: o199 :: o200 :: o201 :: o202 :: o203 :: o204 :: o205 :: o206 :: o207 :: o208 :: o209 :: o210 :: o211 :: o212 :: o213 :: o214 :: o215 :: o216 :: o217 :: o218 :: o219 :: o220 :: o221 :: o222 :: o223 :: o224 :: o225 :: o226 :: o227 :: o228 :: o229 :: o230 :: o231 :: o232 :: o233 :: o234 :: o235 :: o236 :: o237 :: o238 :: o239 :: o240 :: o241 :: o242 :: o243 :: o244 :: o245 :: o246 :: o247 :: o248 :: o249 :: o250 :: o251 :: o252 :: o253 :: o254 :: o255 :: o256 :: o257 :: o258 :: o259 :: o260 :: o261 :: o262 :: o263 :: o264 :: o265 :: o266 :: o267 :: o268 :: o269 :: o270 :: o271 :: o272 :: o273 :: o274 :: o275 :: o276 :: o277 :: o278 :: o279 :: o280 :: o281 :: o282 :: o283 :: o284 :: o285 :: o286 :: o287 :: o288 :: o289 :: o290 :: o291 :: o292 :: o293 :: o294 :: o295 :: o296 :: o297 :: o298 :: o299 :: o300 :: o301 :: o302 :: o303 :: o304 :: o305 :: o306 :: o307 :: o308 :: o309 :: o310 :: o311 :: o312 :: o313 :: o314 :: o315 :: o316 :: o317 :: o318 :: o319 :: o320 :: o321 :: o322 :: o323 :: []).toArray, []⟩ w7 := by
 conv => arg 2; arg 1; whnf
 go_loopw [10] (fun i wr => ∃ b : Nat, b ≤ nb ∧ i = .int .i64 (64 * (b : Int)) ∧ Hid (KeepR g s1 s2 gm gh nb c5 c7 M ((stB M b).toList.map W) w wr)) (fun i _ => 64 * nb - (intOf i).toNat)
 case atStart => exact ⟨0, by omega, rfl, (show KeepR _ _ _ _ _ _ _ _ _ _ _ _ by rw [stB_zero]; exact HKEEP.out)⟩
 case round =>
  obtain ⟨b, hb, rfl, hkeep⟩ := hrel
  by_cases hlt : b < nb
  ·go_wp2_with fail
   obtain ⟨wb, rfl⟩ : ∃ wb : World, wb = wr := ⟨_, rfl⟩
   obtain ⟨s3, hs3⟩ : ∃ s3, s3 = wb.heap.size := ⟨_, rfl⟩
   have hk3 := hkeep.out.more (s3 := s3) (by rw [hs3]; exact hkeep.out.sz) (by rw [hs3]; exact Nat.le_refl _)
   have HK3 := kp hk3
   have HS23 := kp (show s2 ≤ s3 by rw [hs3]; exact hkeep.out.sz)
   clear hk3
   clear hs3
   refine rs_w HNB hlt hnb2 HK3 (kp ?_)
   intros
   rename_i A8 c8 wr hw_ hkp_
   have hw := kp hw_; have hkp := kp hkp_; clear hw_ hkp_
   obtain ⟨gw, rfl, hgw1, hgw2, hcw⟩ := own_form hw.out (by omega)
   have HGW := kp hgw2
   clear hgw1 hgw2 hcw
   obtain ⟨wc, rfl⟩ : ∃ wc : World, wc = wr := ⟨_, rfl⟩
   obtain ⟨st, hst⟩ : ∃ st, st = stB M b := ⟨_, rfl⟩
   have hkp0 := hkp.out
   rw [← hst] at hkp0
   have HST := kp hst; clear hst
   obtain ⟨s4, hs4⟩ : ∃ s4, s4 = wc.heap.size := ⟨_, rfl⟩
   have HS4 := kp hs4.symm; clear hs4
   have hkp4 := hkp0.more (s3 := s4) (by rw [← HS4.out]; exact hkp0.sz) (by rw [HS4.out]; exact Nat.le_refl _)
   have HWD2 := kp (all_words st.toList)
   have HO4 := kp (show (wc.alloc (.cells #[] 175)).ownsRow s4 175 1 (.slice (some ⟨wc.heap.size, 0, none⟩) 0 0) 0 [] by
    exact World.ownsRow_lit (base := s4) (e := 175) (size := 1) wc #[] 0 (by rw [HS4.out]; exact Nat.le_refl _) (by simp [maxLen]) rfl)
   have HA4 := kp ((Sl.of_own hkp4.hs).alloc (Nat.le_refl _) (.cells #[] 175))
   have HZ4 := kp (show s4 ≤ (wc.alloc (.cells #[] 175)).heap.size by simp; have := HS4.out; omega)
   have HK4 := kp (hkp4.grown (grown_alloc wc (.cells #[] 175)) (by intro k hk; cases hk))
   have HW4 := kp (own_alloc hw.out (.cells #[] 175))
   have HS34 := kp (show s3 ≤ s4 by rw [← HS4.out]; exact hkp0.sz)
   clear hkp0 hkp4
   try rw [show ((64 : Nat) : Int) = 64 from rfl]
   go_wp2_with (at_builtin; refine wpl_apps rfl rfl el_u32 HO4.out rfl HA4.out rfl HWD2.out ?_ ?_ HZ4.out ?_)
   ·omega
   ·omega
   ·intro A9 c9 w9 ho hg _
    try rw [Nat.zero_add] at ho
    try rw [Nat.zero_add]
    try rw [List.nil_append] at ho
    have HV9 := kp ho
    have HK9 := kp (HK4.out.grown hg (by intro k hk; cases hk; rw [HS4.out]; exact Nat.le_refl _))
    have HW9 := kp (own_kept HW4.out hg (by intro k hk; cases hk; have := HGW.out; simp; omega))
    clear ho hg HO4 HA4 HZ4 HK4 HW4
    go_wp2_with fail
    refine rs_v hlt hnb2 HK HV9 HW9 HK9 (kp (by rw [← HS4.out]; exact HGW.out)) (kp ?_)
    intros
    rename_i A10 c10 wr hv_ hkv_
    have hv := kp hv_; have hkv := kp hkv_; clear hv_ hkv_
    obtain ⟨gv, rfl, hgv1, hgv2, hcv⟩ := own_form hv.out (by omega)
    have HGV := kp hgv1
    clear hgv1 hgv2 hcv
    obtain ⟨wd, rfl⟩ : ∃ wd : World, wd = wr := ⟨_, rfl⟩
    try rw [show ((64 : Nat) : Int) = 64 from rfl]
    have HCE := kp (show stB M (b + 1) = st.add (stN (chunkAt M b) st 64) by rw [stB_succ, ← HST.out, compress_eq])
    generalize hsn : stN (chunkAt M b) st 64 = sn at *
    clear hsn
    go_wp2_with fail
    refine rs_add HGV hv hkv (kp ?_)
    intros
    rename_i xs wr hup_ hkv_
    have hup := kp hup_; have hkv := kp hkv_; clear hup_ hkv_
    have hxs := upTo8_all hup.out
    rw [← HCE.out] at hxs
    have hkf := (hkv.out.less (s2 := s2) (by have := HS23.out; have := HS34.out; omega) HKEEP.out.lm HKEEP.out.lh HKEEP.out.lg)
    rw [hxs] at hkf
    have HKF := kp hkf
    clear hkf hxs hup hv hkv
    go_wp2_with fail
    go_roundw
    case rel => exact ⟨b + 1, by omega, by go_num, HKF⟩
    case measure => simp [intOf]; omega
  ·obtain rfl : b = nb := by omega
   go_wp2_with fail
   exact HEX.out hkeep.out
end Go.Proofs.YtnnjjbkdjkjnpaaGreatDoor
namespace Go.Proofs.YtnnjjbkdjkjnpaaGreatDoor
open Go.RowKit Go.Shelf
attribute [local go_sem ↓ high] add_w
attribute [local go_sem high] xor_w and_w or_w not_w shr_w shl_w wrap_b8
attribute [local go_sem ↓ high] not_sub
theorem rsum_any (A Ah Ak : Option Addr) (n c ch ck : Nat) (bs : List UInt8) (w : World) (hb : Sl w w.heap.size 1 A n (bs.map B)) (hh : Sl w w.heap.size 1 Ah 8 (firstSt.toList.map W)) (hk : Sl w w.heap.size 1 Ak 64 (roundKs.map W)) (hl : n ≤ 1099511627776) :
  Calls Tryz.prog 87 #[.slice A n c, .slice Ah 8 ch, .slice Ak 64 ck] w fun e w' => e = .returned (.agg ((sha bs).map B).toArray) ∧ Below w.heap.size w w' := by
 have HB := kp hb; have HH := kp hh; have HK := kp hk
 have hL : bs.length = n := by have := hb.1; simpa using this
 have HL := kp hL
 obtain ⟨bk, ok, rfl, hbk, -⟩ := hk.2 (by omega)
 clear hb hh hk hL hbk
 go_enter Tryz.func87, Tryz.ntmps87
 go_wp2_with (first | (with_reducible refine wpl_alloc (o := ⟨some 6, _, _, _, _, _⟩) rfl rfl zero_id ?_))
 intro w1 hb1 hbw1 hsz1
 have HB1 := kp hb1; clear hb1
 have HBW1 := kp hbw1; clear hbw1
 have HS1 := kp (HB.out.below HBW1.out)
 clear HB
 generalize hgd : w.heap.size = g at *
 have HG := kp hgd; clear hgd
 have HBY := kp (all_bytes bs)
 have hown0 : (w1.alloc (.cells #[] 5)).ownsRow (g + 1) 5 1 (.slice (some ⟨w1.heap.size, 0, none⟩) 0 0) 0 [] := World.ownsRow_lit w1 #[] 0 (by rw [hsz1]; exact Nat.le_refl _) (by simp [maxLen]) rfl
 have HO0 := kp hown0; clear hown0
 have HA0 := kp (HS1.out.alloc (by rw [hsz1]; omega) (.cells #[] 5))
 have HSZ1 := kp hsz1; clear hsz1
 have HZZ := kp (show g + 1 ≤ (w1.alloc (.cells #[] 5)).heap.size by simp; have := HSZ1.out; omega)
 have HBA := kp (HBW1.out.alloc (by have := HSZ1.out; omega) (.cells #[] 5))
 have HBB := kp (HB1.out.alloc (.cells #[] 5))
 go_wp2_with (at_builtin; refine wpl_apps rfl rfl el_u8 HO0.out rfl HA0.out rfl HBY.out ?_ ?_ HZZ.out ?_)
 ·omega
 ·omega
 ·intro A2 c2 w2 ho hg _
  have HO2 := kp ho
  have HB2 := kp (HBB.out.grown hg (by simp; have := HSZ1.out; omega))
  have HBW2 := kp (HBA.out.grown hg (by have := HZZ.out; omega) (by intro k hk; cases hk; have := HSZ1.out; omega))
  have HSZ2 := kp (Nat.le_trans HZZ.out hg.size)
  clear ho hg HO0 HA0 HZZ HBA HBB HB1 HBW1 HSZ1 HS1
  try rw [Nat.zero_add] at HO2
  try rw [Nat.zero_add]
  try rw [List.nil_append] at HO2
  go_wp2_with (at_builtin; refine wpl_app1 rfl rfl el_u8 HO2.out rfl (m := 1) rfl rfl ?_ ?_ ?_ HSZ2.out ?_)
  ·simp [Value.oneCell']
  ·omega
  ·omega
  ·intro A3 c3 w3 ho hg _
   have hb3 := below_grown HBW2.out hg (by have := HSZ2.out; omega) (fun j hj => by have := own_from HO2.out j hj; omega)
   have HO3 := kp ho
   have HB3 := kp (HB2.out.grown hg (fun e => by have := own_from HO2.out g e.symm; omega))
   have HBW3 := kp hb3
   have HSZ3 := kp (Nat.le_trans HSZ2.out hg.size)
   clear ho hb3 hg HO2 HB2 HBW2 HSZ2
   have hz1 : zerosFor n ≤ 63 := by unfold zerosFor; omega
   have HZ := kp (zeros_lt n)
   have HZE := kp (zeros_eq n)
   generalize hZF : zerosFor n = Z at *
   have HZF := kp hZF; clear hZF
   go_wp2_with fail
   refine rs_pad (kp (fun j hj => by have := HZ.out j hj; omega)) (kp (by have := HZE.out; omega)) hl hz1 (kp (by simpa [i128] using HO3.out)) HB3 HBW3 HSZ3 (kp ?_)
   intros
   rename_i A4 c4 wo hown_ hblk_ hbw_ hsz_
   have hown := kp hown_; have hblk := kp hblk_; have hbw := kp hbw_; have hsz := kp hsz_; clear hown_ hblk_ hbw_ hsz_
   go_wp2_with fail
   refine rs_bits hl hz1 hown hblk hbw hsz (kp ?_)
   clear hown hblk hbw hsz
   intros
   rename_i A5 c5 wr hown_ hblk_ hbw_ hsz_
   have hown := kp hown_; have hblk := kp hblk_; have hbw := kp hbw_; have hsz := kp hsz_; clear hown_ hblk_ hbw_ hsz_
   have hlen : n + 1 + Z + 8 = (padded bs).length := by rw [padded_length, HL.out, HZF.out]; omega
   have hpad : bs ++ [128] ++ List.replicate Z 0 ++ (beBytes (8 * n) 8).take 8 = padded bs := by
    rw [padded, HL.out, HZF.out, List.take_of_length_le (by rw [beBytes_length]; omega)]
   obtain ⟨nb, hnb⟩ : ∃ nb, (padded bs).length = 64 * nb := ⟨(padded bs).length / 64, by have := padded_mod bs; omega⟩
   have HNB := kp hnb
   rw [hnb] at hlen
   have hnb2 : nb ≤ 1000000000000 := by omega
   have HOM := hown.out
   rw [hpad] at HOM
   obtain ⟨gm, rfl, hgm1, hgm2, hcm⟩ := own_form HOM (by omega)
   rw [hlen] at HOM hcm ⊢
   have HM := kp HOM
   clear HOM hown hpad hnb hlen
   generalize hs1 : wr.heap.size = s1 at *
   have HS1 := kp hs1; clear hs1
   have HGM1 := kp hgm1
   have HGM2 := kp hgm2
   have HCM := kp hcm
   clear hgm1 hgm2 hcm
   obtain ⟨wo2, rfl⟩ : ∃ wo2 : World, wo2 = wr := ⟨_, rfl⟩
   have HWD := kp (all_words firstSt.toList)
   have hgs : g + 1 ≤ s1 := hsz.out
   have HO0 := kp (show (wo2.alloc (.cells #[] 175)).ownsRow s1 175 1 (.slice (some ⟨wo2.heap.size, 0, none⟩) 0 0) 0 [] by
    have := World.ownsRow_lit (base := s1) (e := 175) (size := 1) wo2 #[] 0 (by rw [HS1.out]; exact Nat.le_refl _) (by simp [maxLen]) rfl
    exact this)
   have hhh := HH.out.below hbw.out
   have HA0 := kp (hhh.alloc (by rw [HS1.out]; omega) (.cells #[] 175))
   clear hhh
   have HZZ := kp (show s1 ≤ (wo2.alloc (.cells #[] 175)).heap.size by simp; have := HS1.out; omega)
   have HMA := kp (own_alloc HM.out (.cells #[] 175))
   have HBA := kp (hbw.out.alloc (by rw [HS1.out]; omega) (.cells #[] 175))
   have HBB := kp (hblk.out.alloc (.cells #[] 175))
   skip
   go_wp2_with (at_builtin; refine wpl_apps rfl rfl el_u32 HO0.out rfl HA0.out rfl HWD.out ?_ ?_ HZZ.out ?_)
   ·omega
   ·omega
   ·intro A7 c7 w7 ho hg _
    have hgrow := hg
    try rw [Nat.zero_add] at ho
    try rw [Nat.zero_add]
    try rw [List.nil_append] at ho
    obtain ⟨gh, rfl, hgh1, hgh2, hch⟩ := own_form ho (by omega)
    have hbw7 := HBA.out.grown hg (by have := HZZ.out; omega) (by intro k hk; cases hk; rw [HS1.out]; omega)
    have hkeep : KeepR g s1 w7.heap.size gm gh nb c5 c7 (padded bs) (firstSt.toList.map W) w w7 :=
     ⟨own_kept HMA.out hg (by intro k hk; cases hk; simp; rw [HS1.out]; have := HGM2.out; omega), ho,
      HBB.out.grown hg (by simp; rw [HS1.out]; omega), hbw7, Nat.le_refl _, Nat.lt_of_lt_of_le (by have := HGM2.out; have := HZZ.out; omega) hg.size, hgh2, by have := hg.size; have := HZZ.out; omega, by have := HGM2.out; omega, by omega⟩
    have HKEEP := kp hkeep
    clear hkeep hbw7 hgrow ho hg HBB HBA HMA HZZ HA0 HO0 HM
    generalize hs2 : w7.heap.size = s2 at *
    have HS2 := kp hs2; clear hs2
    have HGH1 := kp hgh1
    have HGH2 := kp hgh2
    clear hgh1 hgh2
    go_wp2_with fail
    refine rs_at HNB hnb2 HK HKEEP (kp ?_)
    intros
    rename_i wr hkeep_
    have hkeep := kp hkeep_; clear hkeep_
    obtain ⟨we, rfl⟩ : ∃ we : World, we = wr := ⟨_, rfl⟩
    have hsha : sha bs = outB (stB (padded bs) nb) := by rw [sha_eq, HNB.out, Nat.mul_div_cancel_left _ (by omega)]
    have HSHA := kp hsha; clear hsha
    generalize hst : stB (padded bs) nb = st at *
    clear hst
    go_wp2_with (first | (with_reducible refine wpl_alloc (o := ⟨some 23, _, _, _, _, _⟩) rfl rfl zero_id ?_))
    intro wf hbf hbwf hszf
    have HKO := kp (hkeep.out.grown (hg := ⟨hbwf.os, hbwf.tape, hbwf.output, hbwf.size, fun k hk _ => hbwf.block k hk⟩) (row := none) (by intro k hk; cases hk))
    obtain ⟨go, hgo⟩ : ∃ go, go = we.heap.size := ⟨_, rfl⟩
    rw [← hgo] at hbf hszf ⊢
    have HOUT := kp (show Blk wf go 46 (List.replicate 32 (B 0)) from hbf)
    have HGO := kp (show s2 ≤ go by rw [hgo]; exact hkeep.out.sz)
    clear hbf hbwf hszf hgo hkeep
    go_wp2_with fail
    refine rs_out HGO HOUT HKO (kp ?_)
    intros
    rename_i wr hout_ hkv_
    have hout := kp hout_; have hkv := kp hkv_; clear hout_ hkv_
    generalize hxx0 : (outB st).map B = xs at *
    have hxx := hxx0.symm
    have hxn0 : xs.length = 32 := by rw [hxx, List.length_map, outB_length]
    rw [← HSHA.out] at hxx
    have hxn : xs.length = 32 := hxn0
    have HX1 := kp (show ∀ v ∈ xs, v.oneCell' = true by rw [hxx]; exact all_bytes _)
    have HXX := kp hxx
    have HXN := kp hxn
    clear hxx hxn hxx0 hxn0
    go_wp2_with (first | (with_reducible refine wlb 323 row_32 hout.out HXN.out ?_) | (with_reducible refine wsb row_32 hkv.out.res len32 HXN.out HX1.out ?_))
    intro w11 hb11 hg11 hsz11
    have HB11 := kp hb11
    have HL11 := kp (hkv.out.low.grown hg11 (Nat.le_trans (Nat.le_of_lt hkv.out.lg) hkv.out.sz) (fun j hj => by cases hj; exact Nat.le_refl _))
    clear hb11 hg11 hsz11
    go_wp2_with fail
    refine bodyPost_ret (results_cell_row rfl _ _ g _ xs.toArray (0, 0) _ rfl HB11.out Tryz.underlying46 rfl (by rw [List.size_toArray, HXN.out]; kernel_rfl)) rfl ?_
    refine ⟨by rw [HXX.out], ?_⟩
    rw [HG.out]; exact HL11.out
end Go.Proofs.YtnnjjbkdjkjnpaaGreatDoor
namespace Go.Proofs.YtnnjjbkdjkjnpaaGreatDoor
open Go.RowKit Go.Shelf
theorem of_any (A : Option Addr) (n c : Nat) (bs : List UInt8) (w : World) (hb : Sl w w.heap.size 1 A n (bs.map B)) (hl : n ≤ 1099511627776) :
  Calls Tryz.prog 53 #[.slice A n c] w fun e w' => e = .returned (.agg ((sha bs).map B).toArray) ∧ Below w.heap.size w w' := by
 have HS := kp hb; clear hb
 have HA := kp (all_bytes (sha bs))
 have HLN := kp (show ((sha bs).map B).length = 32 by rw [List.length_map, sha_length])
 have hrs := fun (Ah Ak : Option Addr) (w : World) h1 h2 h3 => rsum_any A Ah Ak n c 8 64 bs w h1 h2 h3 hl
 have HRS := kp hrs; clear hrs
 generalize hxs : (sha bs).map B = xs at *
 clear hxs
 go_enter Tryz.func53, Tryz.ntmps53
 go_wp2_with (first | (with_reducible refine wpl_alloc (o := ⟨some 2, _, _, _, _, _⟩) rfl rfl zero_id ?_))
 intro w1 hb1 hbw1 hsz1
 have HB1 := kp hb1; clear hb1
 have HBW1 := kp hbw1; clear hbw1
 have hs1 := (HS.out.below HBW1.out).more HBW1.out.size
 have HS1 := kp hs1; clear hs1
 generalize hgd : w.heap.size = g at *
 have HG := kp hgd; clear hgd
 have HSZ1 := kp hsz1; clear hsz1
 go_wp2_with fail
 refine (first_ref w1).mono ?_
 rintro e w2 ⟨g2, rfl, hs2, hb2⟩
 have HF2 := kp hs2
 have HS2 := kp ((HS1.out.below hb2).more hb2.size)
 have HB2 := kp (HB1.out.call hb2)
 have HBW2 := kp (below_step HBW1.out (by have := HSZ1.out; omega) hb2)
 have HZ2 := kp (Nat.le_trans (Nat.le_of_eq HSZ1.out.symm) hb2.size)
 clear hs2 hb2 HB1 HBW1 HS1
 go_wp2_with fail
 refine (rounds_ref w2).mono ?_
 rintro e w3 ⟨g3, rfl, hs3, hb3⟩
 have HR3 := kp hs3
 have HF3 := kp ((HF2.out.below hb3).more hb3.size)
 have HS3 := kp ((HS2.out.below hb3).more hb3.size)
 have HB3 := kp (HB2.out.call hb3)
 have HBW3 := kp (below_step HBW2.out (by have := HZ2.out; omega) hb3)
 have HZ3 := kp (Nat.le_trans HZ2.out hb3.size)
 clear hs3 hb3 HB2 HBW2 HS2 HF2
 go_wp2_with fail
 refine (HRS.out _ _ w3 HS3.out HF3.out HR3.out).mono ?_
 rintro e w4 ⟨rfl, hb4⟩
 have HB4 := kp (show Blk w4 g 46 (List.replicate 32 (B 0)) from HB3.out.call hb4)
 have HBW4 := kp (below_step HBW3.out (by have := HZ3.out; omega) hb4)
 have HZ4 := kp (Nat.le_trans HZ3.out hb4.size)
 clear hb4 HB3 HBW3 HS3 HF3 HR3 HRS
 have H1 := HA
 go_wp2_with (with_reducible refine wsb row_32 HB4.out len32 HLN.out HA.out ?_)
 intro w5 hb5 hg5 hsz5
 have HB5 := kp hb5
 have HBW5 := kp (HBW4.out.grown hg5 (by have := HZ4.out; omega) (by intro k hk; cases hk; exact Nat.le_refl _))
 clear hb5 hg5 hsz5
 go_wp2_with fail
 refine bodyPost_ret (results_cell_row rfl _ _ g _ xs.toArray (0, 0) _ rfl HB5.out Tryz.underlying46 rfl (by rw [List.size_toArray, HLN.out]; kernel_rfl)) rfl ?_
 refine ⟨rfl, ?_⟩
 rw [HG.out]; exact HBW5.out
theorem long_any (A : Option Addr) (n c : Nat) (bs : List UInt8) (w : World) (hb : Sl w w.heap.size 1 A n (bs.map B)) (hl : n ≤ 4294967295) :
  Calls Tryz.prog 54 #[.slice A n c] w fun e w' => ∃ A' c', e = .returned (.slice A' (4 + n) c') ∧ w'.ownsRow w.heap.size 5 1 (.slice A' (4 + n) c') (4 + n) ((beBytes n 4 ++ bs).map B) ∧ Below w.heap.size w w' := by
 have HS := kp hb; clear hb
 have HA := kp (all_bytes bs)
 have e0 : (n : Int) / 16777216 = b8 (beByte n 4 0) := by have h : (n : Int) / 16777216 % 256 = b8 (beByte n 4 0) := beByte_div n 4 0; omega
 have e1 : (n : Int) / 65536 % 256 = b8 (beByte n 4 1) := beByte_div n 4 1
 have e2 : (n : Int) / 256 % 256 = b8 (beByte n 4 2) := beByte_div n 4 2
 have e3 : (n : Int) % 256 = b8 (beByte n 4 3) := by have := beByte_div n 4 3; simpa using this
 have HO := kp (World.ownsRow_lit (base := w.heap.size) (e := 5) (size := 1) w #[B (beByte n 4 0), B (beByte n 4 1), B (beByte n 4 2), B (beByte n 4 3)] 4 (Nat.le_refl _) (by simp [maxLen]) rfl)
 have HS1 := kp (HS.out.alloc (Nat.le_refl _) (.cells #[B (beByte n 4 0), B (beByte n 4 1), B (beByte n 4 2), B (beByte n 4 3)] 5))
 go_enter Tryz.func54, Tryz.ntmps54
 go_wp2_with (at_builtin; refine wpl_apps rfl rfl el_u8 HO.out rfl HS1.out rfl HA.out ?_ ?_ (Nat.le_of_lt (by simp)) ?_)
 ·omega
 ·omega
 ·intro A' c' w' ho hg _
  have HO2 := kp ho
  have HB2 := kp (((Below.refl w.heap.size w).alloc (Nat.le_refl _) (.cells #[B (beByte n 4 0), B (beByte n 4 1), B (beByte n 4 2), B (beByte n 4 3)] 5)).grown hg (by simp) (by intro k hk; cases hk; exact Nat.le_refl _))
  clear ho hg e0 e1 e2 e3
  go_wp2_with fail
  go_ret
  refine ⟨A', c', rfl, ?_, HB2.out⟩
  have h := HO2.out
  have e : (beBytes n 4 ++ bs).map B = #[B (beByte n 4 0), B (beByte n 4 1), B (beByte n 4 2), B (beByte n 4 3)].toList ++ bs.map B := by
   rw [beBytes]; rfl
  rw [e]
  exact h
theorem dof_any (A : Option Addr) (n c : Nat) {bs : List UInt8} {xs : List Value} (hx : Dig xs (sha bs)) (w : World) (hb : Sl w w.heap.size 1 A n (bs.map B)) (hl : n ≤ 1099511627776) :
  Calls Tryz.prog 53 #[.slice A n c] w fun e w' => e = .returned (.agg xs.toArray) ∧ Below w.heap.size w w' := by
 rw [hx.1]
 exact of_any A n c bs w hb hl
theorem own_blk {w : World} {base g n : Nat} {e : TypeId} {cs : List Value} (h : Blk w g e cs) (hn : cs.length = n) (hb : base ≤ g) (hm : n ≤ maxLen) : w.ownsRow base e 1 (.slice (some ⟨g, 0, none⟩) n n) n cs :=
 ⟨by omega, .inr ⟨g, n, cs.toArray, rfl, hb, h, Nat.le_refl _, hm, by simp; omega, List.take_of_length_le (by simp; omega)⟩⟩
def OwnAt (w : World) (base : Nat) (A : Option Addr) (n c : Nat) (xs : List Value) : Prop := w.ownsRow base 5 1 (.slice A n c) n xs
theorem OwnAt.grow {w w' : World} {base n c : Nat} {A : Option Addr} {xs : List Value} (h : OwnAt w base A n c xs) (k : Grow w w') : OwnAt w' base A n c xs := own_below h k
def rootB (l : List (List UInt8)) : List UInt8 :=
 match l with
 | [] => noneB
 | [x] => leafB x
 | x :: y :: r => nodeB (rootB ((x :: y :: r).take (halfN (x :: y :: r).length))) (rootB ((x :: y :: r).drop (halfN (x :: y :: r).length)))
termination_by l.length
decreasing_by
 ·rw [List.length_take]; have := halfN_lt (n := (x :: y :: r).length) (by simp); omega
 ·rw [List.length_drop]; have := halfN_pos (x :: y :: r).length; simp only [List.length_cons] at *; omega
attribute [local irreducible] leafB nodeB noneB
end Go.Proofs.YtnnjjbkdjkjnpaaGreatDoor
namespace Go.Proofs.YtnnjjbkdjkjnpaaGreatDoor
open Go.RowKit
def zeroD : List UInt8 := List.replicate 32 0
theorem inB_iff {n lo hi : Int} : inB n lo hi = true ↔ lo ≤ n ∧ n ≤ hi := by unfold inB; simp
end Go.Proofs.YtnnjjbkdjkjnpaaGreatDoor
