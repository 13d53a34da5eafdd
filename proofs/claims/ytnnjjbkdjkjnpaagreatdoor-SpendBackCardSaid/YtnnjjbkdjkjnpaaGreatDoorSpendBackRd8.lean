/- What seisinref03.Sum keeps from round to round; its loops' bodies. -/
import Derived.Test.YtnnjjbkdjkjnpaaGreatDoorSpendBackRd6
set_option linter.unusedSimpArgs false
set_option linter.unusedVariables false
set_option maxRecDepth 100000
set_option maxHeartbeats 16000000
namespace Go.Proofs.YtnnjjbkdjkjnpaaGreatDoor
open Go.RowKit Go.Shelf
attribute [local go_sem ↓ high] add_w
attribute [local go_sem high] xor_w and_w or_w not_w shr_w shl_w wrap_b8
theorem all_words (l : List UInt32) : ∀ v ∈ l.map W, v.oneCell' = true := fun v hv => by obtain ⟨x, _, rfl⟩ := List.mem_map.1 hv; rfl
theorem not_sub (x : UInt32) : Op.intArith .sub .u32 4294967295 (w32 x) = pure (.int .u32 (w32 (~~~x))) := by
 have : IntKind.u32.wrap (4294967295 - w32 x) = w32 (~~~x) := by
  have h1 : (~~~x).toNat = 4294967295 - x.toNat := by rw [UInt32.toNat_not]; rfl
  have := x.toNat_lt
  rw [IntKind.wrap_u32]
  unfold w32
  rw [h1]
  omega
 show pure (Value.int .u32 (IntKind.u32.wrap (4294967295 - w32 x))) = _
 rw [this]
attribute [local go_sem ↓ high] not_sub
theorem stN_zero (b : List UInt8) (h : St) : stN b h 0 = h := by rw [stN]
theorem stN_succ (b : List UInt8) (h : St) (k : Nat) : stN b h (k + 1) = roundF (roundKs[k]?.getD 0) (sw b k) (stN b h k) := by rw [stN]
theorem grown_alloc (w : World) (o : Obj) : w.grownBy (w.alloc o) none := ⟨rfl, rfl, rfl, by simp, fun k hk _ => Below.heap_alloc w o k hk⟩
theorem stB_zero (m : List UInt8) : stB m 0 = firstSt := by rw [← stL_range]; show stL m [] = _; rw [stL]; rfl
theorem stB_succ (m : List UInt8) (k : Nat) : stB m (k + 1) = compress roundKs (stB m k) (chunkAt m k) := by
 rw [← stL_range, List.range_succ, stL_snoc, stL_range]
theorem range_snoc {α : Type} (f : Nat → α) (k : Nat) : (List.range (k + 1)).map f = (List.range k).map f ++ [f k] := by rw [List.range_succ]; simp
structure KeepR (g s1 s2 gm gh nb cm ch : Nat) (m : List UInt8) (hl : List Value) (w V : World) : Prop where
 msg : V.ownsRow (g + 1) 5 1 (.slice (some ⟨gm, 0, none⟩) (64 * nb) cm) (64 * nb) (m.map B)
 hs : V.ownsRow s1 175 1 (.slice (some ⟨gh, 0, none⟩) 8 ch) 8 hl
 res : Blk V g 46 (List.replicate 32 (B 0))
 low : Below g w V
 sz : s2 ≤ V.heap.size
 lm : gm < s2
 lh : gh < s2
 lg : g < s2
 mh : gm < gh
 g0 : g < gh
section
variable {g s1 s2 s3 gm gh nb cm ch : Nat} {m : List UInt8} {hl : List Value} {w V V' : World}
theorem KeepR.grown {row : Option Nat} (h : KeepR g s1 s2 gm gh nb cm ch m hl w V) (hg : V.grownBy V' row) (hr : ∀ k, row = some k → s2 ≤ k) : KeepR g s1 s2 gm gh nb cm ch m hl w V' :=
 ⟨own_kept h.msg hg (fun k hk e => by cases hk; have := hr _ e.symm; have := h.lm; omega), own_kept h.hs hg (fun k hk e => by cases hk; have := hr _ e.symm; have := h.lh; omega),
  h.res.grown hg (fun e => by have := hr _ e.symm; have := h.lg; omega), h.low.grown hg (Nat.le_trans (Nat.le_of_lt h.lg) h.sz) (fun k hk => by have := hr k hk; have := h.lg; omega), Nat.le_trans h.sz hg.size, h.lm, h.lh, h.lg, h.mh, h.g0⟩
theorem KeepR.drawn (h : KeepR g s1 s2 gm gh nb cm ch m hl w V) (hd : Drawn V V') : KeepR g s1 s2 gm gh nb cm ch m hl w V' :=
 ⟨hd.own h.msg, hd.own h.hs, hd.blk h.res, hd.below h.low, by rw [hd.size]; exact h.sz, h.lm, h.lh, h.lg, h.mh, h.g0⟩
theorem KeepR.more (h : KeepR g s1 s2 gm gh nb cm ch m hl w V) (h1 : s2 ≤ s3) (h2 : s3 ≤ V.heap.size) : KeepR g s1 s3 gm gh nb cm ch m hl w V :=
 ⟨h.msg, h.hs, h.res, h.low, h2, Nat.lt_of_lt_of_le h.lm h1, Nat.lt_of_lt_of_le h.lh h1, Nat.lt_of_lt_of_le h.lg h1, h.mh, h.g0⟩
theorem KeepR.less (h : KeepR g s1 s3 gm gh nb cm ch m hl w V) (h1 : s2 ≤ s3) (lm : gm < s2) (lh : gh < s2) (lg : g < s2) : KeepR g s1 s2 gm gh nb cm ch m hl w V :=
 ⟨h.msg, h.hs, h.res, h.low, Nat.le_trans h1 h.sz, lm, lh, lg, h.mh, h.g0⟩
theorem KeepR.store (h : KeepR g s1 s2 gm gh nb cm ch m hl w V) (k : Nat) (v : Value) : KeepR g s1 s2 gm gh nb cm ch m (hl.set k v) w (V.setCell ⟨gh, k, none⟩ v) :=
 have hg := grown_set V gh k v
 ⟨own_kept h.msg hg (fun j hj e => by cases hj; have := h.mh; cases e; omega), (h.hs.stored k v).1, h.res.grown hg (fun e => by have := h.g0; cases e; omega), h.low.grown hg (Nat.le_trans (Nat.le_of_lt h.lg) h.sz) (fun j hj => by cases hj; exact Nat.le_of_lt h.g0),
  Nat.le_trans h.sz hg.size, h.lm, h.lh, h.lg, h.mh, h.g0⟩
end
theorem range_getD {α : Type} (f : UInt8 → α) (l : List UInt8) (n : Nat) (h : l.length = n) : (List.range n).map (fun i => f (l[i]?.getD 0)) = l.map f := by
 apply List.ext_getElem (by simp [h])
 intro i h1 h2
 have hi : i < l.length := by simpa using h2
 simp [hi]
def upTo8 (s t : St) (k : Nat) (xs : List Value) : Prop := xs.length = 8 ∧ (∀ i, i < k → xs[i]? = some (W ((s.add t).at_ i))) ∧ ∀ i, k ≤ i → i < 8 → xs[i]? = some (W (s.at_ i))
theorem upTo8_zero (s t : St) : upTo8 s t 0 (s.toList.map W) := ⟨rfl, fun i hi => absurd hi (by omega), fun i _ hi => s.get_at i hi⟩
theorem upTo8_all {s t : St} {xs : List Value} (h : upTo8 s t 8 xs) : xs = (s.add t).toList.map W := by
 apply List.ext_getElem?
 intro i
 by_cases hi : i < 8
 ·rw [h.2.1 i hi, (s.add t).get_at i hi]
 ·rw [List.getElem?_eq_none (by rw [h.1]; omega), List.getElem?_eq_none (by rw [List.length_map, St.length]; omega)]
theorem upTo8_set {s t : St} {k : Nat} {xs : List Value} (h : upTo8 s t k xs) (hk : k < 8) : upTo8 s t (k + 1) (xs.set k (W (s.at_ k + t.at_ k))) := by
 refine ⟨by rw [List.length_set]; exact h.1, fun i hi => ?_, fun i h1 h2 => ?_⟩
 ·rw [List.getElem?_set]
  by_cases e : k = i
  ·subst e
   rw [if_pos rfl, if_pos (by rw [h.1]; exact hk), St.add_at s t k hk]
  ·rw [if_neg e]; exact h.2.1 i (by omega)
 ·rw [List.getElem?_set, if_neg (by omega)]
  exact h.2.2 i (by omega) h2
theorem outB_get (s : St) (i : Nat) (hi : i < 32) : (outB s)[i]? = some (beByte (s.at_ (i / 4)).toNat 4 (i % 4)) := by
 have h1 := outB_take s (i / 4) (by omega)
 have hl1 : ((outB s).take (4 * (i / 4))).length = 4 * (i / 4) := by rw [List.length_take, outB_length]; omega
 have h2 : (outB s)[i]? = ((outB s).take (4 * (i / 4 + 1)))[i]? := by rw [List.getElem?_take_of_lt (by omega)]
 rw [h2, h1, List.getElem?_append_right (by rw [hl1]; omega), hl1, show i - 4 * (i / 4) = i % 4 by omega, beBytes, List.getElem?_map, List.getElem?_range (by omega)]
 rfl
def loopsOf : Code → List Code
 | .loop c => c :: loopsOf c
 | .seq a b => loopsOf a ++ loopsOf b
 | .block _ c => loopsOf c
 | .scope c => loopsOf c
 | .cond _ a b => loopsOf a ++ loopsOf b
 | _ => []
noncomputable def rsBody (k : Nat) : Code := ((Tryz.f87.body.map loopsOf).getD []).getD k .skip
end Go.Proofs.YtnnjjbkdjkjnpaaGreatDoor
namespace Go.Proofs.YtnnjjbkdjkjnpaaGreatDoor
open Go.RowKit Go.Shelf
attribute [local go_sem ↓ high] add_w
attribute [local go_sem high] xor_w and_w or_w not_w shr_w shl_w wrap_b8
theorem rs_pad {o0 o1 o2 o3 o4 o5 o6 o8 o9 o10 o11 o12 o13 o14 o15 o16 o17 o18 o19 o20 o21 o22 o23 o24 o25 o26 o27 o28 o29 o30 o31 o32 o33 o34 o35 o36 o37 o38 o39 o40 o41 o42 o43 o44 o45 o46 o47 o48 o49 o50 o51 o52 o53 o54 o55 o56 o57 o58 o59 o60 o61 o62 o63 o64 o65 o66 o67 o68 o69 o70 o71 o72 o73 o74 o75 o76 o77 o78 o79 o80 o81 o82 o83 o84 o85 o86 o87 o88 o89 o90 o91 o92 o93 o94 o95 o96 o97 o98 o99 o100 o101 o102 o103 o104 o105 o106 o107 o108 o109 o110 o111 o112 o113 o114 o115 o116 o117 o118 o119 o120 o121 o122 o123 o124 o125 o126 o127 o128 o129 o130 o131 o132 o133 o134 o135 o136 o137 o138 o139 o140 o141 o142 o143 o144 o145 o146 o147 o148 o149 o150 o151 o152 o153 o154 o155 o156 o157 o158 o159 o160 o161 o162 o163 o164 o165 o166 o167 o168 o169 o170 o171 o172 o173 o174 o175 o176 o177 o178 o179 o180 o181 o182 o183 o184 o185 o186 o187 o188 o189 o190 o191 o192 o193 o194 o195 o196 o197 o198 o199 o200 o201 o202 o203 o204 o205 o206 o207 o208 o209 o210 o211 o212 o213 o214 o215 o216 o217 o218 o219 o220 o221 o222 o223 o224 o225 o226 o227 o228 o229 o230 o231 o232 o233 o234 o235 o236 o237 o238 o239 o240 o241 o242 o243 o244 o245 o246 o247 o248 o249 o250 o251 o252 o253 o254 o255 o256 o257 o258 o259 o260 o261 o262 o263 o264 o265 o266 o267 o268 o269 o270 o271 o272 o273 o274 o275 o276 o277 o278 o279 o280 o281 o282 o283 o284 o285 o286 o287 o288 o289 o290 o291 o292 o293 o294 o295 o296 o297 o298 o299 o300 o301 o302 o303 o304 o305 o306 o307 o308 o309 o310 o311 o312 o313 o314 o315 o316 o317 o318 o319 o320 o321 o322 o323 : Value} {Q0 : Exit → Act → World → Prop} {g n Z : Nat} {bs : List UInt8} {A3 : Option Addr} {c3 : Nat} {w w3 : World} (HZ : Hid (∀ j, j < Z → (n + 1 + j) % 64 ≠ 56)) (HZE : Hid ((n + 1 + Z) % 64 = 56)) (hl : n ≤ 1099511627776) (hz1 : Z ≤ 63)
  (HO3 : Hid (w3.ownsRow (g + 1) 5 1 (.slice A3 (n + 1) c3) (n + 1) ((bs ++ [128]).map B))) (HB3 : Hid (Blk w3 g 46 (List.replicate 32 (B 0)))) (HBW3 : Hid (Below g w w3)) (HSZ3 : Hid (g + 1 ≤ w3.heap.size))
  (HEX : Hid (∀ {u_30 u_31 u_32 u_33 u_34 u_35 u_36 : Value} {A' : Option Addr} {c' : Nat} {wr : World}, wr.ownsRow (g + 1) 5 1 (.slice A' (n + 1 + Z) c') (n + 1 + Z) ((bs ++ [128] ++ List.replicate Z 0).map B) → Blk wr g 46 (List.replicate 32 (B 0)) → Below g w wr → g + 1 ≤ wr.heap.size → Q0 (.exit 0) ⟨(o0 :: o1 :: o2 :: o3 :: o4 :: o5 :: o6 :: (.slice A' (n + 1 + Z) c') :: o8 :: o9 :: o10 :: o11 :: o12 :: o13 :: o14 :: o15 :: o16 :: o17 :: o18 :: o19 :: o20 :: o21 :: o22 :: o23 :: o24 :: o25 :: o26 :: o27 :: o28 :: o29 :: u_30 :: u_31 :: u_32 :: u_33 :: u_34 :: u_35 :: u_36 :: o37 :: o38 :: o39 :: o40 :: o41 :: o42 :: o43 :: o44 :: o45 :: o46 :: o47 :: o48 :: o49 :: o50 :: o51 :: o52 :: o53 :: o54 :: o55 :: o56 :: o57 :: o58 :: o59 :: o60 :: o61 :: o62 :: o63 :: o64 :: o65 :: o66 :: o67 :: o68 :: o69 :: o70 :: o71 :: o72 :: o73 :: o74 :: o75 :: o76 :: o77 :: o78 :: o79 :: o80 :: o81 :: o82 :: o83 :: o84 :: o85 :: o86 :: o87 :: o88 :: o89 :: o90 :: o91 :: o92 :: o93 :: o94 :: o95 :: o96 :: o97 :: o98 :: o99 :: o100 :: o101 :: o102 :: o103 :: o104 :: o105 :: o106 :: o107 :: o108 :: o109 :: o110 :: o111 :: o112 :: o113 :: o114 :: o115 :: o116 :: o117 :: o118 :: o119 :: o120 :: o121 :: o122 :: o123 :: o124 :: o125 :: o126 :: o127 :: o128 :: o129 :: o130 :: o131 :: o132 :: o133 :: o134 :: o135 :: o136 :: o137 :: o138 :: o139 :: o140 :: o141 :: o142 :: o143 :: o144 :: o145 :: o146 :: o147 :: o148 :: o149 :: o150 :: o151 :: o152 :: o153 :: o154 :: o155 :: o156 :: o157 :: o158 :: o159 :: o160 :: o161 :: o162 :: o163 :: o164 :: o165 :: o166 :: o167 :: o168 :: o169 :: o170 :: o171 :: o172 :: o173 :: o174 :: o175 :: o176 :: o177 :: o178 :: o179 :: o180 :: o181 :: o182 :: o183 :: o184 :: o185 :: o186 :: o187 :: o188 :: o189 :: o190 :: o191 :: o192 :: o193 :: o194 :: o195 :: o196 :: o197 :: o198 :: o199 :: o200 :: o201 :: o202 :: o203 :: o204 :: o205 :: o206 :: o207 :: o208 :: o209 :: o210 :: o211 :: o212 :: o213 :: o214 :: o215 :: o216 :: o217 :: o218 :: o219 :: o220 :: o221 :: o222 :: o223 :: o224 :: o225 :: o226 :: o227 :: o228 :: o229 :: o230 :: o231 :: o232 :: o233 :: o234 :: o235 :: o236 :: o237 :: o238 :: o239 :: o240 :: o241 :: o242 :: o243 :: o244 :: o245 :: o246 :: o247 :: o248 :: o249 :: o250 :: o251 :: o252 :: o253 :: o254 :: o255 :: o256 :: o257 :: o258 :: o259 :: o260 :: o261 :: o262 :: o263 :: o264 :: o265 :: o266 :: o267 :: o268 :: o269 :: o270 :: o271 :: o272 :: o273 :: o274 :: o275 :: o276 :: o277 :: o278 :: o279 :: o280 :: o281 :: o282 :: o283 :: o284 :: o285 :: o286 :: o287 :: o288 :: o289 :: o290 :: o291 :: o292 :: o293 :: o294 :: o295 :: o296 :: o297 :: o298 :: o299 :: o300 :: o301 :: o302 :: o303 :: o304 :: o305 :: o306 :: o307 :: o308 :: o309 :: o310 :: o311 :: o312 :: o313 :: o314 :: o315 :: o316 :: o317 :: o318 :: o319 :: o320 :: o321 :: o322 :: o323 :: []).toArray, []⟩ wr)) :
  Code.wp Tryz.prog (.loop (rsBody 0)) Q0 ⟨(o0 :: o1 :: o2 :: o3 :: o4 :: o5 :: o6 :: (.slice A3 (n + 1) c3) :: o8 :: o9 :: o10 :: o11 :: o12 :: o13 :: o14 :: o15 :: o16 :: o17 :: o18 :: o19 :: o20 :: o21 :: o22 :: o23 :: o24 :: o25 :: o26 :: o27 :: o28 :: o29 :: o30 :: o31 :: o32 :: o33 :: o34 :: o35 :: o36 :: o37 :: o38 :: o39 :: o40 :: o41 :: o42 :: o43 :: o44 :: o45 :: o46 :: o47 :: o48 :: o49 :: o50 :: o51 :: o52 :: o53 :: o54 :: o55 :: o56 :: o57 :: o58 :: o59 :: o60 :: o61 :: o62 :: o63 :: o64 :: o65 :: o66 :: o67 :: o68 :: o69 :: o70 :: o71 :: o72 :: o73 :: o74 :: o75 :: o76 :: o77 :: o78 :: o79 :: o80 :: o81 :: o82 :: o83 :: o84 :: o85 :: o86 :: o87 :: o88 :: o89 :: o90 :: o91 :: o92 :: o93 :: o94 :: o95 :: o96 :: o97 :: o98 :: o99 :: o100 :: o101 :: o102 :: o103 :: o104 :: o105 :: o106 :: o107 :: o108 :: o109 :: o110 :: o111 :: o112 :: o113 :: o114 :: o115 :: o116 :: o117 :: o118 :: o119 :: o120 :: o121 :: o122 :: o123 :: o124 :: o125 :: o126 :: o127 :: o128 :: o129 :: o130 :: o131 :: o132 :: o133 :: o134 :: o135 :: o136 :: o137 :: o138 :: o139 :: o140 :: o141 :: o142 :: o143 :: o144 :: o145 :: o146 :: o147 :: o148 :: o149 :: o150 :: o151 :: o152 :: o153 :: o154 :: o155 :: o156 :: o157 :: o158 :: o159 :: o160 :: o161 :: o162 :: o163 :: o164 :: o165 :: o166 :: o167 :: o168 :: o169 :: o170 :: o171 :: o172 :: o173 :: o174 :: o175 :: o176 :: o177 :: o178 :: o179 :: o180 :: o181 :: o182 :: o183 :: o184 :: o185 :: o186 :: o187 :: o188 :: o189 :: o190 :: o191 :: o192 :: o193 :: o194 :: o195 :: o196 :: o197 :: o198 :: o199 :: o200 :: o201 :: o202 :: o203 :: o204 :: o205 :: o206 :: o207 :: o208 :: o209 :: o210 :: o211 :: o212 :: o213 :: o214 :: o215 :: o216 :: o217 :: o218 :: o219 :: o220 :: o221 :: o222 :: o223 :: o224 :: o225 :: o226 :: o227 :: o228 :: o229 :: o230 :: o231 :: o232 :: o233 :: o234 :: o235 :: o236 :: o237 :: o238 :: o239 :: o240 :: o241 :: o242 :: o243 :: o244 :: o245 :: o246 :: o247 :: o248 :: o249 :: o250 :: o251 :: o252 :: o253 :: o254 :: o255 :: o256 :: o257 :: o258 :: o259 :: o260 :: o261 :: o262 :: o263 :: o264 :: o265 :: o266 :: o267 :: o268 :: o269 :: o270 :: o271 :: o272 :: o273 :: o274 :: o275 :: o276 :: o277 :: o278 :: o279 :: o280 :: o281 :: o282 :: o283 :: o284 :: o285 :: o286 :: o287 :: o288 :: o289 :: o290 :: o291 :: o292 :: o293 :: o294 :: o295 :: o296 :: o297 :: o298 :: o299 :: o300 :: o301 :: o302 :: o303 :: o304 :: o305 :: o306 :: o307 :: o308 :: o309 :: o310 :: o311 :: o312 :: o313 :: o314 :: o315 :: o316 :: o317 :: o318 :: o319 :: o320 :: o321 :: o322 :: o323 :: []).toArray, []⟩ w3 := by
 conv => arg 2; arg 1; whnf
 go_loopw [7] (fun v wr => ∃ j : Nat, ∃ A' c', j ≤ Z ∧ v = .slice A' (n + 1 + j) c' ∧ Hid (wr.ownsRow (g + 1) 5 1 (.slice A' (n + 1 + j) c') (n + 1 + j) ((bs ++ [128] ++ List.replicate j 0).map B)) ∧ Hid (Blk wr g 46 (List.replicate 32 (B 0))) ∧ Hid (Below g w wr) ∧ Hid (g + 1 ≤ wr.heap.size)) (fun v _ => match v with | .slice _ m _ => 2000 + n - m | _ => 0)
 case atStart => exact ⟨0, A3, c3, by omega, rfl, (show w3.ownsRow _ _ _ _ _ _ by simpa [i128] using HO3.out), HB3, HBW3, HSZ3⟩
 case round =>
  obtain ⟨j, A4, c4, hj, rfl, hown, hblk, hbw, hsz⟩ := hrel
  by_cases hlt : j < Z
  ·have t1 : (((n + 1 + j : Nat) : Int) % 64 != 56) = true := by
    have := HZ.out j hlt
    rw [bne_iff_ne]; omega
   have t2 : (((n : Int) + 1 + (j : Int)) % 64 != 56) = true := by
    have := HZ.out j hlt
    rw [bne_iff_ne]; omega
   go_wp2_with (at_builtin; refine wpl_app1 rfl rfl el_u8 hown.out rfl (m := 1) rfl rfl ?_ ?_ ?_ hsz.out ?_)
   ·simp [Value.oneCell']
   ·omega
   ·omega
   ·intro A5 c5 w5 ho hg _
    have hb3 := below_grown hbw.out hg (by have := hsz.out; omega) (fun j hj => by have := own_from hown.out j hj; omega)
    have HO5 := kp ho
    have HB5 := kp (hblk.out.grown hg (fun e => by have := own_from hown.out g e.symm; omega))
    have HBW5 := kp hb3
    have HSZ5 := kp (Nat.le_trans hsz.out hg.size)
    clear ho hb3 hg
    go_wp2_with fail
    go_roundw
    case rel =>
     refine ⟨j + 1, A5, c5, by omega, rfl, ?_, HB5, HBW5, HSZ5⟩
     have h5 := HO5.out
     show w5.ownsRow _ _ _ _ _ _
     rw [List.replicate_succ', show n + 1 + (j + 1) = n + 1 + j + 1 by omega]
     simpa [i0] using h5
    case measure => simp; omega
  ·obtain rfl : j = Z := by omega
   have t1 : (((n + 1 + j : Nat) : Int) % 64 != 56) = false := by
    have := HZE.out
    rw [bne_eq_false_iff_eq]; omega
   have t2 : (((n : Int) + 1 + (j : Int)) % 64 != 56) = false := by
    have := HZE.out
    rw [bne_eq_false_iff_eq]; omega
   go_wp2_with fail
   exact HEX.out hown.out hblk.out hbw.out hsz.out
end Go.Proofs.YtnnjjbkdjkjnpaaGreatDoor
namespace Go.Proofs.YtnnjjbkdjkjnpaaGreatDoor
open Go.RowKit Go.Shelf
attribute [local go_sem ↓ high] add_w
attribute [local go_sem high] xor_w and_w or_w not_w shr_w shl_w wrap_b8
attribute [local go_sem ↓ high] not_sub
theorem rs_bits {o0 o1 o2 o3 o4 o5 o6 o10 o11 o12 o13 o14 o15 o16 o17 o18 o19 o20 o21 o22 o23 o24 o25 o26 o27 o28 o29 o30 o31 o32 o33 o34 o35 o36 o37 o38 o39 o40 o41 o42 o43 o44 o45 o46 o47 o48 o49 o50 o51 o52 o53 o54 o55 o56 o57 o58 o59 o60 o61 o62 o63 o64 o65 o66 o67 o68 o69 o70 o71 o72 o73 o74 o75 o76 o77 o78 o79 o80 o81 o82 o83 o84 o85 o86 o87 o88 o89 o90 o91 o92 o93 o94 o95 o96 o97 o98 o99 o100 o101 o102 o103 o104 o105 o106 o107 o108 o109 o110 o111 o112 o113 o114 o115 o116 o117 o118 o119 o120 o121 o122 o123 o124 o125 o126 o127 o128 o129 o130 o131 o132 o133 o134 o135 o136 o137 o138 o139 o140 o141 o142 o143 o144 o145 o146 o147 o148 o149 o150 o151 o152 o153 o154 o155 o156 o157 o158 o159 o160 o161 o162 o163 o164 o165 o166 o167 o168 o169 o170 o171 o172 o173 o174 o175 o176 o177 o178 o179 o180 o181 o182 o183 o184 o185 o186 o187 o188 o189 o190 o191 o192 o193 o194 o195 o196 o197 o198 o199 o200 o201 o202 o203 o204 o205 o206 o207 o208 o209 o210 o211 o212 o213 o214 o215 o216 o217 o218 o219 o220 o221 o222 o223 o224 o225 o226 o227 o228 o229 o230 o231 o232 o233 o234 o235 o236 o237 o238 o239 o240 o241 o242 o243 o244 o245 o246 o247 o248 o249 o250 o251 o252 o253 o254 o255 o256 o257 o258 o259 o260 o261 o262 o263 o264 o265 o266 o267 o268 o269 o270 o271 o272 o273 o274 o275 o276 o277 o278 o279 o280 o281 o282 o283 o284 o285 o286 o287 o288 o289 o290 o291 o292 o293 o294 o295 o296 o297 o298 o299 o300 o301 o302 o303 o304 o305 o306 o307 o308 o309 o310 o311 o312 o313 o314 o315 o316 o317 o318 o319 o320 o321 o322 o323 : Value} {Q0 : Exit → Act → World → Prop} {g n j : Nat} {bs : List UInt8} {A4 : Option Addr} {c4 : Nat} {w wo : World} (hl : n ≤ 1099511627776) (hz1 : j ≤ 63)
  (hown : Hid (wo.ownsRow (g + 1) 5 1 (.slice A4 (n + 1 + j) c4) (n + 1 + j) ((bs ++ [128] ++ List.replicate j 0).map B))) (hblk : Hid (Blk wo g 46 (List.replicate 32 (B 0)))) (hbw : Hid (Below g w wo)) (hsz : Hid (g + 1 ≤ wo.heap.size))
  (HEX : Hid (∀ {u_41 u_42 u_43 u_44 u_45 u_46 u_47 u_48 u_49 u_50 u_51 u_52 : Value} {A' : Option Addr} {c' : Nat} {wr : World}, wr.ownsRow (g + 1) 5 1 (.slice A' (n + 1 + j + 8) c') (n + 1 + j + 8) ((bs ++ [128] ++ List.replicate j 0 ++ (beBytes (8 * n) 8).take 8).map B) → Blk wr g 46 (List.replicate 32 (B 0)) → Below g w wr → g + 1 ≤ wr.heap.size → Q0 (.exit 2) ⟨(o0 :: o1 :: o2 :: o3 :: o4 :: o5 :: o6 :: (.slice A' (n + 1 + j + 8) c') :: (.int .u64 ((n : Int) * 8)) :: (.int .i64 (-1)) :: o10 :: o11 :: o12 :: o13 :: o14 :: o15 :: o16 :: o17 :: o18 :: o19 :: o20 :: o21 :: o22 :: o23 :: o24 :: o25 :: o26 :: o27 :: o28 :: o29 :: o30 :: o31 :: o32 :: o33 :: o34 :: o35 :: o36 :: o37 :: o38 :: o39 :: o40 :: u_41 :: u_42 :: u_43 :: u_44 :: u_45 :: u_46 :: u_47 :: u_48 :: u_49 :: u_50 :: u_51 :: u_52 :: o53 :: o54 :: o55 :: o56 :: o57 :: o58 :: o59 :: o60 :: o61 :: o62 :: o63 :: o64 :: o65 :: o66 :: o67 :: o68 :: o69 :: o70 :: o71 :: o72 :: o73 :: o74 :: o75 :: o76 :: o77 :: o78 :: o79 :: o80 :: o81 :: o82 :: o83 :: o84 :: o85 :: o86 :: o87 :: o88 :: o89 :: o90 :: o91 :: o92 :: o93 :: o94 :: o95 :: o96 :: o97 :: o98 :: o99 :: o100 :: o101 :: o102 :: o103 :: o104 :: o105 :: o106 :: o107 :: o108 :: o109 :: o110 :: o111 :: o112 :: o113 :: o114 :: o115 :: o116 :: o117 :: o118 :: o119 :: o120 :: o121 :: o122 :: o123 :: o124 :: o125 :: o126 :: o127 :: o128 :: o129 :: o130 :: o131 :: o132 :: o133 :: o134 :: o135 :: o136 :: o137 :: o138 :: o139 :: o140 :: o141 :: o142 :: o143 :: o144 :: o145 :: o146 :: o147 :: o148 :: o149 :: o150 :: o151 :: o152 :: o153 :: o154 :: o155 :: o156 :: o157 :: o158 :: o159 :: o160 :: o161 :: o162 :: o163 :: o164 :: o165 :: o166 :: o167 :: o168 :: o169 :: o170 :: o171 :: o172 :: o173 :: o174 :: o175 :: o176 :: o177 :: o178 :: o179 :: o180 :: o181 :: o182 :: o183 :: o184 :: o185 :: o186 :: o187 :: o188 :: o189 :: o190 :: o191 :: o192 :: o193 :: o194 :: o195 :: o196 :: o197 :: o198 :: o199 :: o200 :: o201 :: o202 :: o203 :: o204 :: o205 :: o206 :: o207 :: o208 :: o209 :: o210 :: o211 :: o212 :: o213 :: o214 :: o215 :: o216 :: o217 :: o218 :: o219 :: o220 :: o221 :: o222 :: o223 :: o224 :: o225 :: o226 :: o227 :: o228 :: o229 :: o230 :: o231 :: o232 :: o233 :: o234 :: o235 :: o236 :: o237 :: o238 :: o239 :: o240 :: o241 :: o242 :: o243 :: o244 :: o245 :: o246 :: o247 :: o248 :: o249 :: o250 :: o251 :: o252 :: o253 :: o254 :: o255 :: o256 :: o257 :: o258 :: o259 :: o260 :: o261 :: o262 :: o263 :: o264 :: o265 :: o266 :: o267 :: o268 :: o269 :: o270 :: o271 :: o272 :: o273 :: o274 :: o275 :: o276 :: o277 :: o278 :: o279 :: o280 :: o281 :: o282 :: o283 :: o284 :: o285 :: o286 :: o287 :: o288 :: o289 :: o290 :: o291 :: o292 :: o293 :: o294 :: o295 :: o296 :: o297 :: o298 :: o299 :: o300 :: o301 :: o302 :: o303 :: o304 :: o305 :: o306 :: o307 :: o308 :: o309 :: o310 :: o311 :: o312 :: o313 :: o314 :: o315 :: o316 :: o317 :: o318 :: o319 :: o320 :: o321 :: o322 :: o323 :: []).toArray, []⟩ wr)) :
  Code.wp Tryz.prog (.loop (rsBody 1)) Q0 ⟨(o0 :: o1 :: o2 :: o3 :: o4 :: o5 :: o6 :: (.slice A4 (n + 1 + j) c4) :: (.int .u64 ((n : Int) * 8)) :: (.int .i64 7) :: o10 :: o11 :: o12 :: o13 :: o14 :: o15 :: o16 :: o17 :: o18 :: o19 :: o20 :: o21 :: o22 :: o23 :: o24 :: o25 :: o26 :: o27 :: o28 :: o29 :: o30 :: o31 :: o32 :: o33 :: o34 :: o35 :: o36 :: o37 :: o38 :: o39 :: o40 :: o41 :: o42 :: o43 :: o44 :: o45 :: o46 :: o47 :: o48 :: o49 :: o50 :: o51 :: o52 :: o53 :: o54 :: o55 :: o56 :: o57 :: o58 :: o59 :: o60 :: o61 :: o62 :: o63 :: o64 :: o65 :: o66 :: o67 :: o68 :: o69 :: o70 :: o71 :: o72 :: o73 :: o74 :: o75 :: o76 :: o77 :: o78 :: o79 :: o80 :: o81 :: o82 :: o83 :: o84 :: o85 :: o86 :: o87 :: o88 :: o89 :: o90 :: o91 :: o92 :: o93 :: o94 :: o95 :: o96 :: o97 :: o98 :: o99 :: o100 :: o101 :: o102 :: o103 :: o104 :: o105 :: o106 :: o107 :: o108 :: o109 :: o110 :: o111 :: o112 :: o113 :: o114 :: o115 :: o116 :: o117 :: o118 :: o119 :: o120 :: o121 :: o122 :: o123 :: o124 :: o125 :: o126 :: o127 :: o128 :: o129 :: o130 :: o131 :: o132 :: o133 :: o134 :: o135 :: o136 :: o137 :: o138 :: o139 :: o140 :: o141 :: o142 :: o143 :: o144 :: o145 :: o146 :: o147 :: o148 :: o149 :: o150 :: o151 :: o152 :: o153 :: o154 :: o155 :: o156 :: o157 :: o158 :: o159 :: o160 :: o161 :: o162 :: o163 :: o164 :: o165 :: o166 :: o167 :: o168 :: o169 :: o170 :: o171 :: o172 :: o173 :: o174 :: o175 :: o176 :: o177 :: o178 :: o179 :: o180 :: o181 :: o182 :: o183 :: o184 :: o185 :: o186 :: o187 :: o188 :: o189 :: o190 :: o191 :: o192 :: o193 :: o194 :: o195 :: o196 :: o197 :: o198 :: o199 :: o200 :: o201 :: o202 :: o203 :: o204 :: o205 :: o206 :: o207 :: o208 :: o209 :: o210 :: o211 :: o212 :: o213 :: o214 :: o215 :: o216 :: o217 :: o218 :: o219 :: o220 :: o221 :: o222 :: o223 :: o224 :: o225 :: o226 :: o227 :: o228 :: o229 :: o230 :: o231 :: o232 :: o233 :: o234 :: o235 :: o236 :: o237 :: o238 :: o239 :: o240 :: o241 :: o242 :: o243 :: o244 :: o245 :: o246 :: o247 :: o248 :: o249 :: o250 :: o251 :: o252 :: o253 :: o254 :: o255 :: o256 :: o257 :: o258 :: o259 :: o260 :: o261 :: o262 :: o263 :: o264 :: o265 :: o266 :: o267 :: o268 :: o269 :: o270 :: o271 :: o272 :: o273 :: o274 :: o275 :: o276 :: o277 :: o278 :: o279 :: o280 :: o281 :: o282 :: o283 :: o284 :: o285 :: o286 :: o287 :: o288 :: o289 :: o290 :: o291 :: o292 :: o293 :: o294 :: o295 :: o296 :: o297 :: o298 :: o299 :: o300 :: o301 :: o302 :: o303 :: o304 :: o305 :: o306 :: o307 :: o308 :: o309 :: o310 :: o311 :: o312 :: o313 :: o314 :: o315 :: o316 :: o317 :: o318 :: o319 :: o320 :: o321 :: o322 :: o323 :: []).toArray, []⟩ wo := by
 conv => arg 2; arg 1; whnf
 have b0 : (n : Int) * 8 ≤ 18446744073709551615 := by omega
 go_loopw [7, 9] (fun v i wr => ∃ k : Nat, ∃ A' c', k ≤ 8 ∧ i = .int .i64 (7 - (k : Int)) ∧ v = .slice A' (n + 1 + j + k) c' ∧ Hid (wr.ownsRow (g + 1) 5 1 (.slice A' (n + 1 + j + k) c') (n + 1 + j + k) ((bs ++ [128] ++ List.replicate j 0 ++ (beBytes (8 * n) 8).take k).map B)) ∧ Hid (Blk wr g 46 (List.replicate 32 (B 0))) ∧ Hid (Below g w wr) ∧ Hid (g + 1 ≤ wr.heap.size)) (fun v i _ => (intOf i + 1).toNat)
 case atStart => exact ⟨0, A4, c4, by omega, rfl, rfl, (show wo.ownsRow _ _ _ _ _ _ by simpa using hown.out), hblk, hbw, hsz⟩
 case round =>
  clear hown hblk hbw hsz
  obtain ⟨k, A5, c5, hk, rfl, rfl, hown, hblk, hbw, hsz⟩ := hrel
  by_cases hlt : k < 8
  ·as_aux_lemma =>
   have hbyte : ((n : Int) * 8) / 2 ^ (8 * (7 - k)) % 256 = b8 (beByte (8 * n) 8 k) := by
    have := beByte_div (8 * n) 8 k
    rw [show (n : Int) * 8 = ((8 * n : Nat) : Int) by omega]
    exact this
   have s0 : 0 ≤ 8 * (7 - (k : Int)) := by omega
   have s1 : 8 * (7 - (k : Int)) ≤ 63 := by omega
   have s2 : (8 * (7 - (k : Int))).toNat = 8 * (7 - k) := by omega
   have HSN := kp (show (beBytes (8 * n) 8).take (k + 1) = (beBytes (8 * n) 8).take k ++ [beByte (8 * n) 8 k] by
    rw [beBytes, ← List.map_take, ← List.map_take, List.take_range, List.take_range, Nat.min_eq_left (by omega), Nat.min_eq_left (by omega), List.range_succ]; simp)
   go_wp2_with (at_builtin; refine wpl_app1 rfl rfl el_u8 hown.out rfl (m := 1) rfl rfl ?_ ?_ ?_ hsz.out ?_)
   ·simp [Value.oneCell']
   ·omega
   ·omega
   ·intro A6 c6 w6 ho hg _
    have hb3 := below_grown hbw.out hg (by have := hsz.out; omega) (fun j hj => by have := own_from hown.out j hj; omega)
    have HO5 := kp ho
    have HB5 := kp (hblk.out.grown hg (fun e => by have := own_from hown.out g e.symm; omega))
    have HBW5 := kp hb3
    have HSZ5 := kp (Nat.le_trans hsz.out hg.size)
    clear ho hb3 hg
    go_wp2_with fail
    go_roundw
    case rel =>
     refine ⟨k + 1, A6, c6, by omega, by go_num, rfl, ?_, HB5, HBW5, HSZ5⟩
     have h5 := HO5.out
     show w6.ownsRow _ _ _ _ _ _
     rw [HSN.out, show n + 1 + j + (k + 1) = n + 1 + j + k + 1 by omega, ← List.append_assoc]
     simpa [show Value.int .u8 (b8 (beByte (8 * n) 8 k)) = B (beByte (8 * n) 8 k) from rfl] using h5
    case measure => simp [intOf]; omega
  ·obtain rfl : k = 8 := by omega
   rw [show (7 - ((8 : Nat) : Int)) = -1 by omega]
   go_wp2_with fail
   exact HEX.out hown.out hblk.out hbw.out hsz.out
end Go.Proofs.YtnnjjbkdjkjnpaaGreatDoor
namespace Go.Proofs.YtnnjjbkdjkjnpaaGreatDoor
open Go.RowKit Go.Shelf
attribute [local go_sem ↓ high] add_w
attribute [local go_sem high] xor_w and_w or_w not_w shr_w shl_w wrap_b8
attribute [local go_sem ↓ high] not_sub
theorem rs_out {o0 o2 o3 o4 o5 o6 o7 o8 o9 o10 o11 o12 o13 o14 o15 o16 o17 o18 o19 o20 o21 o22 o25 o26 o27 o28 o29 o30 o31 o32 o33 o34 o35 o36 o37 o38 o39 o40 o41 o42 o43 o44 o45 o46 o47 o48 o49 o50 o51 o52 o53 o54 o55 o56 o57 o58 o59 o60 o61 o62 o63 o64 o65 o66 o67 o68 o69 o70 o71 o72 o73 o74 o75 o76 o77 o78 o79 o80 o81 o82 o83 o84 o85 o86 o87 o88 o89 o90 o91 o92 o93 o94 o95 o96 o97 o98 o99 o100 o101 o102 o103 o104 o105 o106 o107 o108 o109 o110 o111 o112 o113 o114 o115 o116 o117 o118 o119 o120 o121 o122 o123 o124 o125 o126 o127 o128 o129 o130 o131 o132 o133 o134 o135 o136 o137 o138 o139 o140 o141 o142 o143 o144 o145 o146 o147 o148 o149 o150 o151 o152 o153 o154 o155 o156 o157 o158 o159 o160 o161 o162 o163 o164 o165 o166 o167 o168 o169 o170 o171 o172 o173 o174 o175 o176 o177 o178 o179 o180 o181 o182 o183 o184 o185 o186 o187 o188 o189 o190 o191 o192 o193 o194 o195 o196 o197 o198 o199 o200 o201 o202 o203 o204 o205 o206 o207 o208 o209 o210 o211 o212 o213 o214 o215 o216 o217 o218 o219 o220 o221 o222 o223 o224 o225 o226 o227 o228 o229 o230 o231 o232 o233 o234 o235 o236 o237 o238 o239 o240 o241 o242 o243 o244 o245 o246 o247 o248 o249 o250 o251 o252 o253 o254 o255 o256 o257 o258 o259 o260 o261 o262 o263 o264 o265 o266 o267 o268 o269 o270 o271 o272 o273 o274 o275 o276 o277 o278 o279 o280 o281 o282 o283 o284 o285 o286 o287 o288 o289 o290 o291 o292 o293 o294 o295 o296 o297 o298 o299 o300 o301 o302 o303 o304 o305 o306 o307 o308 o309 o310 o311 o312 o313 o314 o315 o316 o317 o318 o319 o320 o321 o322 o323 : Value} {Q0 : Exit → Act → World → Prop} {g s1 s2 gm gh go b c5 c7 : Nat} {M : List UInt8} {st : St} {w wf : World} (HGO : Hid (s2 ≤ go))
  (HOUT : Hid (Blk wf go 46 (List.replicate 32 (B 0)))) (HKO : Hid (KeepR g s1 s2 gm gh b c5 c7 M (st.toList.map W) w wf))
  (HEX : Hid (∀ {u_306 u_307 u_308 u_309 u_310 u_311 u_312 u_313 u_314 u_315 u_316 u_317 u_318 u_319 u_320 u_321 u_322 : Value} {wr : World}, Blk wr go 46 ((outB st).map B) → KeepR g s1 s2 gm gh b c5 c7 M (st.toList.map W) w wr → Q0 (.exit 12) ⟨(o0 :: (.slice (some ⟨gh, 0, none⟩) 8 c7) :: o2 :: o3 :: o4 :: o5 :: o6 :: o7 :: o8 :: o9 :: o10 :: o11 :: o12 :: o13 :: o14 :: o15 :: o16 :: o17 :: o18 :: o19 :: o20 :: o21 :: o22 :: (.pointer (some ⟨go, 0, none⟩)) :: (.int .i64 32) :: o25 :: o26 :: o27 :: o28 :: o29 :: o30 :: o31 :: o32 :: o33 :: o34 :: o35 :: o36 :: o37 :: o38 :: o39 :: o40 :: o41 :: o42 :: o43 :: o44 :: o45 :: o46 :: o47 :: o48 :: o49 :: o50 :: o51 :: o52 :: o53 :: o54 :: o55 :: o56 :: o57 :: o58 :: o59 :: o60 :: o61 :: o62 :: o63 :: o64 :: o65 :: o66 :: o67 :: o68 :: o69 :: o70 :: o71 :: o72 :: o73 :: o74 :: o75 :: o76 :: o77 :: o78 :: o79 :: o80 :: o81 :: o82 :: o83 :: o84 :: o85 :: o86 :: o87 :: o88 :: o89 :: o90 :: o91 :: o92 :: o93 :: o94 :: o95 :: o96 :: o97 :: o98 :: o99 :: o100 :: o101 :: o102 :: o103 :: o104 :: o105 :: o106 :: o107 :: o108 :: o109 :: o110 :: o111 :: o112 :: o113 :: o114 :: o115 :: o116 :: o117 :: o118 :: o119 :: o120 :: o121 :: o122 :: o123 :: o124 :: o125 :: o126 :: o127 :: o128 :: o129 :: o130 :: o131 :: o132 :: o133 :: o134 :: o135 :: o136 :: o137 :: o138 :: o139 :: o140 :: o141 :: o142 :: o143 :: o144 :: o145 :: o146 :: o147 :: o148 :: o149 :: o150 :: o151 :: o152 :: o153 :: o154 :: o155 :: o156 :: o157 :: o158 :: o159 :: o160 :: o161 :: o162 :: o163 :: o164 :: o165 :: o166 :: o167 :: o168 :: o169 :: o170 :: o171 :: o172 :: o173 :: o174 :: o175 :: o176 :: o177 :: o178 :: o179 :: o180 :: o181 :: o182 :: o183 :: o184 :: o185 :: o186 :: o187 :: o188 :: o189 :: o190 :: o191 :: o192 :: o193 :: o194 :: o195 :: o196 :: o197 :: o198 :: o199 :: o200 :: o201 :: o202 :: o203 :: o204 :: o205 :: o206 :: o207 :: o208 :: o209 :: o210 :: o211 :: o212 :: o213 :: o214 :: o215 :: o216 :: o217 :: o218 :: o219 :: o220 :: o221 :: o222 :: o223 :: o224 :: o225 :: o226 :: o227 :: o228 :: o229 :: o230 :: o231 :: o232 :: o233 :: o234 :: o235 :: o236 :: o237 :: o238 :: o239 :: o240 :: o241 :: o242 :: o243 :: o244 :: o245 :: o246 :: o247 :: o248 :: o249 :: o250 :: o251 :: o252 :: o253 :: o254 :: o255 :: o256 :: o257 :: o258 :: o259 :: o260 :: o261 :: o262 :: o263 :: o264 :: o265 :: o266 :: o267 :: o268 :: o269 :: o270 :: o271 :: o272 :: o273 :: o274 :: o275 :: o276 :: o277 :: o278 :: o279 :: o280 :: o281 :: o282 :: o283 :: o284 :: o285 :: o286 :: o287 :: o288 :: o289 :: o290 :: o291 :: o292 :: o293 :: o294 :: o295 :: o296 :: o297 :: o298 :: o299 :: o300 :: o301 :: o302 :: o303 :: o304 :: o305 :: u_306 :: u_307 :: u_308 :: u_309 :: u_310 :: u_311 :: u_312 :: u_313 :: u_314 :: u_315 :: u_316 :: u_317 :: u_318 :: u_319 :: u_320 :: u_321 :: u_322 :: o323 :: []).toArray, []⟩ wr)) :
  Code.wp Tryz.prog (.loop (rsBody 6)) Q0 ⟨(o0 :: (.slice (some ⟨gh, 0, none⟩) 8 c7) :: o2 :: o3 :: o4 :: o5 :: o6 :: o7 :: o8 :: o9 :: o10 :: o11 :: o12 :: o13 :: o14 :: o15 :: o16 :: o17 :: o18 :: o19 :: o20 :: o21 :: o22 :: (.pointer (some ⟨go, 0, none⟩)) :: (.int .i64 0) :: o25 :: o26 :: o27 :: o28 :: o29 :: o30 :: o31 :: o32 :: o33 :: o34 :: o35 :: o36 :: o37 :: o38 :: o39 :: o40 :: o41 :: o42 :: o43 :: o44 :: o45 :: o46 :: o47 :: o48 :: o49 :: o50 :: o51 :: o52 :: o53 :: o54 :: o55 :: o56 :: o57 :: o58 :: o59 :: o60 :: o61 :: o62 :: o63 :: o64 :: o65 :: o66 :: o67 :: o68 :: o69 :: o70 :: o71 :: o72 :: o73 :: o74 :: o75 :: o76 :: o77 :: o78 :: o79 :: o80 :: o81 :: o82 :: o83 :: o84 :: o85 :: o86 :: o87 :: o88 :: o89 :: o90 :: o91 :: o92 :: o93 :: o94 :: o95 :: o96 :: o97 :: o98 :: o99 :: o100 :: o101 :: o102 :: o103 :: o104 :: o105 :: o106 :: o107 :: o108 :: o109 :: o110 :: o111 :: o112 :: o113 :: o114 :: o115 :: o116 :: o117 :: o118 :: o119 :: o120 :: o121 :: o122 :: o123 :: o124 :: o125 :: o126 :: o127 :: o128 :: o129 :: o130 :: o131 :: o132 :: o133 :: o134 :: o135 :: o136 :: o137 :: o138 :: o139 :: o140 :: o141 :: o142 :: o143 :: o144 :: o145 :: o146 :: o147 :: o148 :: o149 :: o150 :: o151 :: o152 :: o153 :: o154 :: o155 :: o156 :: o157 :: o158 :: o159 :: o160 :: o161 :: o162 :: o163 :: o164 :: o165 :: o166 :: o167 :: o168 :: o169 :: o170 :: o171 :: o172 :: o173 :: o174 :: o175 :: o176 :: o177 :: o178 :: o179 :: o180 :: o181 :: o182 :: o183 :: o184 :: o185 :: o186 :: o187 :: o188 :: o189 :: o190 :: o191 :: o192 :: o193 :: o194 :: o195 :: o196 :: o197 :: o198 :: o199 :: o200 :: o201 :: o202 :: o203 :: o204 :: o205 :: o206 :: o207 :: o208 :: o209 :: o210 :: o211 :: o212 :: o213 :: o214 :: o215 :: o216 :: o217 :: o218 :: o219 :: o220 :: o221 :: o222 :: o223 :: o224 :: o225 :: o226 :: o227 :: o228 :: o229 :: o230 :: o231 :: o232 :: o233 :: o234 :: o235 :: o236 :: o237 :: o238 :: o239 :: o240 :: o241 :: o242 :: o243 :: o244 :: o245 :: o246 :: o247 :: o248 :: o249 :: o250 :: o251 :: o252 :: o253 :: o254 :: o255 :: o256 :: o257 :: o258 :: o259 :: o260 :: o261 :: o262 :: o263 :: o264 :: o265 :: o266 :: o267 :: o268 :: o269 :: o270 :: o271 :: o272 :: o273 :: o274 :: o275 :: o276 :: o277 :: o278 :: o279 :: o280 :: o281 :: o282 :: o283 :: o284 :: o285 :: o286 :: o287 :: o288 :: o289 :: o290 :: o291 :: o292 :: o293 :: o294 :: o295 :: o296 :: o297 :: o298 :: o299 :: o300 :: o301 :: o302 :: o303 :: o304 :: o305 :: o306 :: o307 :: o308 :: o309 :: o310 :: o311 :: o312 :: o313 :: o314 :: o315 :: o316 :: o317 :: o318 :: o319 :: o320 :: o321 :: o322 :: o323 :: []).toArray, []⟩ wf := by
 conv => arg 2; arg 1; whnf
 go_loopw [24] (fun i wr => ∃ k : Nat, ∃ xs : List Value, k ≤ 32 ∧ i = .int .i64 k ∧ Hid (Blk wr go 46 xs) ∧ Hid (xs.length = 32 ∧ ∀ i, i < k → xs[i]? = some (B (((outB st)[i]?).getD 0))) ∧ Hid (KeepR g s1 s2 gm gh b c5 c7 M (st.toList.map W) w wr)) (fun i _ => 32 - (intOf i).toNat)
 case atStart => exact ⟨0, _, by omega, rfl, HOUT, kp ⟨by simp, fun i hi => absurd hi (by omega)⟩, HKO⟩
 case round =>
  clear HKO HOUT
  obtain ⟨k, xs, hk, rfl, hout, hxs, hkv⟩ := hrel
  by_cases hk32 : k < 32
  ·as_aux_lemma =>
   obtain ⟨q, hq⟩ : ∃ q, q = k / 4 := ⟨_, rfl⟩
   obtain ⟨r, hr⟩ : ∃ r, r = k % 4 := ⟨_, rfl⟩
   have HOB := kp (show (outB st)[k]? = some (beByte (st.at_ q).toNat 4 r) by rw [hq, hr]; exact outB_get st k hk32)
   have gq : q < 8 := by omega
   have gr : r < 4 := by omega
   have y1 : (k : Int) / 4 = (q : Int) := by omega
   have y2 : (k : Int) % 4 = (r : Int) := by omega
   have t4 : (k : Int).tdiv 4 = (q : Int) := by rw [Int.tdiv_eq_ediv_of_nonneg (by omega)]; omega
   have m4 : (k : Int).tmod 4 = (r : Int) := by rw [Int.tmod_eq_emod_of_nonneg (by omega)]; omega
   clear hq hr
   have y4 : IntKind.i64.wrap (8 * (r : Int)) = 8 * (r : Int) := IntWalk.i64_in _ (by omega)
   have y3 : IntKind.i64.wrap (24 - 8 * (r : Int)) = 24 - 8 * (r : Int) := IntWalk.i64_in _ (by omega)
   have s0 : 0 ≤ 24 - 8 * (r : Int) := by omega
   have s1' : 24 - 8 * (r : Int) ≤ 31 := by omega
   have s2' : (24 - 8 * (r : Int)).toNat = 8 * (3 - r) := by omega
   have gk : (k : Int) < 32 := by omega
   have g8 : (q : Int) < 8 := by omega
   have hk6 := hkv.out
   have q1 : wr.cell? ⟨gh, q, none⟩ = some (.int .u32 (w32 (st.at_ q))) := (hk6.hs.cellAt q (by omega)).trans (st.get_at q gq)
   have hfz := hout.out.frozen k
   obtain ⟨u, hcl⟩ : ∃ u, wr.cell? ⟨go, k, none⟩ = some u := ⟨_, hout.out.at_ (List.getElem?_eq_getElem (by rw [hxs.out.1]; omega))⟩
   have HK6 := kp hk6
   clear hk6 hkv
   generalize st.at_ q = x at *
   have hby : w32 x / 2 ^ (8 * (3 - r)) % 256 = b8 (beByte x.toNat 4 r) := beByte_div x.toNat 4 r
   go_wp2_with fail
   have hset := set_upto (f := fun i => B (((outB st)[i]?).getD 0)) hxs.out.1 hk32 hxs.out.2
   rw [show B (((outB st)[k]?).getD 0) = .int .u8 (b8 (beByte x.toNat 4 r)) by rw [HOB.out]; rfl] at hset
   go_roundw
   case rel => exact ⟨k + 1, _, by omega, by go_num, hout.out.set_ k _, ⟨by simp [hxs.out.1], hset⟩, HK6.out.grown (grown_set wr go k _) (fun j hj => by cases hj; exact HGO.out)⟩
   case measure => simp [intOf]; omega
  ·obtain rfl : k = 32 := by omega
   have hxx := eq_of_upto (f := fun i => B (((outB st)[i]?).getD 0)) hxs.out.1 hxs.out.2
   rw [range_getD _ (outB st) 32 (outB_length st)] at hxx
   rw [show ((32 : Nat) : Int) = 32 from rfl]
   rw [hxx] at hout
   go_wp2_with fail
   exact HEX.out hout.out hkv.out
end Go.Proofs.YtnnjjbkdjkjnpaaGreatDoor
