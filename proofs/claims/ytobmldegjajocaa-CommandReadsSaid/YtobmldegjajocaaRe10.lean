/- Contracts of the document's Put of headers and entries. Printed by mkhdrd.py. -/
import Derived.Test.YtobmldegjajocaaRe9
set_option linter.unusedSimpArgs false
set_option linter.unusedVariables false
set_option maxRecDepth 100000
set_option maxHeartbeats 16000000
namespace Go.Proofs.Ytobmldegjajocaa
open Go.RowKit Go.Shelf
theorem blk_setCells {g : Nat} {t : TypeId} : ∀ (vs : List Value) (o : Nat) (w : World) (cs : List Value), Blk w g t cs → o + vs.length ≤ cs.length → Blk (w.setCells g o vs) g t (splice cs o vs)
 | [], o, w, cs, h, _ => by simpa [splice, World.setCells] using h
 | v :: r, o, w, cs, h, hl => by
  simp only [List.length_cons] at hl;have h1 := blk_setCells r (o + 1) _ _ (h.set_ o v) (by rw [List.length_set]; omega)
  have e : splice (cs.set o v) (o + 1) r = splice cs o (v :: r) := by
   apply List.ext_getElem?
   intro k;rw [splice_get _ _ _ _ (by rw [List.length_set]; omega), splice_get _ _ _ _ (by simp only [List.length_cons]; omega)];simp only [List.length_cons];by_cases h1 : k = o
   ·subst h1;rw [if_neg (by omega), if_pos (by omega), List.getElem?_set, if_pos rfl, if_pos (by omega), Nat.sub_self]; rfl
   ·by_cases h2 : o + 1 ≤ k ∧ k < o + 1 + r.length
    ·rw [if_pos h2, if_pos (by omega), show k - o = (k - (o + 1)) + 1 by omega, List.getElem?_cons_succ]
    ·rw [if_neg h2, if_neg (by omega), List.getElem?_set, if_neg (by omega)]
  rw [e] at h1;exact h1
theorem grown_setCells (g : Nat) : ∀ (vs : List Value) (o : Nat) (w : World), w.grownBy (w.setCells g o vs) (some g) ∧ (w.setCells g o vs).heap.size = w.heap.size
 | [], o, w => ⟨⟨rfl, rfl, rfl, Nat.le_refl _, fun _ _ _ => rfl⟩, rfl⟩
 | v :: r, o, w => by
  obtain ⟨h1, h2⟩ := grown_setCells g r (o + 1) (w.setCell ⟨g, o, none⟩ v);exact ⟨grown_trans (grown_set w g o v) h1, h2.trans (by simp)⟩
section
variable {P : Program} {ops : Array Oper} {rest : List Oper} {o : Oper} {a : Act} {w : World} {Q : Exit → Act → World → Prop}
theorem wpl_storem (hgd : o.guard = none) {T : TypeId} {x y : Operand} (ho : o.op = .store T x y) {n : Nat} (hT : RowT P T n) {g off : Nat} {t : TypeId} {old cs : List Value} (hb : Blk w g t old) (hx : a.eval x = .pointer (some ⟨g, off, none⟩)) (hy : a.eval y = .agg cs.toArray)
  (hn : cs.length = n) (hle : off + n ≤ old.length) (h1 : ∀ u ∈ cs, u.oneCell' = true)
  (h : ∀ w', Blk w' g t (splice old off cs) → w.grownBy w' (some g) → w'.heap.size = w.heap.size → wpList P ops Q rest (a.put o.dst undef) w') : wpList P ops Q (o :: rest) a w := by
 obtain ⟨d, hu, hd, hi⟩ := hT;refine wpList_store_mid hgd T x y ho g off cs.toArray hx hy (fun j hj => ?_) (by rw [hi]; simp [hn]) (all_oneCell_toArray h1) ?_
 ·simp only [List.size_toArray] at hj;exact ⟨by rw [hb.at_ (List.getElem?_eq_getElem (show off + j < old.length by omega))]; rfl, hb.frozen _⟩
 ·obtain ⟨h2, h3⟩ := grown_setCells g cs off w;exact h _ (blk_setCells cs off w old hb (by omega)) h2 h3
end
theorem built_hdr0 (parts : List (Nat × Value)) : Try.prog.built 57 parts = Instr.fill (fun i => (#[(0, 1), (1, 1), (2, 1), (3, 32), (35, 32)] : Array (Nat × Nat))[i]?) (hdrV noHdr).toArray parts := by kernel_rfl
theorem zero_hdr2 : (Try.prog.info? 57).map (·.zero) = some (some (.agg (hdrV noHdr).toArray)) := by rw [zeroHdr_eq]; exact zero_hdr
theorem built_hdrE : Try.prog.built 57 [] = some (hdrV noHdr).toArray := by rw [built_hdr0]; rfl
theorem hdr_one (h : Hdr) : ∀ u ∈ hdrV h, u.oneCell' = true := by
 intro u hu;unfold hdrV at hu;simp only [List.mem_cons, List.mem_append, List.mem_map] at hu;rcases hu with rfl | rfl | rfl | ⟨_, _, rfl⟩ | ⟨_, _, rfl⟩ <;> rfl
end Go.Proofs.Ytobmldegjajocaa
namespace Go.Proofs.Ytobmldegjajocaa
open Go.RowKit Go.Shelf
section
variable {P : Program} {ops : Array Oper} {rest : List Oper} {o : Oper} {a : Act} {w : World} {Q : Exit → Act → World → Prop}
end
end Go.Proofs.Ytobmldegjajocaa
namespace Go.Proofs.Ytobmldegjajocaa
open Go.RowKit Go.Shelf
def KeepC (w : World) (a : Addr) (v : Value) : Prop := w.cell? a = some v
theorem KeepC.grow {w w' : World} {a : Addr} {v : Value} (h : KeepC w a v) (k : Grow w w') : KeepC w' a v := by
 unfold KeepC at *;rw [k.cell (World.block_lt_of_cell? w _ h)]; exact h
def HV (xs : List Value) : Prop := xs.length = 67 ∧ ∀ u ∈ xs, u.oneCell' = true
theorem bytes1_any {res : Bool} {A A2 : Option Addr} {n c n2 c2 : Nat} {xs ys : List UInt8} (hres : decide (xs = ys) = res) (w : World) (h1 : Sl w w.heap.size 1 A n (xs.map B)) (h2 : Sl w w.heap.size 1 A2 n2 (ys.map B)) (hn : n ≤ 1000000) :
  Calls Try.prog 11 #[.slice A n c, .slice A2 n2 c2] w fun e w' => e = .returned (.bool res) ∧ Below w.heap.size w w' := by
 have H1 := kp h1; have H2 := kp h2;have HL1 := kq (xs.length = n) (by have := h1.len; simpa using this);have HL2 := kq (ys.length = n2) (by have := h2.len; simpa using this);have HRES := kp hres;clear h1 h2 hres;by_cases hnn : n = n2
 ·subst hnn;have z1 : ((n : Int) != (n : Int)) = false := by simp
  go_enter Try.func11, Try.ntmps11
  go_wp2_with fail;go_loopw [5] (fun i wr => ∃ k : Nat, k ≤ n ∧ i = .int .i64 k ∧ Hid (xs.take k = ys.take k) ∧ Hid (Below w.heap.size w wr)) (fun i _ => n - (intOf i).toNat)
  case atStart => exact ⟨0, by omega, rfl, kp (by simp), kp (Below.refl _ _)⟩
  case round =>
   obtain ⟨k, hk, rfl, heq, hbw⟩ := hrel;by_cases hlt : k < n
   ·have HB := hbw;have H1A := kp ((H1.o.below HB.o).more HB.o.size);have H2A := kp ((H2.o.below HB.o).more HB.o.size);obtain ⟨x, hx⟩ : ∃ x, xs[k]? = some x := ⟨_, List.getElem?_eq_getElem (by rw [HL1.o]; exact hlt)⟩;obtain ⟨y, hy⟩ : ∃ y, ys[k]? = some y := ⟨_, List.getElem?_eq_getElem (by rw [HL2.o]; exact hlt)⟩;have HX := kp hx; have HY := kp hy;clear hx hy;by_cases hxy : x = y
    ·subst hxy;try go_wp2_with fail
     repeat' (first | (with_reducible refine wpp (id := 6) Grow [0,0,0,2,0,0,0,2,0] (.get 0 (.get 1 (.get 2 (.get 3 (.get 4 (.get 5 (.get 6 (.get 7 (.get 8 .done))))))))) Grow.refl Grow.trans ?_) | go_values | go_skip | go_guarded | go_step | go_upon | go_back)
     intro w_ hd_;have y_ := hd_.grow;replace HB := kp (HB.o.grow' y_);replace H1A := kp (H1A.o.grow y_);replace H2A := kp (H2A.o.grow y_);clear y_ hd_;obtain ⟨b1, o1, u1, rfl, hb1, hu1, hc1⟩ := H1A.o.at_ hlt;obtain ⟨b2, o2, u2, rfl, hb2, hu2, hc2⟩ := H2A.o.at_ hlt;obtain rfl : u1 = .int .u8 (b8 x) := by rw [List.getElem?_map, HX.o] at hu1; exact (Option.some.inj hu1).symm
     obtain rfl : u2 = .int .u8 (b8 x) := by rw [List.getElem?_map, HY.o] at hu2; exact (Option.some.inj hu2).symm
     clear hb1 hb2 hu1 hu2;repeat (first | (refine plc (fun K hK => ?_); go_simp; refine hK _ _ ?_; clear hK K) | (refine pls (fun K hK => ?_); go_simp; refine hK _ _ ?_; clear hK K) | (refine psa (fun K hK => ?_); go_simp; refine hK _ _ ?_; clear hK K) | (refine pl_load rfl rfl (by first | exact wanted_none rfl | (go_simp; done) | rfl) rfl (by first | rfl | (go_simp; rfl)) (by kernel_rfl) (by first | exact hc1 | exact hc2) (fun K hK => ?_); go_simp; refine hK _ _ ?_; clear hK K) | (refine pl_loadnow rfl rfl (by first | exact wanted_none rfl | (go_simp; done) | rfl) rfl (by first | rfl | (go_simp; rfl)) (by kernel_rfl) (by first | exact hc1 | exact hc2) (fun K hK => ?_); go_simp; refine hK _ _ ?_; clear hK K))
     refine pl_done ?_;clear hc1 hc2;have HE := kq (xs.take (k + 1) = ys.take (k + 1)) (by rw [List.take_add_one, List.take_add_one, heq.o, HX.o, HY.o]);go_wp2_with fail;go_roundw
     case rel => exact ⟨k + 1, by omega, by go_num, HE, HB⟩
     case measure => simp [intOf]; omega
    ·have hbb : ((b8 x) != (b8 y)) = true := by
      have : b8 x ≠ b8 y := fun h => hxy (b8_inj h)
      simpa using this
     have HF := kp (show res = false by
      rw [← HRES.o]
      have : xs ≠ ys := fun h => by
       subst h;have h1 := HX.o;rw [HY.o] at h1;exact hxy (Option.some.inj h1).symm
      simpa using this)
     have hne : b8 x ≠ b8 y := fun h => hxy (b8_inj h)
     have hq := eq_false hne;clear hxy;try go_wp2_with fail
     repeat' (first | (with_reducible refine wpp (id := 6) Grow [0,0,0,2,0,0,0,2,0] (.get 0 (.get 1 (.get 2 (.get 3 (.get 4 (.get 5 (.get 6 (.get 7 (.get 8 .done))))))))) Grow.refl Grow.trans ?_) | go_values | go_skip | go_guarded | go_step | go_upon | go_back)
     intro w_ hd_;have y_ := hd_.grow;replace HB := kp (HB.o.grow' y_);replace H1A := kp (H1A.o.grow y_);replace H2A := kp (H2A.o.grow y_);clear y_ hd_;obtain ⟨b1, o1, u1, rfl, hb1, hu1, hc1⟩ := H1A.o.at_ hlt;obtain ⟨b2, o2, u2, rfl, hb2, hu2, hc2⟩ := H2A.o.at_ hlt;obtain rfl : u1 = .int .u8 (b8 x) := by rw [List.getElem?_map, HX.o] at hu1; exact (Option.some.inj hu1).symm
     obtain rfl : u2 = .int .u8 (b8 y) := by rw [List.getElem?_map, HY.o] at hu2; exact (Option.some.inj hu2).symm
     clear hb1 hb2 hu1 hu2;repeat (first | (refine plc (fun K hK => ?_); go_simp; refine hK _ _ ?_; clear hK K) | (refine pls (fun K hK => ?_); go_simp; refine hK _ _ ?_; clear hK K) | (refine psa (fun K hK => ?_); go_simp; refine hK _ _ ?_; clear hK K) | (refine pl_load rfl rfl (by first | exact wanted_none rfl | (go_simp; done) | rfl) rfl (by first | rfl | (go_simp; rfl)) (by kernel_rfl) (by first | exact hc1 | exact hc2) (fun K hK => ?_); go_simp; refine hK _ _ ?_; clear hK K) | (refine pl_loadnow rfl rfl (by first | exact wanted_none rfl | (go_simp; done) | rfl) rfl (by first | rfl | (go_simp; rfl)) (by kernel_rfl) (by first | exact hc1 | exact hc2) (fun K hK => ?_); go_simp; refine hK _ _ ?_; clear hK K))
     refine pl_done ?_;clear hc1 hc2;go_wp2_with fail;go_ret
     exact ⟨by rw [HF.o]; rfl, HB.o⟩
   ·obtain rfl : k = n := by omega
    have HT := kp (show res = true by
     rw [← HRES.o];have h := heq.o;rw [List.take_of_length_le (by rw [HL1.o]; exact Nat.le_refl _), List.take_of_length_le (by rw [HL2.o]; exact Nat.le_refl _)] at h
     simpa using h)
    go_wp2_with fail;go_ret
    exact ⟨by rw [HT.o]; rfl, hbw.o⟩
 ·have z1 : ((n : Int) != (n2 : Int)) = true := by simp; omega
  have HF := kp (show res = false by
   rw [← HRES.o];have : xs ≠ ys := fun h => by subst h; exact hnn (by rw [← HL1.o, ← HL2.o])
   simpa using this)
  have hz : ¬ ((n : Int) = (n2 : Int)) := by omega
  have hzq := eq_false hz
  go_enter Try.func11, Try.ntmps11
  go_wp2_with fail;go_ret
  exact ⟨by rw [HF.o]; rfl, Below.refl _ _⟩
theorem map_B_injH : ∀ {a b : List UInt8}, a.map B = b.map B → a = b
 | [], [], _ => rfl
 | [], _ :: _, h => by simp at h
 | _ :: _, [], h => by simp at h
 | x :: a, y :: b, h => by
  simp only [List.map_cons, List.cons.injEq] at h;have h1 : x = y := by have := h.1; unfold B at this; exact b8_inj (by injection this)
  rw [h1, map_B_injH h.2]
theorem hdrV_inj {x y : Hdr} (hx : x.ok) (hy : y.ok) (h : hdrV x = hdrV y) : x = y := by
 obtain ⟨a1, a2, a3, p, r⟩ := x;obtain ⟨b1, b2, b3, q, s⟩ := y
 have h0 : [Value.int .i64 a1, .int .i64 a2, .int .i64 a3] ++ (p.map B ++ r.map B) = [Value.int .i64 b1, .int .i64 b2, .int .i64 b3] ++ (q.map B ++ s.map B) := by
  simpa [hdrV] using h
 obtain ⟨h1, h2⟩ := List.append_inj h0 rfl;obtain ⟨h3, h4⟩ := List.append_inj h2 (by rw [List.length_map, List.length_map]; exact hx.2.2.2.1.trans hy.2.2.2.1.symm);have e1 := map_B_injH h3;have e2 := map_B_injH h4;simp only [List.cons.injEq, Value.int.injEq, true_and, and_true] at h1;obtain ⟨rfl, rfl, rfl⟩ := h1;rw [e1, e2]
open Go.RowKit
def StopT (p : Prop) : Prop := p
theorem wpl_stop {P : Program} {ops : Array Oper} {rest : List Oper} {o : Oper} {a : Act} {w : World} {Q : Exit → Act → World → Prop} (h : StopT (wpList P ops Q (o :: rest) a w)) : wpList P ops Q (o :: rest) a w := h
theorem wst {P : Program} {ops : Array Oper} {rest : List Oper} (s : Nat) {op : Op} {ty : TypeId} {ps : String} {af : Array Edge} {gd : Option (Nat × Bool)} {a : Act} {w : World} {Q : Exit → Act → World → Prop} (h : StopT (wpList P ops Q (⟨some s, op, ty, ps, af, gd⟩ :: rest) a w)) : wpList P ops Q (⟨some s, op, ty, ps, af, gd⟩ :: rest) a w := h
theorem stop_go {p : Prop} (h : p) : StopT p := h
end Go.Proofs.Ytobmldegjajocaa
