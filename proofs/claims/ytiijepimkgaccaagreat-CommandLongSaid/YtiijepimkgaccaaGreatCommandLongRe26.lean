/- Contracts of header.look and entry.look. -/
import Derived.Test.YtiijepimkgaccaaGreatCommandLongRe25
set_option linter.unusedSimpArgs false
set_option linter.unusedVariables false
set_option maxRecDepth 100000
set_option maxHeartbeats 16000000
namespace Go.Proofs.YtiijepimkgaccaaGreat
open Go.RowKit Go.Shelf
def lookH2 (l : List UInt8) : Rd Hdr := match lookH l with
 | .error x => .error x
 | .ok (h, t) => if t = [] ∧ h.height = 0 then .error 3 else .ok (h, t)
theorem zero_hdr3 : (Tryz.prog.info? 41).map (·.zero) = some (some (.agg (hdrV noHdr).toArray)) := zero_hdr2
theorem zero_ent3 : (Tryz.prog.info? 38).map (·.zero) = some (some (.agg (entV noEnt).toArray)) := by kernel_rfl
theorem row_ent3 : RowT Tryz.prog 38 37 := ⟨_, Tryz.underlying38, by kernel_rfl, by kernel_rfl⟩
theorem hdr_look {s h ep : Int} {p r : List UInt8} (hp : p.length = 32) (hr : r.length = 32) :
  splice (splice ((((hdrV noHdr).set 0 (.int .i64 s)).set 1 (.int .i64 h)).set 2 (.int .i64 ep)) 3 (p.map B)) 35 (r.map B) = hdrV ⟨s, h, ep, p, r⟩ := by
 have e1 : (((hdrV noHdr).set 0 (.int .i64 s)).set 1 (.int .i64 h)).set 2 (.int .i64 ep) = [.int .i64 s, .int .i64 h, .int .i64 ep] ++ (zeroD.map B ++ zeroD.map B) := rfl;have hz : zeroD.length = 32 := by simp [zeroD]
 rw [e1, splice_mid (off := 3) rfl (by simp [hp, hz])];have e2 : [Value.int .i64 s, .int .i64 h, .int .i64 ep] ++ (p.map B ++ zeroD.map B) = ([.int .i64 s, .int .i64 h, .int .i64 ep] ++ p.map B) ++ (zeroD.map B ++ []) := by simp
 rw [e2, splice_mid (off := 35) (by simp [hp]) (by simp [hr, hz])];simp [hdrV]
theorem ent_look {k s y ep a : Int} {t : List UInt8} (ht : t.length = 32) :
  (((splice (((entV noEnt).set 0 (.int .i64 k)).set 1 (.int .i64 s)) 2 (t.map B)).set 34 (.int .u64 a)).set 35 (.int .i64 y)).set 36 (.int .i64 ep) = entV ⟨k, s, t, a, y, ep⟩ := by
 have hz : zeroD.length = 32 := by simp [zeroD]
 have e1 : ((entV noEnt).set 0 (.int .i64 k)).set 1 (.int .i64 s) = [.int .i64 k, .int .i64 s] ++ (zeroD.map B ++ [.int .u64 0, .int .i64 0, .int .i64 0]) := rfl;rw [e1, splice_mid (off := 2) rfl (by simp [ht, hz])];have hl : ([Value.int .i64 k, .int .i64 s] ++ t.map B).length = 34 := by simp [ht]
 have e2 : [Value.int .i64 k, .int .i64 s] ++ (t.map B ++ [.int .u64 0, .int .i64 0, .int .i64 0]) = ([Value.int .i64 k, .int .i64 s] ++ t.map B) ++ [.int .u64 0, .int .i64 0, .int .i64 0] := by simp
 have e3 : entV ⟨k, s, t, a, y, ep⟩ = ([Value.int .i64 k, .int .i64 s] ++ t.map B) ++ [.int .u64 a, .int .i64 y, .int .i64 ep] := by simp [entV]
 rw [e2, e3];generalize [Value.int .i64 k, .int .i64 s] ++ t.map B = q at hl ⊢;simp [hl]
theorem hlook_any {Lo Bd g : Nat} {l : List UInt8} (w : World) (h : EyeAt w Lo Bd g l) : Calls Tryz.prog 92 #[.pointer (some ⟨g, 0, none⟩)] w fun e w' => EyeR (lookH2 l) (fun h => .agg (hdrV h).toArray) w w' Lo Bd g e := by
 have HE := kp h;obtain ⟨res, hres⟩ := xe (lookH2 l);rw [← hres];unfold lookH2 lookH at hres;have HR := kp hres;obtain ⟨gv, hgv⟩ := xe w.heap.size;have HN := kq (w.heap.size ≤ gv) (by omega);have HL := kq (Bd ≤ gv) (by have := h.bd; omega);have HQ := kq (gv ≠ g) (by have := h.bd; omega);clear h hres
 go_enter Tryz.func92, Tryz.ntmps92
 go_wp2_with (with_reducible refine wal 2 zero_hdr3 ?_);intro v_ b_ hbw_ hsz2_;rw [← hgv] at b_ ⊢;have HV := kp b_;have HG := kp (grown_of_below hbw_ (some g));replace HE := kp (HE.o.grow hbw_);clear b_ hbw_ hsz2_ hgv;try clear w_
 rename World => w_;go_wp2_with fail;refine (enum_any (most := 63) _ HE.o).mono ?_;rintro e v_ hr_;obtain ⟨hg_, ⟨x_, hx_, rfl⟩ | ⟨v0, l0, hx_, rfl, hE_⟩⟩ := hr_.get
 ·have HG_ := kp (grownBy_trans HG.o hg_);have HX_ := kp hx_;clear hr_ hx_ hg_;go_wp2_with fail;exact ⟨by first | trivial | rfl, .err (x := x_) (by rw [HR.o, HX_.o]) rfl HG_.o⟩
 have HX0 := kp hx_;have HG_ := kp (grownBy_trans HG.o hg_);have HE_ := kp hE_;have HR_ := HR.o;rw [hx_] at HR_;simp only at HR_;replace HR := kp HR_;clear HR_ hr_ hx_ hE_ HE HG;replace HV := kp (Blk.grown HV.o hg_ (fun e => HQ.o (Option.some.inj e)));have HG := HG_; have HE := HE_;clear HG_ HE_ hg_;try clear w_
 rename World => w_;have q0 : IntKind.i64.wrap (v0 : Int) = (v0 : Int) := IntWalk.i64_in _ (by have := numR_le HX0.o; omega);go_wp2_with fail;refine (enum_any (most := 1099511627776) _ HE.o).mono ?_;rintro e v_ hr_;obtain ⟨hg_, ⟨x_, hx_, rfl⟩ | ⟨v1, l1, hx_, rfl, hE_⟩⟩ := hr_.get
 ·have HG_ := kp (grownBy_trans HG.o hg_);have HX_ := kp hx_;clear hr_ hx_ hg_;go_wp2_with fail;exact ⟨by first | trivial | rfl, .err (x := x_) (by rw [HR.o, HX_.o]) rfl HG_.o⟩
 have HX1 := kp hx_;have HG_ := kp (grownBy_trans HG.o hg_);have HE_ := kp hE_;have HR_ := HR.o;rw [hx_] at HR_;simp only at HR_;replace HR := kp HR_;clear HR_ hr_ hx_ hE_ HE HG;replace HV := kp (Blk.grown HV.o hg_ (fun e => HQ.o (Option.some.inj e)));have HG := HG_; have HE := HE_;clear HG_ HE_ hg_;try clear w_
 rename World => w_;have q1 : IntKind.i64.wrap (v1 : Int) = (v1 : Int) := IntWalk.i64_in _ (by have := numR_le HX1.o; omega);go_wp2_with fail;refine (enum_any (most := 1099511627776) _ HE.o).mono ?_;rintro e v_ hr_;obtain ⟨hg_, ⟨x_, hx_, rfl⟩ | ⟨v2, l2, hx_, rfl, hE_⟩⟩ := hr_.get
 ·have HG_ := kp (grownBy_trans HG.o hg_);have HX_ := kp hx_;clear hr_ hx_ hg_;go_wp2_with fail;exact ⟨by first | trivial | rfl, .err (x := x_) (by rw [HR.o, HX_.o]) rfl HG_.o⟩
 have HX2 := kp hx_;have HG_ := kp (grownBy_trans HG.o hg_);have HE_ := kp hE_;have HR_ := HR.o;rw [hx_] at HR_;simp only at HR_;replace HR := kp HR_;clear HR_ hr_ hx_ hE_ HE HG;replace HV := kp (Blk.grown HV.o hg_ (fun e => HQ.o (Option.some.inj e)));have HG := HG_; have HE := HE_;clear HG_ HE_ hg_;try clear w_
 rename World => w_;have q2 : IntKind.i64.wrap (v2 : Int) = (v2 : Int) := IntWalk.i64_in _ (by have := numR_le HX2.o; omega);go_wp2_with (first | (refine wpl_store1 (o := ⟨none, .store _ _ _, _, _, _, _⟩) rfl rfl HV.o rfl rfl (by kernel_rfl) rfl rfl (by first | (rw [hdrV_length noHdr_ok]; omega) | fail) ?_));intro v_ b_ g_ hsz2_;have HG_ := kp (grownBy_new HG.o g_ HN.o);have HE_ := kp (HE.o.off g_ (.inr HL.o));have HV_ := kp b_;clear b_ g_ hsz2_ HG HE HV;have HG := HG_; have HE := HE_; have HV := HV_;clear HG_ HE_ HV_;try clear w_
 rename World => w_;go_wp2_with (first | (refine wpl_store1 (o := ⟨none, .store _ _ _, _, _, _, _⟩) rfl rfl HV.o rfl rfl (by kernel_rfl) rfl rfl (by first | (rw [List.length_set, hdrV_length noHdr_ok]; omega) | fail) ?_));intro v_ b_ g_ hsz2_;have HG_ := kp (grownBy_new HG.o g_ HN.o);have HE_ := kp (HE.o.off g_ (.inr HL.o));have HV_ := kp b_;clear b_ g_ hsz2_ HG HE HV;have HG := HG_; have HE := HE_; have HV := HV_;clear HG_ HE_ HV_;try clear w_
 rename World => w_;go_wp2_with (first | (refine wpl_store1 (o := ⟨none, .store _ _ _, _, _, _, _⟩) rfl rfl HV.o rfl rfl (by kernel_rfl) rfl rfl (by first | (rw [List.length_set, List.length_set, hdrV_length noHdr_ok]; omega) | fail) ?_));intro v_ b_ g_ hsz2_;have HG_ := kp (grownBy_new HG.o g_ HN.o);have HE_ := kp (HE.o.off g_ (.inr HL.o));have HV_ := kp b_;clear b_ g_ hsz2_ HG HE HV;have HG := HG_; have HE := HE_; have HV := HV_;clear HG_ HE_ HV_;try clear w_
 rename World => w_;go_wp2_with fail;refine (eid_any _ HE.o).mono ?_;rintro e v_ hr_;obtain ⟨hg_, ⟨x_, hx_, rfl⟩ | ⟨v3, l3, hx_, rfl, hE_⟩⟩ := hr_.get
 ·have HG_ := kp (grownBy_trans HG.o hg_);have HX_ := kp hx_;clear hr_ hx_ hg_;go_wp2_with fail;exact ⟨by first | trivial | rfl, .err (x := x_) (by rw [HR.o, HX_.o]) rfl HG_.o⟩
 have HX3 := kp hx_;have HG_ := kp (grownBy_trans HG.o hg_);have HE_ := kp hE_;have HR_ := HR.o;rw [hx_] at HR_;simp only at HR_;replace HR := kp HR_;clear HR_ hr_ hx_ hE_ HE HG;replace HV := kp (Blk.grown HV.o hg_ (fun e => HQ.o (Option.some.inj e)));have HG := HG_; have HE := HE_;clear HG_ HE_ hg_;try clear w_
 rename World => w_;go_wp2_with fail;refine (eid_any _ HE.o).mono ?_;rintro e v_ hr_;obtain ⟨hg_, ⟨x_, hx_, rfl⟩ | ⟨v4, l4, hx_, rfl, hE_⟩⟩ := hr_.get
 ·have HG_ := kp (grownBy_trans HG.o hg_);have HX_ := kp hx_;clear hr_ hx_ hg_;go_wp2_with fail;exact ⟨by first | trivial | rfl, .err (x := x_) (by rw [HR.o, HX_.o]) rfl HG_.o⟩
 have HX4 := kp hx_;have HG_ := kp (grownBy_trans HG.o hg_);have HE_ := kp hE_;have HR_ := HR.o;rw [hx_] at HR_;simp only at HR_;replace HR := kp HR_;clear HR_ hr_ hx_ hE_ HE HG;replace HV := kp (Blk.grown HV.o hg_ (fun e => HQ.o (Option.some.inj e)));have HG := HG_; have HE := HE_;clear HG_ HE_ hg_;try clear w_
 rename World => w_;have HD3 := kp (dig_map (takeR_le HX3.o).1);have HD4 := kp (dig_map (takeR_le HX4.o).1);have HL3 := kq (((((hdrV noHdr).set 0 (.int .i64 (v0 : Int))).set 1 (.int .i64 (v1 : Int))).set 2 (.int .i64 (v2 : Int))).length = 67) (by simp only [List.length_set]; exact hdrV_length noHdr_ok);go_wp2_with (first | (with_reducible refine wpl_storem (o := ⟨none, .store _ _ _, _, _, _, _⟩) rfl rfl row_id HV.o rfl rfl HD3.o.len (by first | (rw [HL3.o]; omega) | fail) HD3.o.one ?_));intro v_ b_ g_ hsz2_;have HG_ := kp (grownBy_new HG.o g_ HN.o);have HE_ := kp (HE.o.off g_ (.inr HL.o));have HV_ := kp b_;clear b_ g_ hsz2_ HG HE HV;have HG := HG_; have HE := HE_; have HV := HV_;clear HG_ HE_ HV_;try clear w_
 rename World => w_
 have HL4 := kp (show (splice ((((hdrV noHdr).set 0 (.int .i64 (v0 : Int))).set 1 (.int .i64 (v1 : Int))).set 2 (.int .i64 (v2 : Int))) 3 (v3.map B)).length = 67 from by
  have h1 := HL3.o; have h2 := HD3.o.len
  simp only [splice, List.length_append, List.length_take, List.length_drop]; omega)
 go_wp2_with (first | (with_reducible refine wpl_storem (o := ⟨none, .store _ _ _, _, _, _, _⟩) rfl rfl row_id HV.o rfl rfl HD4.o.len (by first | (rw [HL4.o]; omega) | fail) HD4.o.one ?_));intro v_ b_ g_ hsz2_;have HG_ := kp (grownBy_new HG.o g_ HN.o);have HE_ := kp (HE.o.off g_ (.inr HL.o));have HV_ := kp b_;clear b_ g_ hsz2_ HG HE HV;have HG := HG_; have HE := HE_; have HV := HV_;clear HG_ HE_ HV_;try clear w_
 rename World => w_;rw [hdr_look HD3.o.2 HD4.o.2] at HV;have HOK := kq ((⟨(v0 : Int), (v1 : Int), (v2 : Int), v3, v4⟩ : Hdr).ok) ⟨by have := numR_le HX0.o; unfold I64; simp only; omega, by have := numR_le HX1.o; unfold I64; simp only; omega, by have := numR_le HX2.o; unfold I64; simp only; omega, HD3.o.2, HD4.o.2⟩;have HCL := kp (hdrV_length HOK.o);have HC1 := kp (hdr_one ⟨(v0 : Int), (v1 : Int), (v2 : Int), v3, v4⟩);have c1 := HV.o.at_ (hdr_at HOK.o).2.1;clear q0 q1 q2;go_wp2_with fail;refine (eleft_any _ HE.o).mono ?_;rintro e v_ ⟨rfl, rfl⟩;obtain ⟨p1, hp1⟩ : ∃ p, ((l4.length : Int) == 0) = p := ⟨_, rfl⟩;obtain ⟨p2, hp2⟩ : ∃ p, ((v1 : Int) == 0) = p := ⟨_, rfl⟩
 have HP := kp (show (p1 = true ∧ p2 = true) ↔ (l4 = [] ∧ (v1 : Int) = 0) by
  rw [← hp1, ← hp2, beq_iff_eq, beq_iff_eq];constructor
  ·rintro ⟨a, b⟩; exact ⟨List.eq_nil_of_length_eq_zero (by omega), b⟩
  ·rintro ⟨a, b⟩; subst a; exact ⟨rfl, b⟩)
 cases p1 with
 | true =>
  cases p2 with
  | true =>
   go_wp2_with fail;refine (efail_any g 3 (by omega) _).mono ?_;rintro e w' ⟨rfl, rfl⟩;go_wp2_with fail;exact ⟨by first | trivial | rfl, .err (x := 3) (by rw [HR.o, if_pos (HP.o.1 (by simp))]) rfl HG.o⟩
  | false =>
   obtain ⟨hv, hhv⟩ := xe (hdrV ⟨(v0 : Int), (v1 : Int), (v2 : Int), v3, v4⟩);have HHV := kp hhv;rw [← hhv] at HV HCL HC1;clear hhv;go_wp2_with (with_reducible first | refine wlb 31 row_header HV.o HCL.o ?_ | refine wsb row_header HV.o HCL.o HCL.o HC1.o ?_);intro v_ b_ g_ hsz2_;have HG_ := kp (grownBy_new HG.o g_ HN.o);have HE_ := kp (HE.o.off g_ (.inr HL.o));have HV_ := kp b_;clear b_ g_ hsz2_ HG HE HV;go_wp2_with fail;refine ret_cell rfl row_header HV_.o rfl HCL.o rfl ?_;exact .ok (v := ⟨(v0 : Int), (v1 : Int), (v2 : Int), v3, v4⟩) (l' := l4) (by rw [HR.o, if_neg (fun h => by have := (HP.o.2 h).2; simp at this)]) (by rw [HHV.o]) HE_.o HG_.o
 | false =>
  obtain ⟨hv, hhv⟩ := xe (hdrV ⟨(v0 : Int), (v1 : Int), (v2 : Int), v3, v4⟩);have HHV := kp hhv;rw [← hhv] at HV HCL HC1;clear hhv;go_wp2_with (with_reducible first | refine wlb 31 row_header HV.o HCL.o ?_ | refine wsb row_header HV.o HCL.o HCL.o HC1.o ?_);intro v_ b_ g_ hsz2_;have HG_ := kp (grownBy_new HG.o g_ HN.o);have HE_ := kp (HE.o.off g_ (.inr HL.o));have HV_ := kp b_;clear b_ g_ hsz2_ HG HE HV;go_wp2_with fail;refine ret_cell rfl row_header HV_.o rfl HCL.o rfl ?_;exact .ok (v := ⟨(v0 : Int), (v1 : Int), (v2 : Int), v3, v4⟩) (l' := l4) (by rw [HR.o, if_neg (fun h => by have := (HP.o.2 h).1; simp at this)]) (by rw [HHV.o]) HE_.o HG_.o
theorem elook_any {Lo Bd g : Nat} {l : List UInt8} (w : World) (h : EyeAt w Lo Bd g l) : Calls Tryz.prog 90 #[.pointer (some ⟨g, 0, none⟩)] w fun e w' => EyeR (lookE l) (fun h => .agg (entV h).toArray) w w' Lo Bd g e := by
 have HE := kp h;obtain ⟨res, hres⟩ := xe (lookE l);rw [← hres];unfold lookE at hres;have HR := kp hres;obtain ⟨gv, hgv⟩ := xe w.heap.size;have HN := kq (w.heap.size ≤ gv) (by omega);have HL := kq (Bd ≤ gv) (by have := h.bd; omega);have HQ := kq (gv ≠ g) (by have := h.bd; omega);clear h hres
 go_enter Tryz.func90, Tryz.ntmps90
 go_wp2_with (with_reducible refine wal 2 zero_ent3 ?_);intro v_ b_ hbw_ hsz2_;rw [← hgv] at b_ ⊢;have HV := kp b_;have HG := kp (grown_of_below hbw_ (some g));replace HE := kp (HE.o.grow hbw_);clear b_ hbw_ hsz2_ hgv;try clear w_
 rename World => w_;go_wp2_with fail;refine (enum_any (most := 3) _ HE.o).mono ?_;rintro e v_ hr_;obtain ⟨hg_, ⟨x_, hx_, rfl⟩ | ⟨v0, l0, hx_, rfl, hE_⟩⟩ := hr_.get
 ·have HG_ := kp (grownBy_trans HG.o hg_);have HX_ := kp hx_;clear hr_ hx_ hg_;go_wp2_with fail;exact ⟨by first | trivial | rfl, .err (x := x_) (by rw [HR.o, HX_.o]) rfl HG_.o⟩
 have HX0 := kp hx_;have HG_ := kp (grownBy_trans HG.o hg_);have HE_ := kp hE_;have HR_ := HR.o;rw [hx_] at HR_;simp only at HR_;replace HR := kp HR_;clear HR_ hr_ hx_ hE_ HE HG;replace HV := kp (Blk.grown HV.o hg_ (fun e => HQ.o (Option.some.inj e)));have HG := HG_; have HE := HE_;clear HG_ HE_ hg_;try clear w_
 rename World => w_;have q0 : IntKind.i64.wrap (v0 : Int) = (v0 : Int) := IntWalk.i64_in _ (by have := numR_le HX0.o; omega);go_wp2_with fail;refine (enum_any (most := 63) _ HE.o).mono ?_;rintro e v_ hr_;obtain ⟨hg_, ⟨x_, hx_, rfl⟩ | ⟨v1, l1, hx_, rfl, hE_⟩⟩ := hr_.get
 ·have HG_ := kp (grownBy_trans HG.o hg_);have HX_ := kp hx_;clear hr_ hx_ hg_;go_wp2_with fail;exact ⟨by first | trivial | rfl, .err (x := x_) (by rw [HR.o, HX_.o]) rfl HG_.o⟩
 have HX1 := kp hx_;have HG_ := kp (grownBy_trans HG.o hg_);have HE_ := kp hE_;have HR_ := HR.o;rw [hx_] at HR_;simp only at HR_;replace HR := kp HR_;clear HR_ hr_ hx_ hE_ HE HG;replace HV := kp (Blk.grown HV.o hg_ (fun e => HQ.o (Option.some.inj e)));have HG := HG_; have HE := HE_;clear HG_ HE_ hg_;try clear w_
 rename World => w_;have q1 : IntKind.i64.wrap (v1 : Int) = (v1 : Int) := IntWalk.i64_in _ (by have := numR_le HX1.o; omega);go_wp2_with (first | (refine wpl_store1 (o := ⟨none, .store _ _ _, _, _, _, _⟩) rfl rfl HV.o rfl rfl (by kernel_rfl) rfl rfl (by first | (rw [entV_length noEnt_ok]; omega) | fail) ?_));intro v_ b_ g_ hsz2_;have HG_ := kp (grownBy_new HG.o g_ HN.o);have HE_ := kp (HE.o.off g_ (.inr HL.o));have HV_ := kp b_;clear b_ g_ hsz2_ HG HE HV;have HG := HG_; have HE := HE_; have HV := HV_;clear HG_ HE_ HV_;try clear w_
 rename World => w_;go_wp2_with (first | (refine wpl_store1 (o := ⟨none, .store _ _ _, _, _, _, _⟩) rfl rfl HV.o rfl rfl (by kernel_rfl) rfl rfl (by first | (rw [List.length_set, entV_length noEnt_ok]; omega) | fail) ?_));intro v_ b_ g_ hsz2_;have HG_ := kp (grownBy_new HG.o g_ HN.o);have HE_ := kp (HE.o.off g_ (.inr HL.o));have HV_ := kp b_;clear b_ g_ hsz2_ HG HE HV;have HG := HG_; have HE := HE_; have HV := HV_;clear HG_ HE_ HV_;try clear w_
 rename World => w_;clear q0 q1;go_wp2_with fail;refine (eid_any _ HE.o).mono ?_;rintro e v_ hr_;obtain ⟨hg_, ⟨x_, hx_, rfl⟩ | ⟨v3, l3, hx_, rfl, hE_⟩⟩ := hr_.get
 ·have HG_ := kp (grownBy_trans HG.o hg_);have HX_ := kp hx_;clear hr_ hx_ hg_;go_wp2_with fail;exact ⟨by first | trivial | rfl, .err (x := x_) (by rw [HR.o, HX_.o]) rfl HG_.o⟩
 have HX3 := kp hx_;have HG_ := kp (grownBy_trans HG.o hg_);have HE_ := kp hE_;have HR_ := HR.o;rw [hx_] at HR_;simp only at HR_;replace HR := kp HR_;clear HR_ hr_ hx_ hE_ HE HG;replace HV := kp (Blk.grown HV.o hg_ (fun e => HQ.o (Option.some.inj e)));have HG := HG_; have HE := HE_;clear HG_ HE_ hg_;try clear w_
 rename World => w_;have HD3 := kp (dig_map (takeR_le HX3.o).1);have HL3 := kq ((((entV noEnt).set 0 (.int .i64 (v0 : Int))).set 1 (.int .i64 (v1 : Int))).length = 37) (by simp only [List.length_set]; exact entV_length noEnt_ok);go_wp2_with (first | (with_reducible refine wpl_storem (o := ⟨none, .store _ _ _, _, _, _, _⟩) rfl rfl row_id HV.o rfl rfl HD3.o.len (by first | (rw [HL3.o]; omega) | fail) HD3.o.one ?_));intro v_ b_ g_ hsz2_;have HG_ := kp (grownBy_new HG.o g_ HN.o);have HE_ := kp (HE.o.off g_ (.inr HL.o));have HV_ := kp b_;clear b_ g_ hsz2_ HG HE HV;have HG := HG_; have HE := HE_; have HV := HV_;clear HG_ HE_ HV_;try clear w_
 rename World => w_
 have HL4 := kp (show (splice (((entV noEnt).set 0 (.int .i64 (v0 : Int))).set 1 (.int .i64 (v1 : Int))) 2 (v3.map B)).length = 37 from by
  have h1 := HL3.o; have h2 := HD3.o.len
  simp only [splice, List.length_append, List.length_take, List.length_drop]; omega)
 go_wp2_with fail;refine (enum_any (most := 4611686018427387904) _ HE.o).mono ?_;rintro e v_ hr_;obtain ⟨hg_, ⟨x_, hx_, rfl⟩ | ⟨v4, l4, hx_, rfl, hE_⟩⟩ := hr_.get
 ·have HG_ := kp (grownBy_trans HG.o hg_);have HX_ := kp hx_;clear hr_ hx_ hg_;go_wp2_with fail;exact ⟨by first | trivial | rfl, .err (x := x_) (by rw [HR.o, HX_.o]) rfl HG_.o⟩
 have HX4 := kp hx_;have HG_ := kp (grownBy_trans HG.o hg_);have HE_ := kp hE_;have HR_ := HR.o;rw [hx_] at HR_;simp only at HR_;replace HR := kp HR_;clear HR_ hr_ hx_ hE_ HE HG;replace HV := kp (Blk.grown HV.o hg_ (fun e => HQ.o (Option.some.inj e)));have HG := HG_; have HE := HE_;clear HG_ HE_ hg_;try clear w_
 rename World => w_;go_wp2_with (first | (refine wpl_store1 (o := ⟨none, .store _ _ _, _, _, _, _⟩) rfl rfl HV.o rfl rfl (by kernel_rfl) rfl rfl (by first | (rw [HL4.o]; omega) | fail) ?_));intro v_ b_ g_ hsz2_;have HG_ := kp (grownBy_new HG.o g_ HN.o);have HE_ := kp (HE.o.off g_ (.inr HL.o));have HV_ := kp b_;clear b_ g_ hsz2_ HG HE HV;have HG := HG_; have HE := HE_; have HV := HV_;clear HG_ HE_ HV_;try clear w_
 rename World => w_;go_wp2_with fail;refine (enum_any (most := 63) _ HE.o).mono ?_;rintro e v_ hr_;obtain ⟨hg_, ⟨x_, hx_, rfl⟩ | ⟨v5, l5, hx_, rfl, hE_⟩⟩ := hr_.get
 ·have HG_ := kp (grownBy_trans HG.o hg_);have HX_ := kp hx_;clear hr_ hx_ hg_;go_wp2_with fail;exact ⟨by first | trivial | rfl, .err (x := x_) (by rw [HR.o, HX_.o]) rfl HG_.o⟩
 have HX5 := kp hx_;have HG_ := kp (grownBy_trans HG.o hg_);have HE_ := kp hE_;have HR_ := HR.o;rw [hx_] at HR_;simp only at HR_;replace HR := kp HR_;clear HR_ hr_ hx_ hE_ HE HG;replace HV := kp (Blk.grown HV.o hg_ (fun e => HQ.o (Option.some.inj e)));have HG := HG_; have HE := HE_;clear HG_ HE_ hg_;try clear w_
 rename World => w_;have q0 : IntKind.i64.wrap (v5 : Int) = (v5 : Int) := IntWalk.i64_in _ (by have := numR_le HX5.o; omega);go_wp2_with fail;refine (enum_any (most := 1099511627776) _ HE.o).mono ?_;rintro e v_ hr_;obtain ⟨hg_, ⟨x_, hx_, rfl⟩ | ⟨v6, l6, hx_, rfl, hE_⟩⟩ := hr_.get
 ·have HG_ := kp (grownBy_trans HG.o hg_);have HX_ := kp hx_;clear hr_ hx_ hg_;go_wp2_with fail;exact ⟨by first | trivial | rfl, .err (x := x_) (by rw [HR.o, HX_.o]) rfl HG_.o⟩
 have HX6 := kp hx_;have HG_ := kp (grownBy_trans HG.o hg_);have HE_ := kp hE_;have HR_ := HR.o;rw [hx_] at HR_;simp only at HR_;replace HR := kp HR_;clear HR_ hr_ hx_ hE_ HE HG;replace HV := kp (Blk.grown HV.o hg_ (fun e => HQ.o (Option.some.inj e)));have HG := HG_; have HE := HE_;clear HG_ HE_ hg_;try clear w_
 rename World => w_;have q1 : IntKind.i64.wrap (v6 : Int) = (v6 : Int) := IntWalk.i64_in _ (by have := numR_le HX6.o; omega);go_wp2_with (first | (refine wpl_store1 (o := ⟨none, .store _ _ _, _, _, _, _⟩) rfl rfl HV.o rfl rfl (by kernel_rfl) rfl rfl (by first | (rw [List.length_set, HL4.o]; omega) | fail) ?_));intro v_ b_ g_ hsz2_;have HG_ := kp (grownBy_new HG.o g_ HN.o);have HE_ := kp (HE.o.off g_ (.inr HL.o));have HV_ := kp b_;clear b_ g_ hsz2_ HG HE HV;have HG := HG_; have HE := HE_; have HV := HV_;clear HG_ HE_ HV_;try clear w_
 rename World => w_;go_wp2_with (first | (refine wpl_store1 (o := ⟨none, .store _ _ _, _, _, _, _⟩) rfl rfl HV.o rfl rfl (by kernel_rfl) rfl rfl (by first | (rw [List.length_set, List.length_set, HL4.o]; omega) | fail) ?_));intro v_ b_ g_ hsz2_;have HG_ := kp (grownBy_new HG.o g_ HN.o);have HE_ := kp (HE.o.off g_ (.inr HL.o));have HV_ := kp b_;clear b_ g_ hsz2_ HG HE HV;have HG := HG_; have HE := HE_; have HV := HV_;clear HG_ HE_ HV_;try clear w_
 rename World => w_;clear q0 q1;rw [ent_look HD3.o.2] at HV;have HOK := kq ((⟨(v0 : Int), (v1 : Int), v3, (v4 : Int), (v5 : Int), (v6 : Int)⟩ : Ent).ok) ⟨by have := numR_le HX0.o; unfold I64; simp only; omega, by have := numR_le HX1.o; unfold I64; simp only; omega, HD3.o.2, by have := numR_le HX4.o; unfold U64; simp only; omega, by have := numR_le HX5.o; unfold I64; simp only; omega, by have := numR_le HX6.o; unfold I64; simp only; omega⟩;have HCL := kp (entV_length HOK.o)
 have HC1 := kp (show ∀ u ∈ entV ⟨(v0 : Int), (v1 : Int), v3, (v4 : Int), (v5 : Int), (v6 : Int)⟩, u.oneCell' = true by
  intro u hu;unfold entV at hu;simp only [List.mem_cons, List.mem_append, List.mem_map, List.not_mem_nil, or_false] at hu
  rcases hu with rfl | rfl | ⟨_, _, rfl⟩ | rfl | rfl | rfl <;> rfl)
 obtain ⟨hv, hhv⟩ := xe (entV ⟨(v0 : Int), (v1 : Int), v3, (v4 : Int), (v5 : Int), (v6 : Int)⟩);have HHV := kp hhv;rw [← hhv] at HV HCL HC1;clear hhv;go_wp2_with (with_reducible first | refine wlb 25 row_ent3 HV.o HCL.o ?_ | refine wsb row_ent3 HV.o HCL.o HCL.o HC1.o ?_);intro v_ b_ g_ hsz2_;have HG_ := kp (grownBy_new HG.o g_ HN.o);have HE_ := kp (HE.o.off g_ (.inr HL.o));have HV_ := kp b_;clear b_ g_ hsz2_ HG HE HV;go_wp2_with fail;refine ret_cell rfl row_ent3 HV_.o rfl HCL.o rfl ?_;exact .ok (v := ⟨(v0 : Int), (v1 : Int), v3, (v4 : Int), (v5 : Int), (v6 : Int)⟩) (l' := l6) HR.o (by rw [HHV.o]) HE_.o HG_.o
theorem numR_err {most : Nat} {l : List UInt8} {x : Nat} (h : numR most l = .error x) : x ≠ 0 := by
 cases l with
 | nil => injection h with h; omega
 | cons k t =>
  simp only [numR] at h;split at h
  ·injection h with h; omega
  ·split at h
   ·injection h with h; omega
   ·split at h
    ·injection h with h; omega
    ·split at h
     ·injection h with h; omega
     ·cases h
theorem takeR_err {n : Nat} {l : List UInt8} {x : Nat} (h : takeR n l = .error x) : x ≠ 0 := by
 unfold takeR at h;split at h
 ·cases h
 ·injection h with h; omega
theorem textR_err {most : Nat} {l : List UInt8} {x : Nat} (h : textR most l = .error x) : x ≠ 0 := by
 unfold textR at h;split at h
 ·rename_i h1; injection h with h; subst h; exact numR_err h1
 ·exact takeR_err h
theorem lookH_err {l : List UInt8} {x : Nat} (h : lookH l = .error x) : x ≠ 0 := by
 unfold lookH at h;split at h
 ·rename_i h1; injection h with h; subst h; exact numR_err h1
 split at h
 ·rename_i h1; injection h with h; subst h; exact numR_err h1
 split at h
 ·rename_i h1; injection h with h; subst h; exact numR_err h1
 split at h
 ·rename_i h1; injection h with h; subst h; exact takeR_err h1
 split at h
 ·rename_i h1; injection h with h; subst h; exact takeR_err h1
 cases h
theorem lookE_err {l : List UInt8} {x : Nat} (h : lookE l = .error x) : x ≠ 0 := by
 unfold lookE at h;split at h
 ·rename_i h1; injection h with h; subst h; exact numR_err h1
 split at h
 ·rename_i h1; injection h with h; subst h; exact numR_err h1
 split at h
 ·rename_i h1; injection h with h; subst h; exact takeR_err h1
 split at h
 ·rename_i h1; injection h with h; subst h; exact numR_err h1
 split at h
 ·rename_i h1; injection h with h; subst h; exact numR_err h1
 split at h
 ·rename_i h1; injection h with h; subst h; exact numR_err h1
 cases h
def restOf {α : Type} : Rd α → Except Nat (List UInt8)
 | .error x => .error x
 | .ok (_, t) => .ok t
theorem err_readH (l : List UInt8) : eyeErr (restOf (lookH2 l)) = errOf (readH l) := by
 unfold lookH2 readH;cases h : lookH l with
 | error x => rfl
 | ok p =>
  obtain ⟨hd, t⟩ := p;simp only;by_cases h1 : t = []
  ·subst h1;by_cases h2 : hd.height = 0
   ·simp [h2, restOf, eyeErr, errOf]
   ·simp [h2, restOf, eyeErr, errOf]
  ·cases t with
   | nil => exact absurd rfl h1
   | cons a t => simp [restOf, eyeErr, errOf]
theorem ok_readH {l : List UInt8} (h : errOf (readH l) = 0) : ∃ hd, readH l = .ok hd ∧ lookH2 l = .ok (hd, []) := by
 unfold readH at h ⊢;unfold lookH2;cases e : lookH l with
 | error x =>
  rw [e] at h;exact absurd h (lookH_err e)
 | ok p =>
  obtain ⟨hd, t⟩ := p;rw [e] at h;simp only at h ⊢;by_cases h1 : t = [] ∧ hd.height ≠ 0
  ·rw [if_pos h1, h1.1, if_neg (by intro h2; exact h1.2 h2.2)];exact ⟨hd, rfl, rfl⟩
  ·rw [if_neg h1] at h;simp [errOf] at h
structure KeptC (T : TypeId) (sz : Nat) (g4 : Nat) (w w2 : World) (xs : List Value) : Prop where
 blk : Blk w2 g4 T xs
 len : xs.length = sz
 one : ∀ u ∈ xs, u.oneCell' = true
 grown : w.grownBy w2 (some g4)
theorem hread1_any {Bd g g4 : Nat} {l : List UInt8} (w w1 : World) (hg4 : g4 < w.heap.size) (hb : Blk w g4 41 (hdrV noHdr)) (hw : Grow w w1) (hg : w.heap.size ≤ g) (he : EyeAt w1 (w.heap.size + 1) Bd g l) :
  Calls Tryz.prog 91 (#[.pointer (some ⟨g, 0, none⟩)] ++ #[.pointer (some ⟨g4, 0, none⟩)]) w1 fun e w2 => (∃ xs, KeptC 41 67 g4 w w2 xs ∧ ∀ h t, lookH2 l = .ok (h, t) → xs = hdrV h) ∧ w1.heap.size ≤ w2.heap.size ∧ w2.heap[w.heap.size]? = w1.heap[w.heap.size]? ∧
   ((∃ x, restOf (lookH2 l) = .error x ∧ e = .panicked (brk x)) ∨ (∃ l', restOf (lookH2 l) = .ok l' ∧ e = .returned (.tuple #[]) ∧ EyeAt w2 (w.heap.size + 1) Bd g l')) := by
 have HW := kp hw;have HE := kp he;have HV := kp (hb.grow hw);have hgl := he.lo;have hlt := he.lt;have HGG := kq (g ≠ w.heap.size ∧ g4 ≠ g ∧ g4 ≠ w.heap.size ∧ w.heap.size ≤ g ∧ g4 < w.heap.size + 1) (by omega);have HLT := kq (w.heap.size < w1.heap.size) (by omega);have HN := kp (hdrV_length noHdr_ok);have HN1 := kp (hdr_one noHdr);clear hb hw he hgl hlt hg hg4;show Calls _ _ #[_, _] _ _
 go_enter Tryz.func91, Tryz.ntmps91
 go_wp2_with fail;refine (hlook_any _ HE.o).mono ?_;rintro e w2 hr;obtain ⟨hg2, ⟨x, hx, rfl⟩ | ⟨v, l', hx, rfl, hE⟩⟩ := hr.get
 ·have HG2 := kp hg2;have HX := kp hx;clear hr hg2 hx;go_wp2_with fail;refine ⟨by first | trivial | rfl, ⟨_, ⟨HV.o.grown HG2.o (fun e => HGG.o.2.1 (Option.some.inj e)), HN.o, HN1.o, ?_⟩, fun h t e2 => by rw [HX.o] at e2; cases e2⟩, HG2.o.size, ?_, .inl ⟨x, by rw [HX.o]; rfl, rfl⟩⟩
  ·exact grownBy_new (grown_of_below HW.o _) (grownBy_trans (grownBy_refl _ _) HG2.o) HGG.o.2.2.2.1
  ·exact HG2.o.block _ HLT.o (fun e => HGG.o.1 (Option.some.inj e).symm)
 ·have HOK := kp (show v.ok by
   have h1 := hx;unfold lookH2 at h1;split at h1
   ·cases h1
   ·rename_i h2;split at h1
    ·cases h1
    ·injection h1 with h1; injection h1 with h3 h4; subst h3; exact (lookH_ok h2).1)
  have HX := kp hx;have HV2 := kp (HV.o.grown hg2 (fun e => HGG.o.2.1 (Option.some.inj e)));have HG2 := kp hg2;have HE2 := kp hE;have HC := kq (Cl 67 (hdrV v)) ⟨hdrV_length HOK.o, hdr_one v⟩;obtain ⟨hv, hhv⟩ := xe (hdrV v);have HHV := kp hhv;rw [← hhv] at HC ⊢;clear hr hg2 hx hE hhv HV HE;go_wp2_with (with_reducible refine wsb row_header HV2.o HN.o HC.o.len HC.o.one ?_);intro w3 hb3 hg3 hs3;have HB3 := kp hb3;have HG3 := kp hg3;clear hb3 hg3 hs3;go_wp2_with fail;refine bodyPost_end (results_none rfl _ _ _) rfl ?_;refine ⟨⟨_, ⟨HB3.o, HC.o.len, HC.o.one, ?_⟩, fun h t e2 => by rw [HX.o] at e2; injection e2 with e2; injection e2 with e2 _; rw [← e2]; exact HHV.o⟩, Nat.le_trans HG2.o.size HG3.o.size, ?_, .inr ⟨l', by rw [HX.o]; rfl, rfl, HE2.o.off HG3.o (.inl HGG.o.2.2.2.2)⟩⟩
  ·exact grownBy_trans (grownBy_new (grown_of_below HW.o _) HG2.o HGG.o.2.2.2.1) HG3.o
  ·rw [HG3.o.block _ (Nat.lt_of_lt_of_le HLT.o HG2.o.size) (fun e => HGG.o.2.2.1 (Option.some.inj e).symm), HG2.o.block _ HLT.o (fun e => HGG.o.1 (Option.some.inj e).symm)]
theorem row_hd : RowT Tryz.prog 41 67 := ⟨_, Tryz.underlying41, by kernel_rfl, by kernel_rfl⟩
theorem len_hd : (hdrV noHdr).length = 67 := hdrV_length noHdr_ok
theorem zero_hd : (Tryz.prog.info? 41).map (·.zero) = some (some (.agg (hdrV noHdr).toArray)) := zero_hdr2
theorem hread_any {A : Option Addr} {n c : Nat} {l : List UInt8} (w : World) (hs : Sl w w.heap.size 1 A n (l.map B)) (hn : n ≤ 1000000) :
  Calls Tryz.prog 69 #[.slice A n c] w fun e w' => e = .returned (.tuple #[.agg (hdrV (hdrOf (readH l))).toArray, .int .i64 (errOf (readH l) : Int)]) ∧ Below w.heap.size w w' := by
 have HS := kp hs;obtain ⟨er, her⟩ := xe (errOf (readH l));have HER := kp her;have HE1 := kq (eyeErr (restOf (lookH2 l)) = er) (by rw [her]; exact err_readH l);have HCZ := kq (Cl 67 (hdrV noHdr)) ⟨hdrV_length noHdr_ok, hdr_one noHdr⟩
 have HOUT := kp (show er ≠ 0 → hdrOf (readH l) = noHdr by
  rw [her];cases readH l with
  | error x => intro _; rfl
  | ok h => intro h; exact absurd rfl h)
 have T0 := kp built_hdrE;rw [← her];obtain ⟨w_, hw⟩ := xe w;have HB := kq (Below w.heap.size w w_) (by rw [hw]; exact Below.refl _ _)
 suffices H : Calls Tryz.prog 69 #[.slice A n c] w_ fun e w' => e = .returned (.tuple #[.agg (hdrV (hdrOf (readH l))).toArray, .int .i64 (er : Int)]) ∧ Below w.heap.size w w' by rw [hw] at H; exact H
 clear hw hs her
 go_enter Tryz.func69, Tryz.ntmps69
 go_wp2_with (with_reducible refine wal 2 zero_hd ?_);intro v_ b_ y_ hsz2_;have HX_ := kp (at_mk b_ len_hd);clear b_ hsz2_;have HG_ := kp HB.o.size;replace HB := kp (HB.o.grow' y_);generalize hg_ : w_.heap.size = g2 at HX_ HG_ ⊢;clear hg_;have HV_g := HG_;clear HG_;have HV := HX_;clear y_ HX_;try clear w_
 rename World => w_;go_wp2_with (with_reducible refine wal 4 zero_hd ?_);intro v_ b_ y_ hsz2_;have HX_ := kp (at_mk b_ len_hd);clear b_ hsz2_;have HG_ := kp HB.o.size;have HH_HV := kp (Nat.ne_of_lt HV.o.lt);replace HB := kp (HB.o.grow' y_);replace HV := kp (HV.o.grow y_);generalize hg_ : w_.heap.size = g4 at HX_ HG_ HH_HV ⊢;clear hg_;have HH_g := HG_;clear HG_;have HH := HX_;clear y_ HX_;try clear w_
 rename World => w_;go_wp2_with fail;refine (fread_any A n c l 91 #[.pointer (some ⟨g4, 0, none⟩)] (restOf (lookH2 l)) (fun w2 => ∃ xs, KeptC 41 67 g4 w_ w2 xs ∧ ∀ h t, lookH2 l = .ok (h, t) → xs = hdrV h) _ (HS.o.grow HB.o) hn (fun _ _ => rfl) (fun w1 Bd g hw hg he => hread1_any w_ w1 HH.o.lt HH.o.blk hw hg he)).mono ?_;rintro e w5 ⟨rfl, w2, ⟨xs, hk, hxs⟩, hb⟩;have HX := kp hxs;have HCX := kq (Cl 67 xs) ⟨hk.len, hk.one⟩;have HV_ := kq (At w5 g2 41 67 (hdrV noHdr)) ⟨(hb.block g2 HV.o.lt).trans (Blk.grown HV.o.blk hk.grown (fun e => HH_HV.o (Option.some.inj e))), HV.o.len⟩;have HH_ := kq (At w5 g4 41 67 xs) ⟨(hb.block g4 HH.o.lt).trans hk.blk, hk.len⟩;have HB_ := kq (Below w.heap.size w w5) (Below.trans (put_below HB.o HH_g.o hk.grown) (hb.mono HB.o.size));rw [HE1.o];clear hk hxs hb HV HH HB;have HV := HV_; have HH := HH_; have HB := HB_;clear HV_ HH_ HB_;try clear w2
 try clear w_
 rename World => w_;by_cases h0 : er = 0
 ·subst h0;obtain ⟨hd, hr1, hr2⟩ := ok_readH HER.o.symm;have HXE := kq (xs = hdrV (hdrOf (readH l))) (by rw [hr1]; exact HX.o _ _ hr2);clear hr1 hr2;go_wp2_with (with_reducible first | refine wlb 13 row_hd HH.o.blk HH.o.len ?_ | refine wsb row_hd HV.o.blk HV.o.len HCX.o.len HCX.o.one ?_);intro v_ b_ g_ hsz2_;have HV_ := kp b_;have HB_ := kp (put_below HB.o HV_g.o g_);clear b_ g_ hsz2_;go_wp2_with fail;refine ret_cell_tmp rfl row_hd HV_.o rfl HCX.o.len rfl rfl ?_;exact ⟨by rw [HXE.o]; rfl, HB_.o⟩
 ·have d0 : ((er : Int) != 0) = true := by simp; omega
  go_wp2_with (with_reducible refine wst 11 ?_);refine stop_go ?_;refine wpl_build rfl rfl T0.o ?_;go_wp2_with (with_reducible refine wsb row_hd HV.o.blk HV.o.len HCZ.o.len HCZ.o.one ?_);intro v_ b_ g_ hsz2_;have HV_ := kp b_;have HB_ := kp (put_below HB.o HV_g.o g_);clear b_ g_ hsz2_;go_wp2_with fail;refine ret_cell_tmp rfl row_hd HV_.o rfl HCZ.o.len rfl rfl ?_;exact ⟨by rw [HOUT.o h0]; rfl, HB_.o⟩
open Go.RowKit
theorem lookI_err {l : List UInt8} {x : Nat} (h : lookI l = .error x) : x ≠ 0 := by
 unfold lookI at h;split at h
 ·rename_i h1; injection h with h; subst h; exact takeR_err h1
 split at h
 ·rename_i h1; injection h with h; subst h; exact numR_err h1
 split at h
 ·rename_i h1; injection h with h; subst h; exact numR_err h1
 split at h
 ·rename_i h1; injection h with h; subst h; exact textR_err h1
 cases h
theorem lookO_err {l : List UInt8} {x : Nat} (h : lookO l = .error x) : x ≠ 0 := by
 unfold lookO at h;split at h
 ·rename_i h1; injection h with h; subst h; exact takeR_err h1
 split at h
 ·rename_i h1; injection h with h; subst h; exact numR_err h1
 cases h
theorem lookN_nz {α : Type} {f : List UInt8 → Rd α} (hf : ∀ l x, f l = .error x → x ≠ 0) : ∀ (n : Nat) {l : List UInt8} {x : Nat}, lookN f n l = .error x → x ≠ 0
 | 0, l, x, h => by cases h
 | n + 1, l, x, h => by
  unfold lookN at h;split at h
  ·rename_i h1; injection h with h; subst h; exact hf _ _ h1
  ·split at h
   ·rename_i h2; injection h with h; subst h; exact lookN_nz hf n h2
   ·cases h
theorem lookT_err {l : List UInt8} {x : Nat} (h : lookT l = .error x) : x ≠ 0 := by
 unfold lookT at h;split at h
 ·rename_i h1; injection h with h; subst h; exact numR_err h1
 split at h
 ·rename_i h1; injection h with h; subst h; exact lookN_nz (fun l x h => lookI_err h) _ h1
 split at h
 ·rename_i h1; injection h with h; subst h; exact numR_err h1
 split at h
 ·rename_i h1; injection h with h; subst h; exact lookN_nz (fun l x h => lookO_err h) _ h1
 split at h
 ·rename_i h1; injection h with h; subst h; exact numR_err h1
 split at h
 ·rename_i h1; injection h with h; subst h; exact numR_err h1
 cases h
theorem checkT_pos {t : Txn} (hk : t.ok) : 0 ≤ checkT t ∧ checkT t ≤ 9 := by
 have h1 := allE_range (t.ins.map Inp.amount) 0 (fun z hz => by obtain ⟨i, hi, rfl⟩ := List.mem_map.1 hz; exact (hk.1 i hi).2.2.1) (by omega) (by omega)
 have h2 := allE_range (t.outs.map Outp.amount ++ [t.fee]) 0 (fun z hz => by
  rcases List.mem_append.1 hz with hz | hz
  ·obtain ⟨i, hi, rfl⟩ := List.mem_map.1 hz; exact (hk.2.1 i hi).2.1
  ·have : z = t.fee := by simpa using hz
   subst this; exact hk.2.2.1.1) (by omega) (by omega)
 unfold checkT;repeat' split
 all_goals omega
theorem readT_cases (l : List UInt8) : (∃ x, eyeErr (restOf (lookT l)) = x ∧ x ≠ 0 ∧ readT l = .error x) ∨ (∃ t, eyeErr (restOf (lookT l)) = 0 ∧ lookT l = .ok (t, []) ∧ readT l = if checkT t ≠ 0 then .error (checkT t).toNat else .ok t) := by
 cases h : lookT l with
 | error x => exact .inl ⟨x, rfl, lookT_err h, by unfold readT; rw [h]⟩
 | ok p =>
  obtain ⟨r, t⟩ := p;cases t with
  | nil => exact .inr ⟨r, rfl, rfl, by unfold readT; rw [h]; simp⟩
  | cons a t => exact .inl ⟨3, rfl, by omega, by unfold readT; rw [h]; simp⟩
section
variable {w w' : World} {Z n c n2 c2 : Nat} {A A2 : Option Addr}
def InsO (w : World) (Z : Nat) (A : Option Addr) (n c : Nat) (l : List (Value × Inp)) : Prop :=
 w.ownsRow Z 58 35 (.slice A n c) n (l.flatMap fun p => inV p.1 p.2) ∧ (∀ p ∈ l, (∃ A' c', p.1 = .slice A' p.2.secret.length c' ∧ p.2.secret.length ≤ c' ∧ w.ownsRow Z 5 1 (.slice A' p.2.secret.length c') p.2.secret.length (p.2.secret.map B)) ∧ p.2.ok) ∧ l.length = n
def OutsO (w : World) (Z : Nat) (A : Option Addr) (n c : Nat) (os : List Outp) : Prop :=
 w.ownsRow Z 34 33 (.slice A n c) n (os.flatMap outV) ∧ (∀ o ∈ os, o.ok) ∧ os.length = n
theorem own_nil0 (w : World) (Z : Nat) (e : TypeId) (sz : Nat) : w.ownsRow Z e sz (.slice none 0 0) 0 [] := World.ownsRow_nil _ _ _ _
theorem own_sub {base : Nat} {e : TypeId} {sz : Nat} {xs : List Value} (h : w.ownsRow base e sz (.slice A n c) n xs) (k : ∀ b, base ≤ b → b < w.heap.size → w'.heap[b]? = w.heap[b]?) : w'.ownsRow base e sz (.slice A n c) n xs := by
 have hlt := own_lt h;refine ⟨h.1, ?_⟩;rcases h.2 with h2 | ⟨g, cap, cur, hv, hg, hh, r⟩
 ·exact .inl h2
 ·refine .inr ⟨g, cap, cur, hv, hg, ?_, r⟩;injection hv with hA
  rw [k g hg (hlt g (by rw [hA]; rfl))]; exact hh
theorem InsO.keep {l : List (Value × Inp)} (h : InsO w Z A n c l) (k : ∀ b, Z ≤ b → b < w.heap.size → w'.heap[b]? = w.heap[b]?) : InsO w' Z A n c l :=
 ⟨own_sub h.1 k, fun p hp => by
  obtain ⟨⟨A', c', e, hc, ho⟩, hk⟩ := h.2.1 p hp
  exact ⟨⟨A', c', e, hc, own_sub ho k⟩, hk⟩, h.2.2⟩
theorem OutsO.keep {l : List Outp} (h : OutsO w Z A n c l) (k : ∀ b, Z ≤ b → b < w.heap.size → w'.heap[b]? = w.heap[b]?) : OutsO w' Z A n c l := ⟨own_sub h.1 k, h.2⟩
theorem own_rows_ne {b1 b2 : Nat} {e1 e2 : TypeId} {s1 s2 : Nat} {xs ys : List Value} (h : w.ownsRow b1 e1 s1 (.slice A n c) n xs) (k : w.ownsRow b2 e2 s2 (.slice A2 n2 c2) n2 ys) (he : e1 ≠ e2) : ∀ g, A = some ⟨g, 0, none⟩ → some g ≠ A2.map Addr.block := by
 intro g hg e;rcases h.2 with ⟨h1, _⟩ | ⟨g1, _, cur, h1, _, hh, _⟩
 ·injection h1 with h1; rw [h1] at hg; cases hg
 ·rcases k.2 with ⟨k1, _⟩ | ⟨g2, _, cur2, k1, _, kk, _⟩
  ·injection k1 with k1; rw [k1] at e; cases e
  ·injection h1 with h1; injection k1 with k1
   rw [h1] at hg; injection hg with hg; injection hg with hg
   rw [k1] at e; injection e with e
   have e' : g = g2 := e;rw [hg] at hh; rw [← e', hh] at kk;injection kk with kk
   injection kk with _ kk _
   exact he kk
theorem InsO.cap {l : List (Value × Inp)} (h : InsO w Z A n c l) : n ≤ c := by
 rcases Nat.eq_zero_or_pos n with e | e
 ·omega
 ·obtain ⟨_, _, _, _, h4⟩ := own_form h.1 e; exact h4
theorem OutsO.cap {l : List Outp} (h : OutsO w Z A n c l) : n ≤ c := by
 rcases Nat.eq_zero_or_pos n with e | e
 ·omega
 ·obtain ⟨_, _, _, _, h4⟩ := own_form h.1 e; exact h4
theorem InsO.at_ {l : List (Value × Inp)} (h : InsO w Z A n c l) : InsAt w A n c l :=
 ⟨Sl.of_own h.1, fun p hp => by
  obtain ⟨⟨A', c', e, hc, ho⟩, hk⟩ := h.2.1 p hp
  exact ⟨⟨A', c', e, hc, Sl.of_own ho⟩, hk⟩, h.2.2, h.cap⟩
theorem OutsO.at_ {l : List Outp} (h : OutsO w Z A n c l) : OutsAt w A n c l := ⟨Sl.of_own h.1, h.2.1, h.2.2, h.cap⟩
theorem InsO.snoc {l : List (Value × Inp)} {A4 : Option Addr} {c4 : Nat} {v : Value} {i : Inp} (h : InsO w Z A n c l) (hg : w.grownBy w' (A.map Addr.block)) (ho : w'.ownsRow Z 58 35 (.slice A4 (n + 1) c4) (n + 1) ((l.flatMap fun p => inV p.1 p.2) ++ inV v i))
  (hs : ∃ A' c', v = .slice A' i.secret.length c' ∧ i.secret.length ≤ c' ∧ w.ownsRow Z 5 1 (.slice A' i.secret.length c') i.secret.length (i.secret.map B)) (hi : i.ok) : InsO w' Z A4 (n + 1) c4 (l ++ [(v, i)]) := by
 have key : ∀ {m c' : Nat} {A' : Option Addr} {xs : List Value}, w.ownsRow Z 5 1 (.slice A' m c') m xs → w'.ownsRow Z 5 1 (.slice A' m c') m xs := fun k => own_kept k hg (own_rows_ne k h.1 (by decide))
 refine ⟨by rw [List.flatMap_append]; simpa using ho, fun p hp => ?_, by simp [h.2.2]⟩;rcases List.mem_append.1 hp with hp | hp
 ·obtain ⟨⟨A', c', e, hc, ho⟩, hk⟩ := h.2.1 p hp;exact ⟨⟨A', c', e, hc, key ho⟩, hk⟩
 ·have : p = (v, i) := by simpa using hp
  subst this;obtain ⟨A', c', e, hc, ho⟩ := hs;exact ⟨⟨A', c', e, hc, key ho⟩, hi⟩
theorem OutsO.snoc {l : List Outp} {A4 : Option Addr} {c4 : Nat} {o : Outp} (h : OutsO w Z A n c l) (ho : w'.ownsRow Z 34 33 (.slice A4 (n + 1) c4) (n + 1) (l.flatMap outV ++ outV o)) (hk : o.ok) : OutsO w' Z A4 (n + 1) c4 (l ++ [o]) :=
 ⟨by rw [List.flatMap_append]; simpa using ho, fun p hp => by
  rcases List.mem_append.1 hp with hp | hp
  ·exact h.2.1 p hp
  ·have : p = o := by simpa using hp
   subst this; exact hk, by simp [h.2.2]⟩
def TGot (w : World) (Z : Nat) (A : Option Addr) (n c : Nat) (A2 : Option Addr) (n2 c2 : Nat) (t : Txn) : Prop := (∃ l, l.map Prod.snd = t.ins ∧ InsO w Z A n c l) ∧ OutsO w Z A2 n2 c2 t.outs
theorem TGot.keep {t : Txn} (h : TGot w Z A n c A2 n2 c2 t) (k : ∀ b, Z ≤ b → b < w.heap.size → w'.heap[b]? = w.heap[b]?) : TGot w' Z A n c A2 n2 c2 t := by
 obtain ⟨⟨l, e, h1⟩, h2⟩ := h;exact ⟨⟨l, e, h1.keep k⟩, h2.keep k⟩
end
end Go.Proofs.YtiijepimkgaccaaGreat
