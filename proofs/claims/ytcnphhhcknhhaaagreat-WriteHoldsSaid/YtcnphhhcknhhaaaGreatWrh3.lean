/- Words, plain data and contracts of the Go functions that this claim reaches. No condition beyond the hypotheses that each theorem states. -/
import Derived.Test.YtcnphhhcknhhaaaGreatWrh2
set_option linter.unusedSimpArgs false
set_option linter.unusedVariables false
namespace Go.Proofs.YtcnphhhcknhhaaaGreat
open Go Go.Den
set_option maxRecDepth 100000
set_option linter.unusedVariables false
def d_slices_Clone_api_Session_api_Session_1 (h : Heap) (x0 : Value) (K : Value → Heap → Prop) : Prop := bsM (bsI P ty_Sl_api_Session) 0 [] h fun v2 h3 => vvM P (Builtin.append_ #[ty_Sl_api_Session, ty_Sl_api_Session] ty_Sl_api_Session #[v2, x0]) h3 fun v4 h5 => K v4 h5
def d_slices_Clone_api_Session_api_Session (x0 : Value) (h : Heap) (K : Value → Heap → Prop) : Prop := ov (binV Go.BinOp.eql 7 true x0 (Go.Value.slice none 0 0)) fun v1 => cdM v1 (K (Go.Value.slice none 0 0) h) (d_slices_Clone_api_Session_api_Session_1 h x0 K)
theorem e_slices_Clone_api_Session_api_Session {x0 : Value} {h : Heap} {K : Value → Heap → Prop} (hd : d_slices_Clone_api_Session_api_Session x0 h K) : callM P fn_slices_Clone_api_Session_api_Session #[x0] h K :=
  call_of good mixed (fn := Tryz.f304) (args := [x0]) Tryz.func304 rfl (by kernel_rfl) (of_decide_eq_true rfl) (B := d_slices_Clone_api_Session_api_Session x0 h K) (by kernel_rfl) hd
def d_sess_Purge_c1 (x0 x1 : Value) (h : Heap) (K : Value → Heap → Prop) : Prop := nwM (some x0.cells) ty_api_Session h fun v1 h2 => ov (ldV (some none) x1 h2) fun v3 => ov (faV (some 3) v1) fun v4 => ov (ldV (some none) v4 h2) fun v5 => callM P fn_tick_Late #[v3, v5] h2 fun v6 h7 => K v6 h7
theorem e_sess_Purge_c1 {x0 x1 : Value} {h : Heap} {K : Value → Heap → Prop} (hd : d_sess_Purge_c1 x0 x1 h K) : callM P fn_sess_Purge_c1 #[x0, x1] h K :=
  call_of good mixed (fn := Tryz.f305) (args := [x0, x1]) Tryz.func305 rfl (by kernel_rfl) (of_decide_eq_true rfl) (B := d_sess_Purge_c1 x0 x1 h K) (by kernel_rfl) hd
def d_slices_Delete_string_string_2 (v7 : Value) (v4 : Value) (h8 : Heap) (K : Value → Heap → Prop) : Prop := ov (lnV 7 v7) fun v9 => ov (slV (some (none, 1)) v7 (some v9) (some v4)) fun v10 => vvM P (Builtin.clear_ #[ty_Sl_string] ty_unit #[v10]) h8 fun v11 h12 => K v7 h12
def d_slices_Delete_string_string_1 (x0 : Value) (x1 : Value) (x2 : Value) (h : Heap) (K : Value → Heap → Prop) : Prop := ov (lnV 7 x0) fun v4 => ov (slV (some (none, 1)) x0 none (some x1)) fun v5 => ov (slV (some (none, 1)) x0 (some x2) none) fun v6 => vvM P (Builtin.append_ #[ty_Sl_string, ty_Sl_string] ty_Sl_string #[v5, v6]) h fun v7 h8 => d_slices_Delete_string_string_2 v7 v4 h8 K
def d_slices_Delete_string_string (x0 x1 x2 : Value) (h : Heap) (K : Value → Heap → Prop) : Prop := ov (lnV 7 x0) fun v1 => ov (sl3V (some (none, 1)) x0 (some x1) x2 v1) fun v2 => ov (binV Go.BinOp.eql 2 false x1 x2) fun v3 => cdM v3 (K x0 h) (d_slices_Delete_string_string_1 x0 x1 x2 h K)
theorem e_slices_Delete_string_string {x0 x1 x2 : Value} {h : Heap} {K : Value → Heap → Prop} (hd : d_slices_Delete_string_string x0 x1 x2 h K) : callM P fn_slices_Delete_string_string #[x0, x1, x2] h K :=
  call_of good mixed (fn := Tryz.f306) (args := [x0, x1, x2]) Tryz.func306 rfl (by kernel_rfl) (of_decide_eq_true rfl) (B := d_slices_Delete_string_string x0 x1 x2 h K) (by kernel_rfl) hd
def d_slices_Clone_string_string (x0 : Value) (h : Heap) (K : Value → Heap → Prop) : Prop := ov (binV Go.BinOp.eql 7 true x0 (Go.Value.slice none 0 0)) fun v1 => cdM v1 (K (Go.Value.slice none 0 0) h) (bsM (bsI P ty_Sl_string) 0 [] h fun v2 h3 => vvM P (Builtin.append_ #[ty_Sl_string, ty_Sl_string] ty_Sl_string #[v2, x0]) h3 fun v4 h5 => K v4 h5)
theorem e_slices_Clone_string_string {x0 : Value} {h : Heap} {K : Value → Heap → Prop} (hd : d_slices_Clone_string_string x0 h K) : callM P fn_slices_Clone_string_string #[x0] h K :=
  call_of good mixed (fn := Tryz.f307) (args := [x0]) Tryz.func307 rfl (by kernel_rfl) (of_decide_eq_true rfl) (B := d_slices_Clone_string_string x0 h K) (by kernel_rfl) hd
def d_slices_Insert_string_string_6 (x1 : Value) (v2 : Value) (v15 : Value) (x0 : Value) (h19 : Heap) (K : Value → Heap → Prop) : Prop := ov (binV Go.BinOp.add 2 false x1 v2) fun v20 => ov (slV (some (none, 1)) v15 (some v20) none) fun v21 => ov (slV (some (none, 1)) x0 (some x1) none) fun v22 => vvM P (Builtin.copy_ #[ty_Sl_string, ty_Sl_string] ty_int #[v21, v22]) h19 fun v23 h24 => K v15 h24
def d_slices_Insert_string_string_5 (v15 : Value) (x1 : Value) (x2 : Value) (h16 : Heap) (v2 : Value) (x0 : Value) (K : Value → Heap → Prop) : Prop := ov (slV (some (none, 1)) v15 (some x1) none) fun v17 => vvM P (Builtin.copy_ #[ty_Sl_string, ty_Sl_string] ty_int #[v17, x2]) h16 fun v18 h19 => d_slices_Insert_string_string_6 x1 v2 v15 x0 h19 K
def d_slices_Insert_string_string_4 (x0 : Value) (x1 : Value) (v4 : Value) (v2 : Value) (h10 : Heap) (x2 : Value) (K : Value → Heap → Prop) : Prop := ov (slV (some (none, 1)) x0 none (some x1)) fun v12 => ov (binV Go.BinOp.add 2 false v4 v2) fun v13 => ov (binV Go.BinOp.sub 2 false v13 x1) fun v14 => vvM P (Builtin.append_ #[ty_Sl_string, ty_int] ty_Sl_string #[v12, v14]) h10 fun v15 h16 => d_slices_Insert_string_string_5 v15 x1 x2 h16 v2 x0 K
def d_slices_Insert_string_string_9 (x1 : Value) (v2 : Value) (v26 : Value) (h30 : Heap) (x2 : Value) (K : Value → Heap → Prop) : Prop := ov (binV Go.BinOp.add 2 false x1 v2) fun v32 => ov (slV (some (none, 1)) v26 (some v32) none) fun v33 => ov (slV (some (none, 1)) v26 (some x1) none) fun v34 => vvM P (Builtin.copy_ #[ty_Sl_string, ty_Sl_string] ty_int #[v33, v34]) h30 fun v35 h36 => ov (slV (some (none, 1)) v26 (some x1) none) fun v37 => vvM P (Builtin.copy_ #[ty_Sl_string, ty_Sl_string] ty_int #[v37, x2]) h36 fun v38 h39 => K v26 h39
def d_slices_Insert_string_string_10 (v26 : Value) (v4 : Value) (x2 : Value) (h30 : Heap) (x1 : Value) (v2 : Value) (K : Value → Heap → Prop) : Prop := ov (slV (some (none, 1)) v26 (some v4) none) fun v40 => vvM P (Builtin.copy_ #[ty_Sl_string, ty_Sl_string] ty_int #[v40, x2]) h30 fun v41 h42 => ov (slV (some (none, 1)) v26 (some x1) none) fun v43 => callM P fn_slices_rotateRight_string #[v43, v2] h42 fun v44 h45 => K v26 h45
def d_slices_Insert_string_string_8 (v29 : Value) (x1 : Value) (v2 : Value) (v26 : Value) (h30 : Heap) (x2 : Value) (K : Value → Heap → Prop) (v4 : Value) : Prop := ov (unV Go.UnOp.not v29) fun v31 => cdM v31 (d_slices_Insert_string_string_9 x1 v2 v26 h30 x2 K) (d_slices_Insert_string_string_10 v26 v4 x2 h30 x1 v2 K)
def d_slices_Insert_string_string_7 (v4 : Value) (v2 : Value) (x0 : Value) (x1 : Value) (x2 : Value) (h10 : Heap) (K : Value → Heap → Prop) : Prop := ov (binV Go.BinOp.add 2 false v4 v2) fun v25 => ov (slV (some (none, 1)) x0 none (some v25)) fun v26 => ov (binV Go.BinOp.add 2 false x1 v2) fun v27 => ov (slV (some (none, 1)) v26 (some v27) none) fun v28 => nxM P (callFunc fn_slices_overlaps_string #[x2, v28]) h10 fun v29 h30 => d_slices_Insert_string_string_8 v29 x1 v2 v26 h30 x2 K v4
def d_slices_Insert_string_string_3 (v8 : Value) (v9 : Value) (x0 : Value) (x1 : Value) (v4 : Value) (v2 : Value) (h10 : Heap) (x2 : Value) (K : Value → Heap → Prop) : Prop := ov (binV Go.BinOp.gtr 2 false v8 v9) fun v11 => cdM v11 (d_slices_Insert_string_string_4 x0 x1 v4 v2 h10 x2 K) (d_slices_Insert_string_string_7 v4 v2 x0 x1 x2 h10 K)
def d_slices_Insert_string_string_2 (v4 : Value) (v2 : Value) (x0 : Value) (h : Heap) (x1 : Value) (x2 : Value) (K : Value → Heap → Prop) : Prop := ov (binV Go.BinOp.add 2 false v4 v2) fun v8 => vvM P (Builtin.cap_ #[ty_Sl_string] ty_int #[x0]) h fun v9 h10 => d_slices_Insert_string_string_3 v8 v9 x0 x1 v4 v2 h10 x2 K
def d_slices_Insert_string_string_1 (x0 : Value) (x1 : Value) (x2 : Value) (h : Heap) (K : Value → Heap → Prop) (v2 : Value) : Prop := ov (lnV 7 x0) fun v4 => ov (binV Go.BinOp.eql 2 false x1 v4) fun v5 => cdM v5 (vvM P (Builtin.append_ #[ty_Sl_string, ty_Sl_string] ty_Sl_string #[x0, x2]) h fun v6 h7 => K v6 h7) (d_slices_Insert_string_string_2 v4 v2 x0 h x1 x2 K)
def d_slices_Insert_string_string (x0 x1 x2 : Value) (h : Heap) (K : Value → Heap → Prop) : Prop := ov (slV (some (none, 1)) x0 (some x1) none) fun v1 => ov (lnV 7 x2) fun v2 => ov (binV Go.BinOp.eql 2 true v2 (Go.Value.int Go.IntKind.i64 0)) fun v3 => cdM v3 (K x0 h) (d_slices_Insert_string_string_1 x0 x1 x2 h K v2)
theorem e_slices_Insert_string_string {x0 x1 x2 : Value} {h : Heap} {K : Value → Heap → Prop} (hd : d_slices_Insert_string_string x0 x1 x2 h K) : callM P fn_slices_Insert_string_string #[x0, x1, x2] h K :=
  call_of good mixed (fn := Tryz.f310) (args := [x0, x1, x2]) Tryz.func310 rfl (by kernel_rfl) (of_decide_eq_true rfl) (B := d_slices_Insert_string_string x0 x1 x2 h K) (by kernel_rfl) hd
def d_sess_find (x0 x1 : Value) (h : Heap) (K : Value → Heap → Prop) : Prop := callM P fn_slices_BinarySearchFunc_api_Session_api_Session_int #[x0, x1, (.func (.func fn_sess_find_c1) #[] #[])] h fun v1 h2 => ov (exV v1 0) fun v3 => ov (exV v1 1) fun v4 => K (.tuple #[v3, v4]) h2
theorem e_sess_find {x0 x1 : Value} {h : Heap} {K : Value → Heap → Prop} (hd : d_sess_find x0 x1 h K) : callM P fn_sess_find #[x0, x1] h K :=
  call_of good mixed (fn := Tryz.f312) (args := [x0, x1]) Tryz.func312 rfl (by kernel_rfl) (of_decide_eq_true rfl) (B := d_sess_find x0 x1 h K) (by kernel_rfl) hd
def d_slices_Insert_api_Session_api_Session_6 (x1 : Value) (v2 : Value) (v15 : Value) (x0 : Value) (h19 : Heap) (K : Value → Heap → Prop) : Prop := ov (binV Go.BinOp.add 2 false x1 v2) fun v20 => ov (slV (some (none, 4)) v15 (some v20) none) fun v21 => ov (slV (some (none, 4)) x0 (some x1) none) fun v22 => vvM P (Builtin.copy_ #[ty_Sl_api_Session, ty_Sl_api_Session] ty_int #[v21, v22]) h19 fun v23 h24 => K v15 h24
def d_slices_Insert_api_Session_api_Session_5 (v15 : Value) (x1 : Value) (x2 : Value) (h16 : Heap) (v2 : Value) (x0 : Value) (K : Value → Heap → Prop) : Prop := ov (slV (some (none, 4)) v15 (some x1) none) fun v17 => vvM P (Builtin.copy_ #[ty_Sl_api_Session, ty_Sl_api_Session] ty_int #[v17, x2]) h16 fun v18 h19 => d_slices_Insert_api_Session_api_Session_6 x1 v2 v15 x0 h19 K
def d_slices_Insert_api_Session_api_Session_4 (x0 : Value) (x1 : Value) (v4 : Value) (v2 : Value) (h10 : Heap) (x2 : Value) (K : Value → Heap → Prop) : Prop := ov (slV (some (none, 4)) x0 none (some x1)) fun v12 => ov (binV Go.BinOp.add 2 false v4 v2) fun v13 => ov (binV Go.BinOp.sub 2 false v13 x1) fun v14 => vvM P (Builtin.append_ #[ty_Sl_api_Session, ty_int] ty_Sl_api_Session #[v12, v14]) h10 fun v15 h16 => d_slices_Insert_api_Session_api_Session_5 v15 x1 x2 h16 v2 x0 K
def d_slices_Insert_api_Session_api_Session_10 (v26 : Value) (x1 : Value) (x2 : Value) (h36 : Heap) (K : Value → Heap → Prop) : Prop := ov (slV (some (none, 4)) v26 (some x1) none) fun v37 => vvM P (Builtin.copy_ #[ty_Sl_api_Session, ty_Sl_api_Session] ty_int #[v37, x2]) h36 fun v38 h39 => K v26 h39
def d_slices_Insert_api_Session_api_Session_9 (x1 : Value) (v2 : Value) (v26 : Value) (h30 : Heap) (x2 : Value) (K : Value → Heap → Prop) : Prop := ov (binV Go.BinOp.add 2 false x1 v2) fun v32 => ov (slV (some (none, 4)) v26 (some v32) none) fun v33 => ov (slV (some (none, 4)) v26 (some x1) none) fun v34 => vvM P (Builtin.copy_ #[ty_Sl_api_Session, ty_Sl_api_Session] ty_int #[v33, v34]) h30 fun v35 h36 => d_slices_Insert_api_Session_api_Session_10 v26 x1 x2 h36 K
def d_slices_Insert_api_Session_api_Session_11 (v26 : Value) (v4 : Value) (x2 : Value) (h30 : Heap) (x1 : Value) (v2 : Value) (K : Value → Heap → Prop) : Prop := ov (slV (some (none, 4)) v26 (some v4) none) fun v40 => vvM P (Builtin.copy_ #[ty_Sl_api_Session, ty_Sl_api_Session] ty_int #[v40, x2]) h30 fun v41 h42 => ov (slV (some (none, 4)) v26 (some x1) none) fun v43 => callM P fn_slices_rotateRight_api_Session #[v43, v2] h42 fun v44 h45 => K v26 h45
def d_slices_Insert_api_Session_api_Session_8 (v29 : Value) (x1 : Value) (v2 : Value) (v26 : Value) (h30 : Heap) (x2 : Value) (K : Value → Heap → Prop) (v4 : Value) : Prop := ov (unV Go.UnOp.not v29) fun v31 => cdM v31 (d_slices_Insert_api_Session_api_Session_9 x1 v2 v26 h30 x2 K) (d_slices_Insert_api_Session_api_Session_11 v26 v4 x2 h30 x1 v2 K)
def d_slices_Insert_api_Session_api_Session_7 (v4 : Value) (v2 : Value) (x0 : Value) (x1 : Value) (x2 : Value) (h10 : Heap) (K : Value → Heap → Prop) : Prop := ov (binV Go.BinOp.add 2 false v4 v2) fun v25 => ov (slV (some (none, 4)) x0 none (some v25)) fun v26 => ov (binV Go.BinOp.add 2 false x1 v2) fun v27 => ov (slV (some (none, 4)) v26 (some v27) none) fun v28 => nxM P (callFunc fn_slices_overlaps_api_Session #[x2, v28]) h10 fun v29 h30 => d_slices_Insert_api_Session_api_Session_8 v29 x1 v2 v26 h30 x2 K v4
def d_slices_Insert_api_Session_api_Session_3 (v8 : Value) (v9 : Value) (x0 : Value) (x1 : Value) (v4 : Value) (v2 : Value) (h10 : Heap) (x2 : Value) (K : Value → Heap → Prop) : Prop := ov (binV Go.BinOp.gtr 2 false v8 v9) fun v11 => cdM v11 (d_slices_Insert_api_Session_api_Session_4 x0 x1 v4 v2 h10 x2 K) (d_slices_Insert_api_Session_api_Session_7 v4 v2 x0 x1 x2 h10 K)
def d_slices_Insert_api_Session_api_Session_2 (v4 : Value) (v2 : Value) (x0 : Value) (h : Heap) (x1 : Value) (x2 : Value) (K : Value → Heap → Prop) : Prop := ov (binV Go.BinOp.add 2 false v4 v2) fun v8 => vvM P (Builtin.cap_ #[ty_Sl_api_Session] ty_int #[x0]) h fun v9 h10 => d_slices_Insert_api_Session_api_Session_3 v8 v9 x0 x1 v4 v2 h10 x2 K
def d_slices_Insert_api_Session_api_Session_1 (x0 : Value) (x1 : Value) (x2 : Value) (h : Heap) (K : Value → Heap → Prop) (v2 : Value) : Prop := ov (lnV 7 x0) fun v4 => ov (binV Go.BinOp.eql 2 false x1 v4) fun v5 => cdM v5 (vvM P (Builtin.append_ #[ty_Sl_api_Session, ty_Sl_api_Session] ty_Sl_api_Session #[x0, x2]) h fun v6 h7 => K v6 h7) (d_slices_Insert_api_Session_api_Session_2 v4 v2 x0 h x1 x2 K)
def d_slices_Insert_api_Session_api_Session (x0 x1 x2 : Value) (h : Heap) (K : Value → Heap → Prop) : Prop := ov (slV (some (none, 4)) x0 (some x1) none) fun v1 => ov (lnV 7 x2) fun v2 => ov (binV Go.BinOp.eql 2 true v2 (Go.Value.int Go.IntKind.i64 0)) fun v3 => cdM v3 (K x0 h) (d_slices_Insert_api_Session_api_Session_1 x0 x1 x2 h K v2)
theorem e_slices_Insert_api_Session_api_Session {x0 x1 x2 : Value} {h : Heap} {K : Value → Heap → Prop} (hd : d_slices_Insert_api_Session_api_Session x0 x1 x2 h K) : callM P fn_slices_Insert_api_Session_api_Session #[x0, x1, x2] h K :=
  call_of good mixed (fn := Tryz.f313) (args := [x0, x1, x2]) Tryz.func313 rfl (by kernel_rfl) (of_decide_eq_true rfl) (B := d_slices_Insert_api_Session_api_Session x0 x1 x2 h K) (by kernel_rfl) hd
def d_slices_Delete_api_Session_api_Session_2 (v7 : Value) (v4 : Value) (h8 : Heap) (K : Value → Heap → Prop) : Prop := ov (lnV 7 v7) fun v9 => ov (slV (some (none, 4)) v7 (some v9) (some v4)) fun v10 => vvM P (Builtin.clear_ #[ty_Sl_api_Session] ty_unit #[v10]) h8 fun v11 h12 => K v7 h12
def d_slices_Delete_api_Session_api_Session_1 (x0 : Value) (x1 : Value) (x2 : Value) (h : Heap) (K : Value → Heap → Prop) : Prop := ov (lnV 7 x0) fun v4 => ov (slV (some (none, 4)) x0 none (some x1)) fun v5 => ov (slV (some (none, 4)) x0 (some x2) none) fun v6 => vvM P (Builtin.append_ #[ty_Sl_api_Session, ty_Sl_api_Session] ty_Sl_api_Session #[v5, v6]) h fun v7 h8 => d_slices_Delete_api_Session_api_Session_2 v7 v4 h8 K
def d_slices_Delete_api_Session_api_Session (x0 x1 x2 : Value) (h : Heap) (K : Value → Heap → Prop) : Prop := ov (lnV 7 x0) fun v1 => ov (sl3V (some (none, 4)) x0 (some x1) x2 v1) fun v2 => ov (binV Go.BinOp.eql 2 false x1 x2) fun v3 => cdM v3 (K x0 h) (d_slices_Delete_api_Session_api_Session_1 x0 x1 x2 h K)
theorem e_slices_Delete_api_Session_api_Session {x0 x1 x2 : Value} {h : Heap} {K : Value → Heap → Prop} (hd : d_slices_Delete_api_Session_api_Session x0 x1 x2 h K) : callM P fn_slices_Delete_api_Session_api_Session #[x0, x1, x2] h K :=
  call_of good mixed (fn := Tryz.f314) (args := [x0, x1, x2]) Tryz.func314 rfl (by kernel_rfl) (of_decide_eq_true rfl) (B := d_slices_Delete_api_Session_api_Session x0 x1 x2 h K) (by kernel_rfl) hd
def d_cmp_Less_string_1 (v1 : Value) (x1 : Value) (h2 : Heap) (x0 : Value) (K : Value → Heap → Prop) : Prop := gM (isB v1 true) (fun k5 => k5 x1 h2) h2 fun v3 h4 => gM (isB v1 true) (fun k8 => callM P fn_cmp_isNaN_string #[v3] h4 fun v9 h10 => k8 v9 h10) h4 fun v6 h7 => gM (isB v1 true) (fun k13 => ov (unV Go.UnOp.not v6) fun v14 => k13 v14 h7) h7 fun v11 h12 => ov (pkV v1 v11 (Go.Value.bool false)) fun v15 => gM (isB v15 false) (fun k18 => k18 x0 h12) h12 fun v16 h17 => gM (isB v15 false) (fun k21 => k21 x1 h17) h17 fun v19 h20 => gM (isB v15 false) (fun k24 => ov (binV Go.BinOp.lss 3 false v16 v19) fun v25 => k24 v25 h20) h20 fun v22 h23 => ov (pkV v15 (Go.Value.bool true) v22) fun v26 => K v26 h23
def d_cmp_Less_string (x0 x1 : Value) (h : Heap) (K : Value → Heap → Prop) : Prop := callM P fn_cmp_isNaN_string #[x0] h fun v1 h2 => d_cmp_Less_string_1 v1 x1 h2 x0 K
theorem e_cmp_Less_string {x0 x1 : Value} {h : Heap} {K : Value → Heap → Prop} (hd : d_cmp_Less_string x0 x1 h K) : callM P fn_cmp_Less_string #[x0, x1] h K :=
  call_of good mixed (fn := Tryz.f316) (args := [x0, x1]) Tryz.func316 rfl (by kernel_rfl) (of_decide_eq_true rfl) (B := d_cmp_Less_string x0 x1 h K) (by kernel_rfl) hd
def d_slices_isNaN_string (x0 : Value) (h : Heap) (K : Value → Heap → Prop) : Prop := ov (binV Go.BinOp.neq 3 false x0 x0) fun v1 => K v1 h
theorem e_slices_isNaN_string {x0 : Value} {h : Heap} {K : Value → Heap → Prop} (hd : d_slices_isNaN_string x0 h K) : callM P fn_slices_isNaN_string #[x0] h K :=
  call_of good mixed (fn := Tryz.f317) (args := [x0]) Tryz.func317 rfl (by kernel_rfl) (of_decide_eq_true rfl) (B := d_slices_isNaN_string x0 h K) (by kernel_rfl) hd
def d_slices_Delete_book_Entry_book_Entry_2 (v7 : Value) (v4 : Value) (h8 : Heap) (K : Value → Heap → Prop) : Prop := ov (lnV 7 v7) fun v9 => ov (slV (some (none, 4)) v7 (some v9) (some v4)) fun v10 => vvM P (Builtin.clear_ #[ty_Sl_book_Entry] ty_unit #[v10]) h8 fun v11 h12 => K v7 h12
def d_slices_Delete_book_Entry_book_Entry_1 (x0 : Value) (x1 : Value) (x2 : Value) (h : Heap) (K : Value → Heap → Prop) : Prop := ov (lnV 7 x0) fun v4 => ov (slV (some (none, 4)) x0 none (some x1)) fun v5 => ov (slV (some (none, 4)) x0 (some x2) none) fun v6 => vvM P (Builtin.append_ #[ty_Sl_book_Entry, ty_Sl_book_Entry] ty_Sl_book_Entry #[v5, v6]) h fun v7 h8 => d_slices_Delete_book_Entry_book_Entry_2 v7 v4 h8 K
def d_slices_Delete_book_Entry_book_Entry (x0 x1 x2 : Value) (h : Heap) (K : Value → Heap → Prop) : Prop := ov (lnV 7 x0) fun v1 => ov (sl3V (some (none, 4)) x0 (some x1) x2 v1) fun v2 => ov (binV Go.BinOp.eql 2 false x1 x2) fun v3 => cdM v3 (K x0 h) (d_slices_Delete_book_Entry_book_Entry_1 x0 x1 x2 h K)
theorem e_slices_Delete_book_Entry_book_Entry {x0 x1 x2 : Value} {h : Heap} {K : Value → Heap → Prop} (hd : d_slices_Delete_book_Entry_book_Entry x0 x1 x2 h K) : callM P fn_slices_Delete_book_Entry_book_Entry #[x0, x1, x2] h K :=
  call_of good mixed (fn := Tryz.f318) (args := [x0, x1, x2]) Tryz.func318 rfl (by kernel_rfl) (of_decide_eq_true rfl) (B := d_slices_Delete_book_Entry_book_Entry x0 x1 x2 h K) (by kernel_rfl) hd
def d_slices_Clone_book_Entry_book_Entry_1 (h : Heap) (x0 : Value) (K : Value → Heap → Prop) : Prop := bsM (bsI P ty_Sl_book_Entry) 0 [] h fun v2 h3 => vvM P (Builtin.append_ #[ty_Sl_book_Entry, ty_Sl_book_Entry] ty_Sl_book_Entry #[v2, x0]) h3 fun v4 h5 => K v4 h5
def d_slices_Clone_book_Entry_book_Entry (x0 : Value) (h : Heap) (K : Value → Heap → Prop) : Prop := ov (binV Go.BinOp.eql 7 true x0 (Go.Value.slice none 0 0)) fun v1 => cdM v1 (K (Go.Value.slice none 0 0) h) (d_slices_Clone_book_Entry_book_Entry_1 h x0 K)
theorem e_slices_Clone_book_Entry_book_Entry {x0 : Value} {h : Heap} {K : Value → Heap → Prop} (hd : d_slices_Clone_book_Entry_book_Entry x0 h K) : callM P fn_slices_Clone_book_Entry_book_Entry #[x0] h K :=
  call_of good mixed (fn := Tryz.f319) (args := [x0]) Tryz.func319 rfl (by kernel_rfl) (of_decide_eq_true rfl) (B := d_slices_Clone_book_Entry_book_Entry x0 h K) (by kernel_rfl) hd
def d_slices_Insert_book_Entry_book_Entry_6 (x1 : Value) (v2 : Value) (v15 : Value) (x0 : Value) (h19 : Heap) (K : Value → Heap → Prop) : Prop := ov (binV Go.BinOp.add 2 false x1 v2) fun v20 => ov (slV (some (none, 4)) v15 (some v20) none) fun v21 => ov (slV (some (none, 4)) x0 (some x1) none) fun v22 => vvM P (Builtin.copy_ #[ty_Sl_book_Entry, ty_Sl_book_Entry] ty_int #[v21, v22]) h19 fun v23 h24 => K v15 h24
def d_slices_Insert_book_Entry_book_Entry_5 (v15 : Value) (x1 : Value) (x2 : Value) (h16 : Heap) (v2 : Value) (x0 : Value) (K : Value → Heap → Prop) : Prop := ov (slV (some (none, 4)) v15 (some x1) none) fun v17 => vvM P (Builtin.copy_ #[ty_Sl_book_Entry, ty_Sl_book_Entry] ty_int #[v17, x2]) h16 fun v18 h19 => d_slices_Insert_book_Entry_book_Entry_6 x1 v2 v15 x0 h19 K
def d_slices_Insert_book_Entry_book_Entry_4 (x0 : Value) (x1 : Value) (v4 : Value) (v2 : Value) (h10 : Heap) (x2 : Value) (K : Value → Heap → Prop) : Prop := ov (slV (some (none, 4)) x0 none (some x1)) fun v12 => ov (binV Go.BinOp.add 2 false v4 v2) fun v13 => ov (binV Go.BinOp.sub 2 false v13 x1) fun v14 => vvM P (Builtin.append_ #[ty_Sl_book_Entry, ty_int] ty_Sl_book_Entry #[v12, v14]) h10 fun v15 h16 => d_slices_Insert_book_Entry_book_Entry_5 v15 x1 x2 h16 v2 x0 K
def d_slices_Insert_book_Entry_book_Entry_10 (v26 : Value) (x1 : Value) (x2 : Value) (h36 : Heap) (K : Value → Heap → Prop) : Prop := ov (slV (some (none, 4)) v26 (some x1) none) fun v37 => vvM P (Builtin.copy_ #[ty_Sl_book_Entry, ty_Sl_book_Entry] ty_int #[v37, x2]) h36 fun v38 h39 => K v26 h39
def d_slices_Insert_book_Entry_book_Entry_9 (x1 : Value) (v2 : Value) (v26 : Value) (h30 : Heap) (x2 : Value) (K : Value → Heap → Prop) : Prop := ov (binV Go.BinOp.add 2 false x1 v2) fun v32 => ov (slV (some (none, 4)) v26 (some v32) none) fun v33 => ov (slV (some (none, 4)) v26 (some x1) none) fun v34 => vvM P (Builtin.copy_ #[ty_Sl_book_Entry, ty_Sl_book_Entry] ty_int #[v33, v34]) h30 fun v35 h36 => d_slices_Insert_book_Entry_book_Entry_10 v26 x1 x2 h36 K
def d_slices_Insert_book_Entry_book_Entry_11 (v26 : Value) (v4 : Value) (x2 : Value) (h30 : Heap) (x1 : Value) (v2 : Value) (K : Value → Heap → Prop) : Prop := ov (slV (some (none, 4)) v26 (some v4) none) fun v40 => vvM P (Builtin.copy_ #[ty_Sl_book_Entry, ty_Sl_book_Entry] ty_int #[v40, x2]) h30 fun v41 h42 => ov (slV (some (none, 4)) v26 (some x1) none) fun v43 => callM P fn_slices_rotateRight_book_Entry #[v43, v2] h42 fun v44 h45 => K v26 h45
def d_slices_Insert_book_Entry_book_Entry_8 (v29 : Value) (x1 : Value) (v2 : Value) (v26 : Value) (h30 : Heap) (x2 : Value) (K : Value → Heap → Prop) (v4 : Value) : Prop := ov (unV Go.UnOp.not v29) fun v31 => cdM v31 (d_slices_Insert_book_Entry_book_Entry_9 x1 v2 v26 h30 x2 K) (d_slices_Insert_book_Entry_book_Entry_11 v26 v4 x2 h30 x1 v2 K)
def d_slices_Insert_book_Entry_book_Entry_7 (v4 : Value) (v2 : Value) (x0 : Value) (x1 : Value) (x2 : Value) (h10 : Heap) (K : Value → Heap → Prop) : Prop := ov (binV Go.BinOp.add 2 false v4 v2) fun v25 => ov (slV (some (none, 4)) x0 none (some v25)) fun v26 => ov (binV Go.BinOp.add 2 false x1 v2) fun v27 => ov (slV (some (none, 4)) v26 (some v27) none) fun v28 => nxM P (callFunc fn_slices_overlaps_book_Entry #[x2, v28]) h10 fun v29 h30 => d_slices_Insert_book_Entry_book_Entry_8 v29 x1 v2 v26 h30 x2 K v4
def d_slices_Insert_book_Entry_book_Entry_3 (v8 : Value) (v9 : Value) (x0 : Value) (x1 : Value) (v4 : Value) (v2 : Value) (h10 : Heap) (x2 : Value) (K : Value → Heap → Prop) : Prop := ov (binV Go.BinOp.gtr 2 false v8 v9) fun v11 => cdM v11 (d_slices_Insert_book_Entry_book_Entry_4 x0 x1 v4 v2 h10 x2 K) (d_slices_Insert_book_Entry_book_Entry_7 v4 v2 x0 x1 x2 h10 K)
def d_slices_Insert_book_Entry_book_Entry_2 (v4 : Value) (v2 : Value) (x0 : Value) (h : Heap) (x1 : Value) (x2 : Value) (K : Value → Heap → Prop) : Prop := ov (binV Go.BinOp.add 2 false v4 v2) fun v8 => vvM P (Builtin.cap_ #[ty_Sl_book_Entry] ty_int #[x0]) h fun v9 h10 => d_slices_Insert_book_Entry_book_Entry_3 v8 v9 x0 x1 v4 v2 h10 x2 K
def d_slices_Insert_book_Entry_book_Entry_1 (x0 : Value) (x1 : Value) (x2 : Value) (h : Heap) (K : Value → Heap → Prop) (v2 : Value) : Prop := ov (lnV 7 x0) fun v4 => ov (binV Go.BinOp.eql 2 false x1 v4) fun v5 => cdM v5 (vvM P (Builtin.append_ #[ty_Sl_book_Entry, ty_Sl_book_Entry] ty_Sl_book_Entry #[x0, x2]) h fun v6 h7 => K v6 h7) (d_slices_Insert_book_Entry_book_Entry_2 v4 v2 x0 h x1 x2 K)
def d_slices_Insert_book_Entry_book_Entry (x0 x1 x2 : Value) (h : Heap) (K : Value → Heap → Prop) : Prop := ov (slV (some (none, 4)) x0 (some x1) none) fun v1 => ov (lnV 7 x2) fun v2 => ov (binV Go.BinOp.eql 2 true v2 (Go.Value.int Go.IntKind.i64 0)) fun v3 => cdM v3 (K x0 h) (d_slices_Insert_book_Entry_book_Entry_1 x0 x1 x2 h K v2)
theorem e_slices_Insert_book_Entry_book_Entry {x0 x1 x2 : Value} {h : Heap} {K : Value → Heap → Prop} (hd : d_slices_Insert_book_Entry_book_Entry x0 x1 x2 h K) : callM P fn_slices_Insert_book_Entry_book_Entry #[x0, x1, x2] h K :=
  call_of good mixed (fn := Tryz.f320) (args := [x0, x1, x2]) Tryz.func320 rfl (by kernel_rfl) (of_decide_eq_true rfl) (B := d_slices_Insert_book_Entry_book_Entry x0 x1 x2 h K) (by kernel_rfl) hd
def d_slices_IndexFunc_api_Session_api_Session_5 (q7 : Post) (m : List Nat) (s5 : Env) (v8 : Value) (v9 : Value) (v10 : Value) (v11 : Value) (h12 : Heap) : Prop := q7 .ret m (puts s5 [(9, v8), (10, (s5 8)), (5, (s5 8)), (11, (s5 1)), (12, (s5 0)), (13, (s5 8)), (14, v9), (15, v10), (16, v11), (17, (s5 8)), (4, (s5 8))]) h12
def d_slices_IndexFunc_api_Session_api_Session_6 (s5 : Env) (q7 : Post) (m : List Nat) (v8 : Value) (v9 : Value) (v10 : Value) (v11 : Value) (h12 : Heap) : Prop := ov (binV Go.BinOp.add 2 true (s5 8) (Go.Value.int Go.IntKind.i64 1)) fun v13 => q7 .normal m (puts s5 [(9, v8), (10, (s5 8)), (5, (s5 8)), (11, (s5 1)), (12, (s5 0)), (13, (s5 8)), (14, v9), (15, v10), (16, v11), (18, v13), (8, v13)]) h12
def d_slices_IndexFunc_api_Session_api_Session_4 (v11 : Value) (q7 : Post) (m : List Nat) (s5 : Env) (v8 : Value) (v9 : Value) (v10 : Value) (h12 : Heap) : Prop := cdM v11 (d_slices_IndexFunc_api_Session_api_Session_5 q7 m s5 v8 v9 v10 v11 h12) (d_slices_IndexFunc_api_Session_api_Session_6 s5 q7 m v8 v9 v10 v11 h12)
def d_slices_IndexFunc_api_Session_api_Session_3 (s5 : Env) (h6 : Heap) (q7 : Post) (m : List Nat) (v8 : Value) : Prop := ov (iaV (some (none, 4)) (s5 0) (s5 8)) fun v9 => ov (ldV (some (some 4)) v9 h6) fun v10 => nxM P (do let d ← Deferred.ofValue (s5 1) #[v10] ; invoke d.target d.args) h6 fun v11 h12 => d_slices_IndexFunc_api_Session_api_Session_4 v11 q7 m s5 v8 v9 v10 h12
def d_slices_IndexFunc_api_Session_api_Session_2 (s5 : Env) (h6 : Heap) (q7 : Post) (m : List Nat) : Prop := ov (binV Go.BinOp.lss 2 false (s5 8) (s5 7)) fun v8 => cdM v8 (d_slices_IndexFunc_api_Session_api_Session_3 s5 h6 q7 m v8) (q7 (.exit 0) m (puts s5 [(9, v8)]) h6)
def d_slices_IndexFunc_api_Session_api_Session_1 (x0 : Value) (x1 : Value) (h : Heap) (q1 : Post) : Prop := ov (lnV 7 x0) fun v4 => loopM (fun m s5 h6 q7 => d_slices_IndexFunc_api_Session_api_Session_2 s5 h6 q7 m) [] (puts (envOf [x0, x1]) [(4, (Go.Value.int Go.IntKind.i64 0)), (6, x0), (7, v4), (8, (Go.Value.int Go.IntKind.i64 0))]) h (blkM 0 q1)
def d_slices_IndexFunc_api_Session_api_Session (x0 x1 : Value) (h : Heap) (K : Value → Heap → Prop) : Prop := seqM (fun q1 => d_slices_IndexFunc_api_Session_api_Session_1 x0 x1 h q1) (fun m s2 h3 => (retM P [.tmp 4] K) .ret m (puts s2 [(4, (Go.Value.int Go.IntKind.i64 (-1)))]) h3) (retM P [.tmp 4] K)
theorem e_slices_IndexFunc_api_Session_api_Session {x0 x1 : Value} {h : Heap} {K : Value → Heap → Prop} (hd : d_slices_IndexFunc_api_Session_api_Session x0 x1 h K) : callM P fn_slices_IndexFunc_api_Session_api_Session #[x0, x1] h K :=
  call_of good mixed (fn := Tryz.f321) (args := [x0, x1]) Tryz.func321 rfl (by kernel_rfl) (of_decide_eq_true rfl) (B := d_slices_IndexFunc_api_Session_api_Session x0 x1 h K) (by kernel_rfl) hd
def d_slices_BinarySearchFunc_api_Session_api_Session_int_5 (v12 : Value) (q7 : Post) (m : List Nat) (s5 : Env) (v8 : Value) (v9 : Value) (v10 : Value) (v11 : Value) (v13 : Value) (v14 : Value) (v15 : Value) (v17 : Value) (h16 : Heap) : Prop := ov (binV Go.BinOp.add 2 true v12 (Go.Value.int Go.IntKind.i64 1)) fun v18 => q7 .normal m (puts s5 [(15, (s5 9)), (16, (s5 10)), (17, v8), (18, (s5 9)), (19, (s5 10)), (20, v9), (21, v10), (22, v11), (23, v12), (11, v12), (24, (s5 2)), (25, (s5 0)), (26, v12), (27, v13), (28, v14), (29, (s5 1)), (30, v15), (31, v17), (32, v12), (33, v18), (9, v18)]) h16
def d_slices_BinarySearchFunc_api_Session_api_Session_int_6 (q7 : Post) (m : List Nat) (s5 : Env) (v8 : Value) (v9 : Value) (v10 : Value) (v11 : Value) (v12 : Value) (v13 : Value) (v14 : Value) (v15 : Value) (v17 : Value) (h16 : Heap) : Prop := q7 .normal m (puts s5 [(15, (s5 9)), (16, (s5 10)), (17, v8), (18, (s5 9)), (19, (s5 10)), (20, v9), (21, v10), (22, v11), (23, v12), (11, v12), (24, (s5 2)), (25, (s5 0)), (26, v12), (27, v13), (28, v14), (29, (s5 1)), (30, v15), (31, v17), (34, v12), (10, v12)]) h16
def d_slices_BinarySearchFunc_api_Session_api_Session_int_4 (v15 : Value) (v12 : Value) (q7 : Post) (m : List Nat) (s5 : Env) (v8 : Value) (v9 : Value) (v10 : Value) (v11 : Value) (v13 : Value) (v14 : Value) (h16 : Heap) : Prop := ov (binV Go.BinOp.lss 2 true v15 (Go.Value.int Go.IntKind.i64 0)) fun v17 => cdM v17 (d_slices_BinarySearchFunc_api_Session_api_Session_int_5 v12 q7 m s5 v8 v9 v10 v11 v13 v14 v15 v17 h16) (d_slices_BinarySearchFunc_api_Session_api_Session_int_6 q7 m s5 v8 v9 v10 v11 v12 v13 v14 v15 v17 h16)
def d_slices_BinarySearchFunc_api_Session_api_Session_int_3 (s5 : Env) (h6 : Heap) (q7 : Post) (m : List Nat) (v8 : Value) : Prop := ov (binV Go.BinOp.add 2 false (s5 9) (s5 10)) fun v9 => ov (cvV (some .u64) v9) fun v10 => ov (binV Go.BinOp.shr 2 true v10 (Go.Value.int Go.IntKind.u64 1)) fun v11 => ov (cvV (some .i64) v11) fun v12 => ov (iaV (some (none, 4)) (s5 0) v12) fun v13 => ov (ldV (some (some 4)) v13 h6) fun v14 => nxM P (do let d ← Deferred.ofValue (s5 2) #[v14, (s5 1)] ; invoke d.target d.args) h6 fun v15 h16 => d_slices_BinarySearchFunc_api_Session_api_Session_int_4 v15 v12 q7 m s5 v8 v9 v10 v11 v13 v14 h16
def d_slices_BinarySearchFunc_api_Session_api_Session_int_2 (s5 : Env) (h6 : Heap) (q7 : Post) (m : List Nat) : Prop := ov (binV Go.BinOp.lss 2 false (s5 9) (s5 10)) fun v8 => cdM v8 (d_slices_BinarySearchFunc_api_Session_api_Session_int_3 s5 h6 q7 m v8) (q7 (.exit 0) m (puts s5 [(15, (s5 9)), (16, (s5 10)), (17, v8)]) h6)
def d_slices_BinarySearchFunc_api_Session_api_Session_int_1 (x0 : Value) (x1 : Value) (x2 : Value) (v1 : Value) (h : Heap) (q2 : Post) : Prop := loopM (fun m s5 h6 q7 => d_slices_BinarySearchFunc_api_Session_api_Session_int_2 s5 h6 q7 m) [] (puts (envOf [x0, x1, x2]) [(6, (Go.Value.int Go.IntKind.i64 0)), (7, (Go.Value.bool false)), (12, x0), (13, v1), (8, v1), (14, v1), (9, (Go.Value.int Go.IntKind.i64 0)), (10, v1)]) h (blkM 0 q2)
def d_slices_BinarySearchFunc_api_Session_api_Session_int_7 (s3 : Env) (h4 : Heap) (K : Value → Heap → Prop) (m : List Nat) : Prop := ov (binV Go.BinOp.lss 2 false (s3 9) (s3 8)) fun v19 => gM (isB v19 true) (fun k22 => k22 (s3 2) h4) h4 fun v20 h21 => gM (isB v19 true) (fun k25 => k25 (s3 0) h21) h21 fun v23 h24 => gM (isB v19 true) (fun k28 => k28 (s3 9) h24) h24 fun v26 h27 => gM (isB v19 true) (fun k31 => ov (iaV (some (none, 4)) v23 v26) fun v32 => k31 v32 h27) h27 fun v29 h30 => gM (isB v19 true) (fun k35 => ov (ldV (some (some 4)) v29 h30) fun v36 => k35 v36 h30) h30 fun v33 h34 => gM (isB v19 true) (fun k39 => k39 (s3 1) h34) h34 fun v37 h38 => gM (isB v19 true) (fun k42 => nxM P (do let d ← Deferred.ofValue v20 #[v33, v37] ; invoke d.target d.args) h38 fun v43 h44 => k42 v43 h44) h38 fun v40 h41 => gM (isB v19 true) (fun k47 => ov (binV Go.BinOp.eql 2 true v40 (Go.Value.int Go.IntKind.i64 0)) fun v48 => k47 v48 h41) h41 fun v45 h46 => ov (pkV v19 v45 (Go.Value.bool false)) fun v49 => (retM P [.tmp 6, .tmp 7] K) .ret m (puts s3 [(35, (s3 9)), (36, (s3 9)), (37, (s3 8)), (38, v19), (39, v19), (40, v20), (41, v23), (42, v26), (43, v29), (44, v33), (45, v37), (46, v40), (47, v45), (48, v49), (6, (s3 9)), (7, v49)]) h46
def d_slices_BinarySearchFunc_api_Session_api_Session_int (x0 x1 x2 : Value) (h : Heap) (K : Value → Heap → Prop) : Prop := ov (lnV 7 x0) fun v1 => seqM (fun q2 => d_slices_BinarySearchFunc_api_Session_api_Session_int_1 x0 x1 x2 v1 h q2) (fun m s3 h4 => d_slices_BinarySearchFunc_api_Session_api_Session_int_7 s3 h4 K m) (retM P [.tmp 6, .tmp 7] K)
theorem e_slices_BinarySearchFunc_api_Session_api_Session_int {x0 x1 x2 : Value} {h : Heap} {K : Value → Heap → Prop} (hd : d_slices_BinarySearchFunc_api_Session_api_Session_int x0 x1 x2 h K) : callM P fn_slices_BinarySearchFunc_api_Session_api_Session_int #[x0, x1, x2] h K :=
  call_of good mixed (fn := Tryz.f326) (args := [x0, x1, x2]) Tryz.func326 rfl (by kernel_rfl) (of_decide_eq_true rfl) (B := d_slices_BinarySearchFunc_api_Session_api_Session_int x0 x1 x2 h K) (by kernel_rfl) hd
def d_sess_find_c1 (x0 x1 : Value) (h : Heap) (K : Value → Heap → Prop) : Prop := nwM (some x0.cells) ty_api_Session h fun v1 h2 => ov (faV (some 0) v1) fun v3 => ov (ldV (some none) v3 h2) fun v4 => callM P fn_cmp_Compare_int #[v4, x1] h2 fun v5 h6 => K v5 h6
theorem e_sess_find_c1 {x0 x1 : Value} {h : Heap} {K : Value → Heap → Prop} (hd : d_sess_find_c1 x0 x1 h K) : callM P fn_sess_find_c1 #[x0, x1] h K :=
  call_of good mixed (fn := Tryz.f327) (args := [x0, x1]) Tryz.func327 rfl (by kernel_rfl) (of_decide_eq_true rfl) (B := d_sess_find_c1 x0 x1 h K) (by kernel_rfl) hd
def d_cmp_Compare_int_4 (x0 : Value) (x1 : Value) (K : Value → Heap → Prop) (h4 : Heap) : Prop := ov (binV Go.BinOp.lss 2 false x0 x1) fun v5 => cdM v5 (K (Go.Value.int Go.IntKind.i64 (-1)) h4) (ov (binV Go.BinOp.gtr 2 false x0 x1) fun v6 => cdM v6 (K (Go.Value.int Go.IntKind.i64 1) h4) (K (Go.Value.int Go.IntKind.i64 0) h4))
def d_cmp_Compare_int_3 (v3 : Value) (K : Value → Heap → Prop) (h4 : Heap) (x0 : Value) (x1 : Value) : Prop := cdM v3 (K (Go.Value.int Go.IntKind.i64 1) h4) (d_cmp_Compare_int_4 x0 x1 K h4)
def d_cmp_Compare_int_2 (v1 : Value) (v3 : Value) (K : Value → Heap → Prop) (h4 : Heap) (x0 : Value) (x1 : Value) : Prop := cdM v1 (cdM v3 (K (Go.Value.int Go.IntKind.i64 0) h4) (K (Go.Value.int Go.IntKind.i64 (-1)) h4)) (d_cmp_Compare_int_3 v3 K h4 x0 x1)
def d_cmp_Compare_int_1 (x1 : Value) (h2 : Heap) (v1 : Value) (K : Value → Heap → Prop) (x0 : Value) : Prop := callM P fn_cmp_isNaN_int #[x1] h2 fun v3 h4 => d_cmp_Compare_int_2 v1 v3 K h4 x0 x1
def d_cmp_Compare_int (x0 x1 : Value) (h : Heap) (K : Value → Heap → Prop) : Prop := callM P fn_cmp_isNaN_int #[x0] h fun v1 h2 => d_cmp_Compare_int_1 x1 h2 v1 K x0
theorem e_cmp_Compare_int {x0 x1 : Value} {h : Heap} {K : Value → Heap → Prop} (hd : d_cmp_Compare_int x0 x1 h K) : callM P fn_cmp_Compare_int #[x0, x1] h K :=
  call_of good mixed (fn := Tryz.f328) (args := [x0, x1]) Tryz.func328 rfl (by kernel_rfl) (of_decide_eq_true rfl) (B := d_cmp_Compare_int x0 x1 h K) (by kernel_rfl) hd
def d_cmp_isNaN_string (x0 : Value) (h : Heap) (K : Value → Heap → Prop) : Prop := ov (binV Go.BinOp.neq 3 false x0 x0) fun v1 => K v1 h
theorem e_cmp_isNaN_string {x0 : Value} {h : Heap} {K : Value → Heap → Prop} (hd : d_cmp_isNaN_string x0 h K) : callM P fn_cmp_isNaN_string #[x0] h K :=
  call_of good mixed (fn := Tryz.f332) (args := [x0]) Tryz.func332 rfl (by kernel_rfl) (of_decide_eq_true rfl) (B := d_cmp_isNaN_string x0 h K) (by kernel_rfl) hd
def d_cmp_isNaN_int (x0 : Value) (h : Heap) (K : Value → Heap → Prop) : Prop := ov (binV Go.BinOp.neq 2 false x0 x0) fun v1 => K v1 h
theorem e_cmp_isNaN_int {x0 : Value} {h : Heap} {K : Value → Heap → Prop} (hd : d_cmp_isNaN_int x0 h K) : callM P fn_cmp_isNaN_int #[x0] h K :=
  call_of good mixed (fn := Tryz.f337) (args := [x0]) Tryz.func337 rfl (by kernel_rfl) (of_decide_eq_true rfl) (B := d_cmp_isNaN_int x0 h K) (by kernel_rfl) hd
end Go.Proofs.YtcnphhhcknhhaaaGreat
namespace Go.Proofs.YtcnphhhcknhhaaaGreat
open Go Go.Den Go.MapKept
set_option linter.unusedSimpArgs false
set_option linter.unusedVariables false
set_option maxRecDepth 20000
def ringC (r : Ring) (lv : Value) : List Value := [.int .i64 r.room, lv, .bool r.lost]
def RingR (T : Tags) (h : Heap) (g : Tag) (p : Nat) (r : Ring) : Prop :=
  ∃ lv, h p = some (.cells (ringC r lv).toArray ty_ring_Ring_doorman_api_Event (0, 0)) ∧ T p = g ++ [0] ∧ Rw T h (g ++ [1]) 8 ty_api_Event lv r.l.length (r.l.flatMap evC)
theorem RingR.kp {U : Tag → Prop} {T T' : Tags} {h h' : Heap} {g : Tag} {p : Nat} {r : Ring} (x : RingR T h g p r) (k : Kp U T h T' h') (o : Off U g) : RingR T' h' g p r := by
  obtain ⟨lv, h1, h2, h3⟩ := x
  obtain ⟨h4, h5⟩ := k.at h1 h2 (o.at _)
  exact ⟨lv, h4, h5, h3.kp k (o.at _)⟩
def feedG (kv vv : Value) (q : Nat → Value) : Nat → Value
  | 0 => kv
  | 1 => vv
  | k + 2 => q k
def feedC (kv vv : Value) (q : Nat → Value) : List Value := (List.range 10).map (feedG kv vv q)
abbrev ptr (b : Nat) : Value := .pointer (some ⟨b, 0, none⟩)
def FeedR (T : Tags) (h : Heap) (g : Tag) (p : Nat) (f : Feed) : Prop :=
  ∃ (kv vv : Value) (q : Nat → Nat), h p = some (.cells (feedC kv vv fun j => ptr (q j)).toArray ty_feed_Feed (0, 0)) ∧ T p = g ++ [0] ∧ Sl 1 StrR (fz T h) kv (f.ws.map (·.1)) ∧ Sl 1 MaskR (fz T h) vv (f.ws.map (·.2)) ∧
    (∀ j, j < 8 → RingR T h (g ++ [1, j]) (q j) (f.qs j)) ∧ Sn kv ∧ Sn vv
theorem FeedR.kp {U : Tag → Prop} {T T' : Tags} {h h' : Heap} {g : Tag} {p : Nat} {f : Feed} (x : FeedR T h g p f) (k : Kp U T h T' h') (o : Off U g) (n : ¬ U []) : FeedR T' h' g p f := by
  obtain ⟨kv, vv, q, h1, h2, h3, h4, h5, h5s⟩ := x
  obtain ⟨h6, h7⟩ := k.at h1 h2 (o.at _)
  exact ⟨kv, vv, q, h6, h7, h3.ext (@StrR.ext) (k.ext n), h4.ext (@MaskR.ext) (k.ext n), fun j hj => (h5 j hj).kp k (o.app _), h5s⟩
/-- A stripe's values: what was published, the book, the feed. -/
structure SV where
  sk : Value
  sv : Value
  bk : Value
  bv : Value
  fp : Nat
def strC (x : Strp) (y : SV) : List Value := [.int .i64 x.who, .int .u64 x.v, .int .u64 x.bound, y.sk, y.sv, y.bk, y.bv, ptr y.fp]
def StrpR (T : Tags) (h : Heap) (g : Tag) (x : Strp) (y : SV) : Prop := BookR (fz T h) y.sk y.sv x.snap ∧ BookR (fz T h) y.bk y.bv x.book ∧ FeedR T h g y.fp x.feed
theorem StrpR.kp {U : Tag → Prop} {T T' : Tags} {h h' : Heap} {g : Tag} {x : Strp} {y : SV} (r : StrpR T h g x y) (k : Kp U T h T' h') (o : Off U g) (n : ¬ U []) : StrpR T' h' g x y :=
  ⟨r.1.ext (k.ext n), r.2.1.ext (k.ext n), r.2.2.kp k o n⟩
def hallC (H : Hall) (sv av : Value) : List Value := [.int .i64 H.c.stripes, .int .i64 H.c.sessions, .int .i64 H.c.queue, .int .i64 H.c.watches, .int .i64 H.c.retries, .int .u64 H.c.epochs, .int .u64 H.c.start,
  .int .u64 H.t.now, .int .u64 H.t.seq, .bool H.t.closed, sv, av]
structure HallX (T : Tags) (h : Heap) (g : Tag) (p : Nat) (H : Hall) (sv av : Value) (Y : Nat → SV) : Prop where
  hp : h p = some (.cells (hallC H sv av).toArray ty_hall_Hall (0, 0))
  tp : T p = g ++ [0]
  st : Rw T h (g ++ [1]) 8 ty_hall_stripe sv H.n (seqF H.n fun i => strC (H.ss i) (Y i))
  ac : Rw T h (g ++ [2]) 3 ty_api_Act av H.acts.length (H.acts.flatMap actC)
  sr : ∀ i, i < H.n → StrpR T h (g ++ [3, i]) (H.ss i) (Y i)
def HallR (T : Tags) (h : Heap) (g : Tag) (p : Nat) (H : Hall) : Prop := ∃ sv av Y, HallX T h g p H sv av Y
theorem HallR.kp {U : Tag → Prop} {T T' : Tags} {h h' : Heap} {g : Tag} {p : Nat} {H : Hall} (x : HallR T h g p H) (k : Kp U T h T' h') (o : Off U g) (n : ¬ U []) : HallR T' h' g p H := by
  obtain ⟨sv, av, Y, x⟩ := x
  obtain ⟨h1, h2⟩ := k.at x.hp x.tp (o.at _)
  exact ⟨sv, av, Y, h1, h2, x.st.kp k (o.at _), x.ac.kp k (o.at _), fun i hi => (x.sr i hi).kp k (o.app _) n⟩
theorem bsAct : bsI P ty_Sl_api_Act = some (ty_api_Act, 3, #[.int .i64 0, .int .i64 0, .int .i64 0]) := by kernel_rfl
theorem unSlAct : P.underlying ty_Sl_api_Act = some (.slice ty_api_Act) := by kernel_rfl
theorem apAct : apC P ty_api_Act = some (3, 24, 3) := by kernel_rfl
theorem bdAct (a b c : Int) : bdV (binf P ty_api_Act) [(0, .int .i64 a), (1, .int .i64 b), (2, .int .i64 c)] = some (.agg #[.int .i64 a, .int .i64 b, .int .i64 c]) := by kernel_rfl
theorem zcTime : zc P ty_api_Time = some #[.int .u64 0, .int .u64 0, .bool false] := by kernel_rfl
theorem zcCfg : zc P ty_api_Config = some #[.int .i64 0, .int .i64 0, .int .i64 0, .int .i64 0, .int .i64 0, .int .u64 0, .int .u64 0] := by kernel_rfl
theorem bdTime (a : Int) : bdV (binf P ty_api_Time) [(0, .int .u64 a)] = some (.agg #[.int .u64 a, .int .u64 0, .bool false]) := by kernel_rfl
theorem bdHall (a b c d e f g t s : Int) (k : Bool) : bdV (binf P ty_hall_Hall) [(0, .agg #[.int .i64 a, .int .i64 b, .int .i64 c, .int .i64 d, .int .i64 e, .int .u64 f, .int .u64 g]), (1, .agg #[.int .u64 t, .int .u64 s, .bool k])] =
  some (.agg #[.int .i64 a, .int .i64 b, .int .i64 c, .int .i64 d, .int .i64 e, .int .u64 f, .int .u64 g, .int .u64 t, .int .u64 s, .bool k, .slice none 0 0, .slice none 0 0]) := by kernel_rfl
theorem bdStripe (v b : Int) (fp : Option Addr) : bdV (binf P ty_hall_stripe) [(1, .agg #[.int .u64 v, .int .u64 b]), (4, .pointer fp)] =
  some (.agg #[.int .i64 0, .int .u64 v, .int .u64 b, .slice none 0 0, .slice none 0 0, .slice none 0 0, .slice none 0 0, .pointer fp]) := by kernel_rfl
theorem bsStripe : bsI P ty_Sl_hall_stripe = some (ty_hall_stripe, 8, #[.int .i64 0, .int .u64 0, .int .u64 0, .slice none 0 0, .slice none 0 0, .slice none 0 0, .slice none 0 0, .pointer none]) := by kernel_rfl
theorem unSlStripe : P.underlying ty_Sl_hall_stripe = some (.slice ty_hall_stripe) := by kernel_rfl
theorem apStripe : apC P ty_hall_stripe = some (8, 128, 8) := by kernel_rfl
theorem bdFeed : bdV (binf P ty_feed_Feed) [] = some (.agg #[.slice none 0 0, .slice none 0 0, .pointer none, .pointer none, .pointer none, .pointer none, .pointer none, .pointer none, .pointer none, .pointer none]) := by kernel_rfl
theorem bdRing (n : Int) : bdV (binf P ty_ring_Ring_doorman_api_Event) [(0, .int .i64 n)] = some (.agg #[.int .i64 n, .slice none 0 0, .bool false]) := by kernel_rfl
theorem bdCell (n : Int) : bdV (binf P ty_cell_Cell) [(1, .int .u64 n)] = some (.agg #[.int .u64 0, .int .u64 n]) := by kernel_rfl
theorem zcCell : zc P ty_cell_Cell = some #[.int .u64 0, .int .u64 0] := by kernel_rfl
theorem zcLatch : zc P ty_latch_Latch = some #[.int .i64 0] := by kernel_rfl
theorem bdLatch (n : Int) : bdV (binf P ty_latch_Latch) [(0, .int .i64 n)] = some (.agg #[.int .i64 n]) := by kernel_rfl
theorem bdLatch0 : bdV (binf P ty_latch_Latch) [] = some (.agg #[.int .i64 0]) := by kernel_rfl
theorem within_ok (n lo hi : Int) {h : Heap} {K : Value → Heap → Prop} (hk : K (.bool (decide (lo ≤ n ∧ n ≤ hi))) h) : callM P fn_model_within #[.int .i64 n, .int .i64 lo, .int .i64 hi] h K := by
  apply e_model_within
  unfold d_model_within
  by_cases h1 : lo ≤ n <;> simpa [h1] using hk
theorem place_ok (s w : Int) {h : Heap} {K : Value → Heap → Prop} (hs : 0 ≤ s ∧ s < 1000 ∧ 0 ≤ w ∧ w < 10) (hk : K (.int .i64 (4 * s + w)) h) : callM P fn_hall_Place #[.int .i64 s, .int .i64 w] h K := by
  apply e_hall_Place
  unfold d_hall_Place
  simp only [bin_mul, bin_add, ov_s, wrap64_id (n := 4 * s) (by omega) (by omega), wrap64_id (n := 4 * s + w) (by omega) (by omega)]
  exact hk
end Go.Proofs.YtcnphhhcknhhaaaGreat
namespace Go.Proofs.YtcnphhhcknhhaaaGreat
open Go Go.Den Go.MapKept
set_option linter.unusedSimpArgs false
set_option linter.unusedVariables false
set_option maxRecDepth 20000
theorem hashRight_ok (s : ByteArray) {h : Heap} {K : Value → Heap → Prop} (hk : K (.bool (nameB s)) h) : callM P fn_hash_Right #[.string s] h K := by
  apply e_hash_Right
  unfold d_hash_Right
  have : nameB s = (!decide (s = ⟨#[]⟩) && decide ((s.size : Int) ≤ 16)) := by
    unfold nameB; by_cases h0 : s.size = 0
    · rw [(str_empty s).2 h0]; rfl
    · have : ¬ s = ⟨#[]⟩ := fun e => h0 ((str_empty s).1 e)
      rw [Bool.eq_iff_iff]; simp [this]; omega
  rw [this] at hk
  simp +contextual -implicitDefEqProofs [-Bool.decide_eq_true]
  exact hk
theorem sessRight_ok (a b c : Int) {h : Heap} {K : Value → Heap → Prop} (hk : K (.bool (decide (0 ≤ a ∧ a ≤ 255 ∧ 1 ≤ b ∧ b ≤ 9 ∧ 0 ≤ c ∧ c ≤ 9))) h) : callM P fn_sess_Right #[.int .i64 a, .int .i64 b, .int .i64 c] h K := by
  apply e_sess_Right
  unfold d_sess_Right
  simp +contextual -implicitDefEqProofs
  simpa [Bool.decide_and, and_assoc, Bool.and_assoc] using hk
theorem modRight_ok (c : Cfg) {h : Heap} {K : Value → Heap → Prop} (hk : ∀ h', Ext h h' → K (.bool (rightB c)) h') : callM P fn_model_Right #[.agg (cfgC c).toArray] h K := by
  apply e_model_Right
  unfold d_model_Right
  refine nw_agg fun v1 h2 n2 e2 c2 => ?_
  simp only [cfgC] at c2
  simp only [faV_p, ov_s, ldV_c, cel_of c2, Nat.zero_add, List.getElem?_toArray, List.getElem?_cons_zero]
  refine within_ok _ _ _ ?_
  unfold d_model_Right_1
  simp +contextual -implicitDefEqProofs [cel_of c2]
  refine gM_call0 (a := .bool (decide (1 ≤ c.sessions ∧ c.sessions ≤ 8))) (fun hc K' hk' => within_ok _ _ _ hk') ?_
  simp +contextual -implicitDefEqProofs [cel_of c2]
  refine gM_call0 (a := .bool (decide (1 ≤ c.queue ∧ c.queue ≤ 16))) (fun hc K' hk' => within_ok _ _ _ hk') ?_
  simp +contextual -implicitDefEqProofs [cel_of c2]
  refine gM_call0 (a := .bool (decide (1 ≤ c.watches ∧ c.watches ≤ 8))) (fun hc K' hk' => within_ok _ _ _ hk') ?_
  simp +contextual -implicitDefEqProofs [cel_of c2]
  refine gM_call0 (a := .bool (decide (0 ≤ c.retries ∧ c.retries ≤ 4))) (fun hc K' hk' => within_ok _ _ _ hk') ?_
  simp +contextual -implicitDefEqProofs [cel_of c2]
  refine kb (hk h2 e2) ?_
  rw [Bool.eq_iff_iff]; simp [rightB]; omega
end Go.Proofs.YtcnphhhcknhhaaaGreat
namespace Go.Den
open Go
set_option linter.unusedVariables false
def fnvX (h b : Int) : Int := IntKind.u64.wrap (BitVec.ofInt 64 h ^^^ BitVec.ofInt 64 b).toNat
def fnvStep (h b : Int) : Int := IntKind.u64.wrap (fnvX h b * 1099511628211)
def byteAt (s : ByteArray) (i : Nat) : Int := match s[i]? with
  | some b => b.toNat
  | none => 0
def fnvTo (s : ByteArray) : Nat → Int
  | 0 => 14695981039346656037
  | i + 1 => fnvStep (fnvTo s i) (byteAt s i)
def fnv (s : ByteArray) : Int := fnvTo s s.size
theorem wrapU_rng (n : Int) : 0 ≤ IntKind.u64.wrap n ∧ IntKind.u64.wrap n ≤ 18446744073709551615 := by
  simp only [IntKind.wrap, IntKind.bits, IntKind.signed]
  simp
  omega
theorem wrapU_id {n : Int} (h0 : 0 ≤ n) (h1 : n ≤ 18446744073709551615) : IntKind.u64.wrap n = n := by
  simp only [IntKind.wrap, IntKind.bits, IntKind.signed]
  simp
  omega
theorem andNot1 (b : Int) (hb : U64 b) : IntKind.u64.wrap (BitVec.ofInt 64 b &&& ~~~BitVec.ofInt 64 1).toNat = evn b := by
  obtain ⟨n, rfl⟩ : ∃ n : Nat, b = n := ⟨b.toNat, by have := hb.1; omega⟩
  have hn : n < 18446744073709551616 := by have := hb.2; omega
  have e : (BitVec.ofInt 64 n &&& ~~~BitVec.ofInt 64 1).toNat = n / 2 * 2 := by
    rw [BitVec.toNat_and]
    have h0 : (BitVec.ofInt 64 (n : Int)).toNat = n := by simp; omega
    have h1 : (~~~BitVec.ofInt 64 1).toNat = (2 ^ 63 - 1) * 2 ^ 1 := by rfl
    rw [h0, h1]
    apply Nat.eq_of_testBit_eq
    intro i
    rw [Nat.testBit_and, Nat.testBit_mul_two_pow, Nat.testBit_two_pow_sub_one, show n / 2 * 2 = (n / 2) * 2 ^ 1 by omega, Nat.testBit_mul_two_pow, Nat.testBit_div_two]
    by_cases h : 1 ≤ i
    · rw [show i - 1 + 1 = i by omega]
      by_cases h2 : i - 1 < 63
      · simp [h, h2]
      · have : n.testBit i = false := Nat.testBit_lt_two_pow (Nat.lt_of_lt_of_le hn (by rw [show 18446744073709551616 = 2 ^ 64 by rfl]; exact Nat.pow_le_pow_right (by omega) (by omega)))
        simp [this]
    · simp [h]
  rw [e, wrapU_id (by omega) (by omega)]
  unfold evn; omega
theorem and1 (b : Int) (hb : U64 b) : IntKind.u64.wrap (BitVec.ofInt 64 b &&& BitVec.ofInt 64 1).toNat = b % 2 := by
  obtain ⟨n, rfl⟩ : ∃ n : Nat, b = n := ⟨b.toNat, by have := hb.1; omega⟩
  have hn : n < 18446744073709551616 := by have := hb.2; omega
  have e : (BitVec.ofInt 64 n &&& BitVec.ofInt 64 1).toNat = n % 2 := by
    rw [BitVec.toNat_and]
    have : (BitVec.ofInt 64 (n : Int)).toNat = n := by simp; omega
    rw [this]
    have : (BitVec.ofInt 64 1).toNat = 1 := by rfl
    rw [this, Nat.and_one_is_mod]
  rw [e, wrapU_id (by omega) (by omega)]
  omega
theorem bin_and1 (t : Nat) (c : Bool) {b : Int} (hb : U64 b) : binV .and t c (.int .u64 b) (.int .u64 1) = some (.int .u64 (b % 2)) := by
  have : binV .and t c (.int .u64 b) (.int .u64 1) = some (.int .u64 (IntKind.u64.wrap (BitVec.ofInt 64 b &&& BitVec.ofInt 64 1).toNat)) := rfl
  rw [this, and1 b hb]
theorem bin_andNot1 (t : Nat) (c : Bool) {b : Int} (hb : U64 b) : binV .andNot t c (.int .u64 b) (.int .u64 1) = some (.int .u64 (evn b)) := by
  have : binV .andNot t c (.int .u64 b) (.int .u64 1) = some (.int .u64 (IntKind.u64.wrap (BitVec.ofInt 64 b &&& ~~~BitVec.ofInt 64 1).toNat)) := rfl
  rw [this, andNot1 b hb]
theorem bin_fnvX (t : Nat) (c : Bool) (a b : Int) : binV .xor t c (.int .u64 a) (.int .u64 b) = some (.int .u64 (fnvX a b)) := rfl
theorem fnv_rng (s : ByteArray) : 0 ≤ fnv s ∧ fnv s ≤ 18446744073709551615 := by
  unfold fnv
  cases s.size with
  | zero => simp [fnvTo]
  | succ n => exact wrapU_rng _
def stripeOf (s : ByteArray) (n : Int) : Int := if n < 1 then 0 else fnv s % n
def inS (users : List ByteArray) (n : Int) (s : Nat) : Bool := users.any fun u => decide (stripeOf u n = s)
def stripesOf (users : List ByteArray) (n : Int) : List Nat := (List.range 8).filter (inS users n)
def late (now until_ : Int) : Bool := decide (until_ ≤ now)
def better (a b : Sess) : Bool := decide (b.pr < a.pr) || (decide (a.pr = b.pr) && decide (a.id < b.id))
/-- The best of the sessions that live, and how many they are. -/
def ofStep (now : Int) (x : Sess × Nat) (s : Sess) : Sess × Nat := if late now s.un then x else (if x.2 = 0 || better s x.1 then s else x.1, x.2 + 1)
def ofAcc (l : List Sess) (now : Int) : Sess × Nat := l.foldl (ofStep now) (⟨0, 0, 0, 0⟩, 0)
def presOf (l : List Sess) (now : Int) : Pres := ⟨(ofAcc l now).1.st, (ofAcc l now).1.pr, (ofAcc l now).2⟩
def ent0 : Ent := ⟨[], ⟨0, 0, 0⟩⟩
def entOf : Book → ByteArray → Ent
  | [], _ => ent0
  | (k, e) :: r, u => if k = u then e else entOf r u
def presB (b : Book) (u : ByteArray) (now : Int) : Pres := presOf (entOf b u).ss now
structure RP where
  who : Int
  users : List ByteArray
  of : Int
  ss : List Nat
  ph : Int
  at_ : Nat
  tries : Int
  ep : Nat → Int
  valid : Bool
  spent : Bool
  seen : Int → Option Book
  t : Tm
  looked : Int
  placed : Int
  err : Int
  vals : List Pres
def RP.k (p : RP) : Nat := p.ss.length
def RP.s (p : RP) : Nat := p.ss.getD p.at_ 0
def RP.begin (p : RP) : RP := { p with ph := 0, at_ := 0, ep := fun _ => 0, valid := true, spent := false, seen := fun _ => none }
def RP.tell (p : RP) (u : ByteArray) : Pres := presB ((p.seen (stripeOf u p.of)).getD []) u p.t.now
def RP.answer (p : RP) : RP := if p.t.closed then { p with placed := p.looked, err := 5, vals := [] } else { p with placed := p.looked, vals := p.vals ++ p.users.map p.tell }
def RP.next (p : RP) (ph : Int) : RP := if p.at_ + 1 < p.k then { p with at_ := p.at_ + 1 } else { p with ph := ph, at_ := 0 }
def RP.last (p : RP) : Bool := !decide (p.at_ + 1 < p.k)
def RP.judge (p : RP) : RP :=
  if p.t.closed || p.valid then { p.answer with ph := 8 }
  else if p.spent || decide (p.tries = 0) then { p with ph := 4 }
  else RP.begin { p with tries := p.tries - 1 }
def RP.enabled (p : RP) (H : Hall) : Bool := !decide (p.ph = 8) && (!decide (p.ph = 4) || decide ((H.ss p.s).who = 0))
def RP.waits (r : RP) : Int := if r.ph = 4 then r.s else -1
def epset (f : Nat → Int) (i : Nat) (v : Int) : Nat → Int := fun k => if k = i then v else f k
def seenset (f : Int → Option Book) (i : Int) (v : Book) : Int → Option Book := fun k => if k = i then some v else f k
def validB (a b bound : Int) : Bool := decide (a = b) && (decide (a % 2 = 0) && decide (a < evn bound))
/-- A step that may be done. -/
def RP.go (p : RP) (H : Hall) (n : Int) : RP × Hall :=
  if p.ph = 0 then (RP.next { p with ep := epset p.ep p.at_ (H.ss p.s).v, spent := p.spent || decide (evn H.c.epochs ≤ (H.ss p.s).v) } 1, H.epoch p.who p.s)
  else if p.ph = 1 then (RP.next { p with seen := seenset p.seen p.s (H.ss p.s).snap } 2, H.snap p.who p.s)
  else if p.ph = 2 then ({ p with t := H.t, looked := n, ph := 3 }, H.look p.who)
  else if p.ph = 5 then ({ p with t := H.t, looked := n, ph := 6, placed := n }, H.look p.who)
  else if p.ph = 3 then
    let q : RP := { p with valid := p.valid && validB (p.ep p.at_) (H.ss p.s).v H.c.epochs }
    (if q.last then (q.next 8).judge else q.next 8, H.epoch p.who p.s)
  else if p.ph = 4 then (p.next 5, H.lock p.who p.s)
  else if p.ph = 6 then (RP.next { p with seen := seenset p.seen p.s (H.ss p.s).book } 7, H.read p.who p.s)
  else (if p.last then (p.next 8).answer else p.next 8, H.unlock p.who p.s)
def RP.step (p : RP) (H : Hall) (n : Int) : RP × Hall :=
  if p.enabled H = false then (p, H) else if p.ss = [] then ({ p with err := 1, vals := [], placed := n, ph := 8 }, H) else p.go H n
def rp0 (H : Hall) (who : Int) (x : OpD) : RP :=
  let us := if badB x then [] else usersOf x
  RP.begin ⟨who, us, H.c.stripes, stripesOf us H.c.stripes, 0, 0, H.c.retries, fun _ => 0, false, false, fun _ => none, ⟨0, 0, false⟩, 0, -1, 0, []⟩
structure RP.Ok (p : RP) (n : Nat) : Prop where
  ss : ∀ s ∈ p.ss, s < n
  n8 : n ≤ 8
  nd : p.ss.Nodup
  kk : p.ss.length ≤ 8
  at_ : p.ph ≠ 8 → p.ss ≠ [] → p.at_ < p.k
  at2 : p.ph = 2 ∨ p.ph = 5 → p.at_ = 0
  us : p.users.length ≤ 8
  ph : 0 ≤ p.ph ∧ p.ph ≤ 8
  tr : 0 ≤ p.tries ∧ p.tries ≤ 4
  vn : p.ph ≠ 8 → p.vals = []
  so : ∀ u ∈ p.users, stripeOf u p.of < n
end Go.Den
namespace Go.Proofs.YtcnphhhcknhhaaaGreat
open Go Go.Den Go.MapKept
set_option linter.unusedSimpArgs false
set_option linter.unusedVariables false
set_option maxRecDepth 20000
theorem st_byte {s : ByteArray} {i : Nat} (hi : i < s.size) {k : IntKind} : stV (.string s) (.int k i) = some (.int .u8 (byteAt s i)) := by
  have : s[i]? = some s[i] := by simp [hi]
  simp -implicitDefEqProofs [stV, byteAt, this]
theorem byte_rng (s : ByteArray) (i : Nat) : 0 ≤ byteAt s i ∧ byteAt s i ≤ 255 := by
  unfold byteAt
  split
  · rename_i b _; have := b.toNat_lt; omega
  · omega
theorem hashOf_ok (s : ByteArray) (hs : s.size ≤ maxLen) {h : Heap} {K : Value → Heap → Prop} (hk : K (.int .u64 (fnv s)) h) : callM P fn_hash_Of #[.string s] h K := by
  apply e_hash_Of
  unfold d_hash_Of
  rw [seqM_eq]
  unfold d_hash_Of_1
  simp -implicitDefEqProofs only [lnV_t, ov_s]
  refine loop_on [0, 5, 6] (fun t h' => h' = h ∧ ∃ i : Nat, i ≤ s.size ∧ t 7 = .int .i64 i ∧ t 3 = .int .u64 (fnvTo s i)) (fun t _ => (s.size - num (t 7)).toNat) ⟨rfl, 0, by omega, rfl, rfl⟩ ?_
  rintro t h1 hf ⟨rfl, i, hi, t7, t3⟩
  have t0 : t 0 = .string s := by simpa using hf 0 (by simp)
  have t5 : t 5 = .string s := by simpa using hf 5 (by simp)
  have t6 : t 6 = .int .i64 s.size := by simpa using hf 6 (by simp)
  unfold maxLen at hs
  unfold d_hash_Of_2
  simp -implicitDefEqProofs only [t7, t6, bin_lss, ov_s, cd_b]
  refine ⟨fun hc => ?_, fun hc => ?_⟩
  · have hlt : i < s.size := by have : ((i : Int) < s.size) := by simpa using hc
                                omega
    have hb := byte_rng s i
    unfold d_hash_Of_3
    have hw : IntKind.i64.wrap ((i : Int) + 1) = i + 1 := wrap64_id (by omega) (by omega)
    simp -implicitDefEqProofs [t0, t7, t3, st_byte hlt, wrapU_id (n := byteAt s i) (by omega) (by omega), bin_fnvX, hw, t5, t6]
    exact ⟨⟨i + 1, by omega, by simp, by simp [fnvTo, fnvStep]⟩, by omega⟩
  · have : i = s.size := by have : ¬ ((i : Int) < s.size) := by simpa using hc
                            omega
    subst this
    simp -implicitDefEqProofs [t3]
    exact hk
theorem stripe_ok (s : ByteArray) (n : Int) (hn : n ≤ 1000) (hs : s.size ≤ maxLen) {h : Heap} {K : Value → Heap → Prop} (hk : K (.int .i64 (stripeOf s n)) h) : callM P fn_hash_Stripe #[.string s, .int .i64 n] h K := by
  apply e_hash_Stripe
  unfold d_hash_Stripe
  simp -implicitDefEqProofs only [bin_lss, ov_s, cd_b]
  refine ⟨fun hc => ?_, fun hc => ?_⟩
  · have : n < 1 := by simpa using hc
    simpa [stripeOf, this] using hk
  · have hn1 : ¬ n < 1 := by simpa using hc
    unfold d_hash_Stripe_1
    refine hashOf_ok s hs ?_
    have hf := fnv_rng s
    have hm : (fnv s).tmod n = fnv s % n := Int.tmod_eq_emod_of_nonneg hf.1
    have hl := Int.emod_nonneg (fnv s) (show n ≠ 0 by omega)
    have hu := Int.emod_lt_of_pos (fnv s) (show 0 < n by omega)
    simp -implicitDefEqProofs [wrapU_id (n := n) (by omega) (by omega), show n ≠ 0 by omega, hm, wrap64_id (n := fnv s % n) (by omega) (by omega)]
    simpa [stripeOf, hn1] using hk
def cellC (v b : Int) : List Value := [.int .u64 v, .int .u64 b]
theorem cellNew_ok (b : Int) (hb : U64 b) {h : Heap} {K : Value → Heap → Prop} (hk : ∀ h', Ext h h' → K (.agg (cellC 0 (evn b)).toArray) h') : callM P fn_cell_New #[.int .u64 b] h K := by
  apply e_cell_New
  unfold d_cell_New
  simp -implicitDefEqProofs only [zcCell, nwM_s, bin_andNot1 _ _ hb, ov_s, bdCell]
  intro v1 n1
  simp -implicitDefEqProofs [stm_upd, ld_same, cel_same, over]
  exact hk _ (Ext.upd n1 _)
theorem spent_ok (v b : Int) {h : Heap} {K : Value → Heap → Prop} (hk : ∀ h', Ext h h' → K (.bool (decide (b ≤ v))) h') : callM P fn_cell_Cell_Spent #[.agg (cellC v b).toArray] h K := by
  apply e_cell_Cell_Spent
  unfold d_cell_Cell_Spent
  simp -implicitDefEqProofs only [nwM_s, cells_agg, cellC]
  intro v1 n1
  simp -implicitDefEqProofs [cel_same]
  exact hk _ (Ext.upd n1 _)
theorem writing_ok (v b : Int) (hv : U64 v) {h : Heap} {K : Value → Heap → Prop} (hk : ∀ h', Ext h h' → K (.bool (wrt v)) h') : callM P fn_cell_Cell_Writing #[.agg (cellC v b).toArray] h K := by
  apply e_cell_Cell_Writing
  unfold d_cell_Cell_Writing
  simp -implicitDefEqProofs only [nwM_s, cells_agg, cellC]
  intro v1 n1
  simp -implicitDefEqProofs [cel_same, bin_and1 _ _ hv]
  exact kb (hk _ (Ext.upd n1 _)) (by simp [wrt])
theorem tgCell : tagg P ty_cell_Cell = some (some 2) := by kernel_rfl
theorem begin_ok (v b : Int) (hv : U64 v) (hb : U64 b) {h : Heap} {K : Value → Heap → Prop} (hk : ∀ h', Ext h h' → K (.agg (cellC (bgn v b) b).toArray) h') : callM P fn_cell_Cell_Begin #[.agg (cellC v b).toArray] h K := by
  apply e_cell_Cell_Begin
  unfold d_cell_Cell_Begin
  refine nw_agg fun v1 h1 n1 e1 c1 => ?_
  rw [zcCell]
  refine nw_intro fun v3 h2 n3 e3 c3 => ?_
  have hne := ne_fresh c1 n3
  have c1 := e3 _ _ c1
  rw [seqM_eq]
  unfold d_cell_Cell_Begin_1
  simp -implicitDefEqProofs only [ld_box c1 (n := 2) rfl, ov_s]
  refine spent_ok v b fun h3 e4 => ?_
  have c1 := e4 _ _ c1
  have c3 := e4 _ _ c3
  have e0 := (e1.trans e3).trans e4
  have n3 := fresh_of e1 n3
  unfold d_cell_Cell_Begin_2
  simp -implicitDefEqProofs only [cellC] at c1
  by_cases hbv : b ≤ v
  · simp -implicitDefEqProofs [hbv, ld_at c1, cel_of c1, stm_at c1, ld_at c3, cel_of c3, stm_at c3, stm_upd, ld_same, cel_same, over, tgCell]
    exact kv (hk _ (ext_upd n3 e0)) (by simp [cellC, bgn, show ¬ v < b by omega])
  · simp -implicitDefEqProofs [hbv, ld_at c1, cel_of c1, stm_at c1, stm_upd, ld_same, cel_same, over]
    refine writing_ok v b hv fun h4 e5 => ?_
    have c1 := e5 _ _ c1
    have c3 := e5 _ _ c3
    have e0 := e0.trans e5
    unfold d_cell_Cell_Begin_3
    cases hw : wrt v
    · have : IntKind.u64.wrap (v + 1) = v + 1 := wrapU_id (by have := hv.1; omega) (by have := hb.2; omega)
      simp -implicitDefEqProofs [ld_at c1, cel_of c1, stm_at c1, ld_at c3, cel_of c3, stm_at c3, stm_skip hne, stm_skip (Ne.symm hne), ld_skip hne, ld_skip (Ne.symm hne), cel_skip hne, cel_skip (Ne.symm hne), stm_upd, ld_same, cel_same, over, this, tgCell]
      exact kv (hk _ (ext_upd n1 (ext_upd n3 e0))) (by simp [cellC, bgn, show v < b by omega, hw])
    · simp -implicitDefEqProofs [ld_at c1, cel_of c1, stm_at c1, ld_at c3, cel_of c3, stm_at c3, stm_upd, ld_same, cel_same, over, tgCell]
      exact kv (hk _ (ext_upd n3 e0)) (by simp [cellC, bgn, hw])
theorem lfree_ok (w : Int) {h : Heap} {K : Value → Heap → Prop} (hk : ∀ h', Ext h h' → K (.bool (decide (w = 0))) h') : callM P fn_latch_Latch_Free #[.agg #[.int .i64 w]] h K := by
  apply e_latch_Latch_Free
  unfold d_latch_Latch_Free
  simp -implicitDefEqProofs only [nwM_s, cells_agg]
  intro v1 n1
  simp -implicitDefEqProofs [cel_same]
  exact hk _ (Ext.upd n1 _)
theorem lowner_ok (w : Int) (hw : -1000000 ≤ w ∧ w ≤ 1000000) {h : Heap} {K : Value → Heap → Prop} (hk : ∀ h', Ext h h' → K (.int .i64 (w - 1)) h') : callM P fn_latch_Latch_Owner #[.agg #[.int .i64 w]] h K := by
  apply e_latch_Latch_Owner
  unfold d_latch_Latch_Owner
  simp -implicitDefEqProofs only [nwM_s, cells_agg]
  intro v1 n1
  simp -implicitDefEqProofs [cel_same, wrap64_id (n := w - 1) (by omega) (by omega)]
  exact hk _ (Ext.upd n1 _)
theorem ltake_ok (w who : Int) (hw : -1000 ≤ who ∧ who ≤ 1000000) {h : Heap} {K : Value → Heap → Prop} (hk : ∀ h', Ext h h' → K (.tuple #[.agg #[.int .i64 (if canTake w who then who + 1 else w)], .bool (canTake w who)]) h') : callM P fn_latch_Latch_Take #[.agg #[.int .i64 w], .int .i64 who] h K := by
  apply e_latch_Latch_Take
  unfold d_latch_Latch_Take
  refine nw_agg fun v1 h1 n1 e1 c1 => ?_
  rw [zcLatch]
  refine nw_intro fun v3 h2 n3 e3 c3 => ?_
  have hne := ne_fresh c1 n3
  have c1 := e3 _ _ c1
  have n3 := fresh_of e1 n3
  have e0 := e1.trans e3
  unfold d_latch_Latch_Take_1 d_latch_Latch_Take_2
  by_cases hw0 : who < 0
  · simp -implicitDefEqProofs [hw0, ld_at c1, cel_of c1, stm_at c1, ld_at c3, cel_of c3, stm_at c3, stm_upd, ld_same, cel_same, over]
    exact kv (hk _ (ext_upd n3 e0)) (by simp [canTake, show ¬ 0 ≤ who by omega])
  · simp -implicitDefEqProofs [hw0, ld_at c1, cel_of c1, stm_at c1, stm_upd, ld_same, cel_same, over]
    refine lfree_ok w fun h4 e5 => ?_
    have c1 := e5 _ _ c1
    have c3 := e5 _ _ c3
    have e0 := e0.trans e5
    by_cases hw : w = 0
    · simp -implicitDefEqProofs [hw, ld_at c3, cel_of c3, stm_at c3, stm_upd, ld_same, cel_same, over, bdLatch, wrap64_id (n := who + 1) (by omega) (by omega)]
      exact kv (hk _ (ext_upd n3 e0)) (by simp [canTake, hw, show 0 ≤ who by omega])
    · simp -implicitDefEqProofs [hw, ld_at c1, cel_of c1, stm_at c1, ld_at c3, cel_of c3, stm_at c3, stm_upd, ld_same, cel_same, over]
      exact kv (hk _ (ext_upd n3 e0)) (by simp [canTake, hw])
theorem lgive_ok (w who : Int) (hw : -1000000 ≤ w ∧ w ≤ 1000000) {h : Heap} {K : Value → Heap → Prop} (hk : ∀ h', Ext h h' → K (.tuple #[.agg #[.int .i64 (if canGive w who then 0 else w)], .bool (canGive w who)]) h') : callM P fn_latch_Latch_Give #[.agg #[.int .i64 w], .int .i64 who] h K := by
  apply e_latch_Latch_Give
  unfold d_latch_Latch_Give
  refine nw_agg fun v1 h1 n1 e1 c1 => ?_
  rw [zcLatch]
  refine nw_intro fun v3 h2 n3 e3 c3 => ?_
  have hne := ne_fresh c1 n3
  have c1 := e3 _ _ c1
  have n3 := fresh_of e1 n3
  have e0 := e1.trans e3
  simp -implicitDefEqProofs [ld_at c1, cel_of c1, stm_at c1, stm_upd, ld_same, cel_same, over]
  refine lfree_ok w fun h4 e5 => ?_
  have c1 := e5 _ _ c1
  have c3 := e5 _ _ c3
  have e0 := e0.trans e5
  unfold d_latch_Latch_Give_1 d_latch_Latch_Give_2 d_latch_Latch_Give_3
  by_cases hw0 : w = 0
  · simp -implicitDefEqProofs [hw0, ld_at c1, cel_of c1, stm_at c1, ld_at c3, cel_of c3, stm_at c3, stm_upd, ld_same, cel_same, over]
    exact kv (hk _ (ext_upd n3 e0)) (by simp [canGive, hw0])
  · simp -implicitDefEqProofs [hw0, ld_at c1, cel_of c1, stm_at c1, stm_upd, ld_same, cel_same, over]
    refine lowner_ok w hw fun h4 e5 => ?_
    have c1 := e5 _ _ c1
    have c3 := e5 _ _ c3
    have e0 := e0.trans e5
    by_cases hg : w - 1 = who
    · simp -implicitDefEqProofs [hg, ld_at c3, cel_of c3, stm_at c3, stm_upd, ld_same, cel_same, over, bdLatch0]
      exact kv (hk _ (ext_upd n3 e0)) (by simp [canGive, hw0, hg])
    · simp -implicitDefEqProofs [hg, ld_at c1, cel_of c1, stm_at c1, ld_at c3, cel_of c3, stm_at c3, stm_upd, ld_same, cel_same, over]
      exact kv (hk _ (ext_upd n3 e0)) (by simp [canGive, hg])
end Go.Proofs.YtcnphhhcknhhaaaGreat
namespace Go.Proofs.YtcnphhhcknhhaaaGreat
open Go Go.Den Go.MapKept
set_option linter.unusedSimpArgs false
set_option linter.unusedVariables false
set_option maxRecDepth 20000
theorem ringNew_ok (room : Int) {T : Tags} {h : Heap} (w : Wf T h) {g : Tag} (gg : Gd g) {K : Value → Heap → Prop} (hk : ∀ T' h' p, Only (pre g) T h T' h' → RingR T' h' g p (ring0 room) → K (ptr p) h') : callM P fn_ring_New_api_Event #[.int .i64 room] h K := by
  apply e_ring_New_api_Event
  unfold d_ring_New_api_Event
  refine vv_max ?_
  simp -implicitDefEqProofs only [bdRing, ov_s, nwM_s]
  intro p n
  exact hk (tset T p (g ++ [0])) _ p (Only.new _ w n) ⟨_, upd_same' _ _ _, tset_same _ _ _, Rw.nil _ _ _ _ _⟩
theorem ia_arr {n p o i : Nat} {k : IntKind} (hi : i < n) : iaV (some (some n, 1)) (.pointer (some ⟨p, o, none⟩)) (.int k i) = some (.pointer (some ⟨p, o + i, none⟩)) := by
  have h1 : (0 : Int) ≤ i ∧ (i : Int) < n := by omega
  simp -implicitDefEqProofs [iaV, h1]
theorem feed_over {kv vv : Value} {q : Nat → Value} {j : Nat} {x : Value} (hj : j < 8) : over (feedC kv vv q).toArray (2 + j) [x] = (feedC kv vv fun k => if k = j then x else q k).toArray := by
  unfold feedC
  rw [over_map1 (by omega)]
  congr 1
  apply List.map_congr_left
  intro k _
  match k with
  | 0 => simp [feedG]; omega
  | 1 => simp [feedG]; omega
  | k + 2 => simp only [feedG]; by_cases h : k = j
             · subst h; rw [if_pos (by omega), if_pos rfl]
             · rw [if_neg (by omega), if_neg h]
theorem feedC_len (kv vv : Value) (q : Nat → Value) : (feedC kv vv q).length = 10 := by simp [feedC]
theorem feedC_congr {kv vv : Value} {q q' : Nat → Value} (h : ∀ k, k < 8 → q k = q' k) : feedC kv vv q = feedC kv vv q' := by
  unfold feedC
  apply List.map_congr_left
  intro k hk
  match k with
  | 0 => rfl
  | 1 => rfl
  | k + 2 => simp only [feedG]; exact h k (by have := List.mem_range.1 hk; omega)
def FeedNewI (T : Tags) (h : Heap) (g : Tag) (p : Nat) (room : Int) (v : Value) (h' : Heap) : Prop := ∃ (T' : Tags) (j : Nat) (q : Nat → Nat), Only (pre g) T h T' h' ∧ h' p = some (.cells (feedC (.slice none 0 0) (.slice none 0 0) fun k => if k < j then ptr (q k) else .pointer none).toArray ty_feed_Feed (0, 0)) ∧ T' p = g ++ [0] ∧
      (∀ k, k < j → RingR T' h' (g ++ [1, k]) (q k) (ring0 room)) ∧ j ≤ 8 ∧ v = .int .i64 j
theorem feedNew_ok (room : Int) {T : Tags} {h : Heap} (w : Wf T h) {g : Tag} (gg : Gd g) {K : Value → Heap → Prop} (hk : ∀ T' h' p, Only (pre g) T h T' h' → FeedR T' h' g p (feed0 room) → K (ptr p) h') : callM P fn_feed_New #[.int .i64 room] h K := by
  apply e_feed_New
  unfold d_feed_New
  simp -implicitDefEqProofs only [bdFeed, ov_s, nwM_s]
  intro p n
  rw [seqM_eq]
  unfold d_feed_New_1
  refine loop_on [0, 3] (fun s h' => FeedNewI T h g p room (s 7) h') (fun s _ => (8 - num (s 7)).toNat)
    ⟨tset T p (g ++ [0]), 0, fun _ => 0, Only.new _ w n, upd_same' _ _ _, tset_same _ _ _, fun k hk => by omega, by omega, rfl⟩ ?_
  rintro s h1 hf ⟨T1, j, q, o1, hp, tp, hr, hj, s7⟩
  have s0 : s 0 = .int .i64 room := by simpa using hf 0 (by simp)
  have s3 : s 3 = ptr p := by simpa using hf 3 (by simp)
  unfold d_feed_New_2
  simp -implicitDefEqProofs only [s7, bin_lss, ov_s, cd_b]
  refine ⟨fun hc => ?_, fun hc => ?_⟩
  · have hlt : j < 8 := by have : ((j : Int) < 8) := by simpa using hc
                           omega
    unfold d_feed_New_3
    simp -implicitDefEqProofs only [s0, s3, ptr, ncV_p, ov_s, faV_p]
    refine ringNew_ok room o1.wf (gg.app [1, j]) fun T2 h2 p2 o2 r2 => ?_
    unfold d_feed_New_4
    have hp2 := o2.k.at hp tp (not_pre (by simp))
    simp -implicitDefEqProofs only [s7, Nat.zero_add, ia_arr hlt, ov_s, ptr]
    rw [stm_at hp2.1 (by simp) (by simp [feedC_len]; omega) (by simp)]
    simp -implicitDefEqProofs only [cells_p, feed_over hlt]
    have hw : IntKind.i64.wrap ((j : Int) + 1) = j + 1 := wrap64_id (by omega) (by omega)
    simp -implicitDefEqProofs [s7, s0, s3, hw]
    have o3 : Only (fun t => t = g ++ [0]) T2 h2 T2 (upd h2 p (.cells (feedC (.slice none 0 0) (.slice none 0 0) fun k => if k = j then ptr p2 else if k < j then ptr (q k) else .pointer none).toArray ty_feed_Feed (0, 0))) := Only.upd o2.wf hp2.1 hp2.2
    refine ⟨?_, by omega⟩
    refine ⟨T2, j + 1, fun k => if k = j then p2 else q k, (o1.trans (o2.mono fun t => pre_trans)).st hp2.1 (by rw [hp2.2]; exact pre_app g _), ?_, hp2.2, fun k hk => ?_, by omega, by simp⟩
    · rw [upd_same']
      congr 3
      apply feedC_congr
      intro k hk
      by_cases e : k = j
      · subst e; simp [ptr]
      · simp -implicitDefEqProofs only [if_neg e, ptr]; by_cases hkj : k < j
        · rw [if_pos hkj, if_pos (by omega)]
        · rw [if_neg hkj, if_neg (by omega)]
    · by_cases e : k = j
      · subst e; simp only [if_true]
        exact r2.kp o3.k (off_eq (by simp))
      · simp -implicitDefEqProofs only [if_neg e]
        exact ((hr k (by omega)).kp o2.k (off_pre (by simp; omega) (by simp; omega))).kp o3.k (off_eq (by simp))
  · have : j = 8 := by have : ¬ ((j : Int) < 8) := by simpa using hc
                       omega
    subst this
    simp -implicitDefEqProofs [s3]
    refine hk T1 h1 p o1 ⟨.slice none 0 0, .slice none 0 0, q, ?_, tp, .inl ⟨rfl, _, _, rfl⟩, .inl ⟨rfl, _, _, rfl⟩, fun k hk => hr k hk, Sn.nil, Sn.nil⟩
    rw [hp]
    congr 3
end Go.Proofs.YtcnphhhcknhhaaaGreat
namespace Go.Proofs.YtcnphhhcknhhaaaGreat
open Go Go.Den Go.MapKept
set_option linter.unusedSimpArgs false
set_option linter.unusedVariables false
set_option maxRecDepth 20000
/-- The table's own blocks: itself, and the row of acts. -/
def U02 (g t : Tag) : Prop := t = g ++ [0] ∨ t = g ++ [2]
/-- And the row of stripes. -/
def U012 (g t : Tag) : Prop := t = g ++ [0] ∨ t = g ++ [1] ∨ t = g ++ [2]
theorem U02.up {g t : Tag} (h : U02 g t) : U012 g t := h.elim .inl fun h => .inr (.inr h)
theorem U012.pre {g t : Tag} (h : U012 g t) : Den.pre g t := by rcases h with rfl | rfl | rfl <;> exact pre_app _ _
theorem U02.one (g : Tag) : ¬ U02 g (g ++ [1]) := by rintro (h | h) <;> exact ne_tag (by simp) h
theorem U012.nil (g : Tag) : ¬ U012 g [] := by rintro (h | h | h) <;> simp at h
theorem U012.off (g : Tag) (i : Nat) : Off (U012 g) (g ++ [3, i]) := fun t ht => by
  rintro (h | h | h)
  · exact off_eq (by simp) t ht h
  · exact off_eq (by simp) t ht h
  · exact off_eq (by simp) t ht h
theorem did_ok (who kind place : Int) {T : Tags} {h : Heap} {g : Tag} {p : Nat} {H : Hall} (w : Wf T h) (gg : Gd g) {sv av : Value} {Y : Nat → SV} (x : HallX T h g p H sv av Y) (hl : H.acts.length < 1000000) {K : Value → Heap → Prop}
    (hk : ∀ T' h' av', Only (U02 g) T h T' h' → HallX T' h' g p (H.did who kind place) sv av' Y → K (.tuple #[]) h') : callM P fn_hall_Hall_did #[ptr p, .int .i64 who, .int .i64 kind, .int .i64 place] h K := by
  apply e_hall_Hall_did
  unfold d_hall_Hall_did
  have hp := x.hp
  simp -implicitDefEqProofs only [hallC] at hp
  simp -implicitDefEqProofs [cel_of hp, bdAct]
  refine Rw.app bsAct unSlAct apAct (by omega) (by simp) (by simp) w x.ac (by unfold maxLen; omega) (by omega) (by omega) (app_ne _ _) fun a av' T1 h1 o1 r1 => ?_
  have hp1 := o1.k.at x.hp x.tp (ne_tag (by simp))
  have ho := r1.one
  rw [stm_at hp1.1 (by simp [ho.2]) (by simp [hallC]) (by simp [ho.1, ho.2])]
  have o2 : Only (U02 g) T h T1 (upd h1 p (.cells (over (hallC H sv av).toArray 11 av'.cells.toList) ty_hall_Hall (0, 0))) :=
    (o1.mono fun t e => .inr e).trans (Only.upd o1.wf hp1.1 (.inl hp1.2))
  refine hk T1 _ av' o2 ⟨?_, hp1.2, x.st.kp o2.k (U02.one g), ?_, fun i hi => (x.sr i hi).kp (o2.mono fun t => U02.up).k (U012.off g i) (U012.nil g)⟩
  · rw [upd_same']; simp [ho.2, hallC, over, Hall.did]
  · have o3 : Only (fun t => t = g ++ [0]) T1 h1 T1 (upd h1 p (.cells (over (hallC H sv av).toArray 11 av'.cells.toList) ty_hall_Hall (0, 0))) := Only.upd o1.wf hp1.1 hp1.2
    have := r1.kp o3.k (ne_tag (by simp))
    simpa [Hall.did, actC] using this
def HallNewI (T : Tags) (h : Heap) (g : Tag) (p : Nat) (c : Cfg) (v : Value) (h' : Heap) : Prop :=
  ∃ (T' : Tags) (i : Nat), Only (pre g) T h T' h' ∧ HallR T' h' g p (hall0 c i) ∧ i ≤ c.stripes.toNat ∧ v = .int .i64 i
theorem hallNew_ok (c : Cfg) (cw : CfgW c) {T : Tags} {h : Heap} (w : Wf T h) {g : Tag} (gg : Gd g) {K : Value → Heap → Prop}
    (hk1 : rightB c = true → ∀ T' h' p, Only (pre g) T h T' h' → HallR T' h' g p (hall0 c c.stripes.toNat) → K (.tuple #[ptr p, .int .i64 0]) h')
    (hk2 : rightB c = false → ∀ h', Ext h h' → K (.tuple #[.pointer none, .int .i64 1]) h') : callM P fn_hall_New #[.agg (cfgC c).toArray] h K := by
  apply e_hall_New
  unfold d_hall_New
  refine nw_agg fun v1 h1 n1 e1 c1 => ?_
  have c1' := c1
  simp -implicitDefEqProofs only [cfgC] at c1
  simp -implicitDefEqProofs [ld_at c1, cel_of c1, stm_at c1, stm_upd, ld_same, cel_same, over]
  have ec : Value.agg #[.int .i64 c.stripes, .int .i64 c.sessions, .int .i64 c.queue, .int .i64 c.watches, .int .i64 c.retries, .int .u64 c.epochs, .int .u64 c.start] = .agg (cfgC c).toArray := rfl
  rw [ec]
  refine modRight_ok c fun h2 e2 => ?_
  have c1 := e2 _ _ c1
  have e0 := e1.trans e2
  unfold d_hall_New_1
  simp -implicitDefEqProofs only [unV_n, ov_s, cd_b]
  refine ⟨fun hr => hk2 (by simpa using hr) _ e0, fun hr => ?_⟩
  have hr : rightB c = true := by simpa using hr
  have hn : 1 ≤ c.stripes ∧ c.stripes ≤ 8 := by simp [rightB] at hr; omega
  unfold d_hall_New_2
  simp -implicitDefEqProofs [ld_at c1, cel_of c1, stm_at c1, stm_upd, ld_same, cel_same, over, bdTime, bdHall]
  have w2 := w.ext e0
  refine nw_tag w2 (g ++ [0]) fun p T3 h3 n3 o3 t3 c3 => ?_
  rw [seqM_eq]
  unfold d_hall_New_3
  have b1 : h2 v1 = _ ∧ T v1 = [] := ⟨c1, w v1 n1⟩
  have b1 := o3.see b1 (not_non _)
  have c1 := b1.1
  simp -implicitDefEqProofs [ld_at c1, cel_of c1, stm_at c1, stm_upd, ld_same, cel_same, over]
  have o0 : Only (pre g) T h T3 h3 := (Only.of_ext w e0).up o3 non_up
  have x0 : HallR T3 h3 g p (hall0 c 0) := ⟨.slice none 0 0, .slice none 0 0, fun _ => ⟨.slice none 0 0, .slice none 0 0, .slice none 0 0, .slice none 0 0, 0⟩, c3, t3, Rw.nil _ _ _ _ _, Rw.nil _ _ _ _ _, fun i hi => by simp [hall0] at hi⟩
  refine loop_on [1, 4, 15] (fun s h' => HallNewI T3 h3 g p c (s 16) h') (fun s _ => (c.stripes.toNat - num (s 16)).toNat) ⟨T3, 0, Only.refl o3.wf, x0, by omega, rfl⟩ ?_
  rintro s h4 hf ⟨T4, i, o4, x4, hi, s16⟩
  have s1 : s 1 = ptr v1 := by simpa using hf 1 (by simp)
  have s4 : s 4 = ptr p := by simpa using hf 4 (by simp)
  have s15 : s 15 = .int .i64 c.stripes := by simpa using hf 15 (by simp)
  have b1 := o4.see b1 gg.nil
  have c1 := b1.1
  unfold d_hall_New_4
  simp -implicitDefEqProofs only [s16, s15, bin_lss, ov_s, cd_b]
  refine ⟨fun hc => ?_, fun hc => ?_⟩
  rotate_left
  · have : i = c.stripes.toNat := by have : ¬ ((i : Int) < c.stripes) := by simpa using hc
                                     omega
    subst this
    simp -implicitDefEqProofs [s4]
    exact hk1 hr T4 h4 p (o0.trans o4) x4
  have hlt : i < c.stripes.toNat := by have : ((i : Int) < c.stripes) := by simpa using hc
                                       omega
  obtain ⟨sv, av, Y, x⟩ := x4
  have bp : h4 p = _ ∧ T4 p = _ := ⟨x.hp, x.tp⟩
  simp -implicitDefEqProofs only [hallC] at bp
  have cp := bp.1
  unfold d_hall_New_5
  simp -implicitDefEqProofs [s1, s4, ld_at c1, cel_of c1, stm_at c1, ld_at cp, cel_of cp, stm_at cp, stm_upd, ld_same, cel_same, over]
  refine cellNew_ok _ cw.u1 fun h5 e5 => ?_
  have w4 := o4.wf
  have o5 : Only non T4 h4 T4 h5 := Only.of_ext w4 e5
  have c1 := e5 _ _ c1
  have bp := o5.see bp (not_non _)
  have cp := bp.1
  unfold d_hall_New_6
  simp -implicitDefEqProofs [s1, s4, ld_at c1, cel_of c1, stm_at c1, ld_at cp, cel_of cp, stm_at cp, stm_upd, ld_same, cel_same, over]
  refine feedNew_ok _ o5.wf (gg.app [3, i]) fun T6 h6 fp o6 r6 => ?_
  have bp := o6.see bp (not_pre (by simp))
  have cp := bp.1
  simp -implicitDefEqProofs [ld_at cp, cel_of cp, stm_at cp, stm_upd, ld_same, cel_same, over, cellC, bdStripe]
  refine bs_one bsStripe (by simp) (by omega) fun sb h7 n7 e7 c7 => ?_
  have o7 : Only non T6 h6 T6 h7 := Only.of_ext o6.wf e7
  have bp := o7.see bp (not_non _)
  have cp := bp.1
  have r7 := r6.kp o7.k (Off.non _) (not_non _)
  refine ⟨by simp [ld_at cp, cel_of cp, stm_at cp, stm_upd, ld_same, cel_same, over], ?_⟩
  have st4 : Rw T6 h6 (g ++ [1]) 8 ty_hall_stripe sv i _ := (x.st.kp o5.k (not_non _)).kp o6.k (not_pre (by simp))
  have st7 := st4.kp o7.k (not_non _)
  refine Rw.app1 (m := 1) (news := _) unSlStripe apStripe (by omega) o7.wf st7 (cels_one c7 (by simp)) (by simp) (by unfold maxLen; omega) (by omega) fun sv' T8 h8 o8 st8 => ?_
  have bp := o8.see bp (ne_tag (by simp))
  have cp := bp.1
  have ho := st8.one
  have hw : IntKind.i64.wrap ((i : Int) + 1) = i + 1 := wrap64_id (by omega) (by omega)
  simp -implicitDefEqProofs [ld_at cp, cel_of cp, stm_at cp, stm_upd, ld_same, cel_same, over, ho.1, ho.2, s16, s15, s1, s4, hw]
  refine ⟨?_, by omega⟩
  have o9 := fun o' => Only.upd (U := fun t => t = g ++ [0]) (o' := o') o8.wf bp.1 bp.2
  refine ⟨T8, i + 1, ((((o4.up o5 non_up).up o6 fun t => pre_trans).up o7 non_up).up o8 fun t e => e ▸ pre_app _ _).up (o9 _) fun t e => e ▸ pre_app _ _,
    ⟨sv', av, fun k => if k = i then ⟨.slice none 0 0, .slice none 0 0, .slice none 0 0, .slice none 0 0, fp⟩ else Y k, upd_same' _ _ _, bp.2, ?_, ?_, fun k hk => ?_⟩, by omega, by simp⟩
  · have := st8.kp (o9 (.cells #[.int .i64 c.stripes, .int .i64 c.sessions, .int .i64 c.queue, .int .i64 c.watches, .int .i64 c.retries, .int .u64 c.epochs, .int .u64 c.start, .int .u64 c.start, .int .u64 0, .bool false, sv', av] ty_hall_Hall (0, 0))).k (ne_tag (by simp))
    simp -implicitDefEqProofs only [hall0]
    rw [seqF_succ]
    have e1 : seqF i (fun k => strC (strp0 c) (if k = i then ⟨.slice none 0 0, .slice none 0 0, .slice none 0 0, .slice none 0 0, fp⟩ else Y k)) = seqF i fun k => strC (strp0 c) (Y k) := seqF_congr fun k hk => by rw [if_neg (by omega)]
    rw [e1]
    simpa [hall0, strC, strp0] using this
  · exact ((((x.ac.kp o5.k (not_non _)).kp o6.k (not_pre (by simp))).kp o7.k (not_non _)).kp o8.k (ne_tag (by simp))).kp (o9 _).k (ne_tag (by simp))
  · have f9 := (o9 (.cells #[.int .i64 c.stripes, .int .i64 c.sessions, .int .i64 c.queue, .int .i64 c.watches, .int .i64 c.retries, .int .u64 c.epochs, .int .u64 c.start, .int .u64 c.start, .int .u64 0, .bool false, sv', av] ty_hall_Hall (0, 0))).k
    have a8 : ∀ k, Off (fun t => t = g ++ [1]) (g ++ [3, k]) := fun k => off_eq (by simp)
    have a9 : ∀ k, Off (fun t => t = g ++ [0]) (g ++ [3, k]) := fun k => off_eq (by simp)
    by_cases hki : k = i
    · subst hki
      simp -implicitDefEqProofs only [if_true]
      have := (r7.kp o8.k (a8 _) (by simp)).kp f9 (a9 _) (by simp)
      exact ⟨BookR.nil _, BookR.nil _, this⟩
    · simp -implicitDefEqProofs only [if_neg hki]
      have hki' : k < i := by simp [hall0] at hk; omega
      exact ((((((x.sr k hki').kp o5.k (Off.non _) (not_non _))).kp o6.k (off_pre (by simp; omega) (by simp; omega)) ((gg.app _).nil)).kp o7.k (Off.non _) (not_non _)).kp o8.k (a8 _) (by simp)).kp f9 (a9 _) (by simp)
end Go.Proofs.YtcnphhhcknhhaaaGreat
namespace Go.Proofs.YtcnphhhcknhhaaaGreat
open Go Go.Den Go.MapKept
set_option linter.unusedSimpArgs false
set_option linter.unusedVariables false
set_option maxRecDepth 20000
theorem HallR.up {T T' : Tags} {h h' : Heap} {g : Tag} {p : Nat} {H : Hall} {U : Tag → Prop} (x : HallR T h g p H) (o : Only U T h T' h') (f : Off U g) (n : ¬ U []) : HallR T' h' g p H := x.kp o.k f n
theorem strC_len (X : Strp) (y : SV) : (strC X y).length = 8 := rfl
/-- A stripe's values, as they are read. -/
theorem HallX.lds {T : Tags} {h : Heap} {g : Tag} {p : Nat} {H : Hall} {sv av : Value} {Y : Nat → SV} (x : HallX T h g p H sv av Y) {s : Nat} (hs : s < H.n) {k : IntKind} : ∃ b o, rowOf sv = some b ∧ h b = some o ∧ T b = g ++ [1] ∧
    iaV (some (none, 8)) sv (.int k s) = some (.pointer (some ⟨b, s * 8, none⟩)) ∧
    ldV (some (some 1)) (.pointer (some ⟨b, s * 8, none⟩)) h = some (.agg #[.int .i64 (H.ss s).who]) ∧
    ldV (some (some 2)) (.pointer (some ⟨b, s * 8 + 1, none⟩)) h = some (.agg (cellC (H.ss s).v (H.ss s).bound).toArray) ∧
    ldV (some (some 2)) (.pointer (some ⟨b, s * 8 + 3, none⟩)) h = some (.agg #[(Y s).sk, (Y s).sv]) ∧
    ldV (some (some 2)) (.pointer (some ⟨b, s * 8 + 5, none⟩)) h = some (.agg #[(Y s).bk, (Y s).bv]) ∧
    cel h b (s * 8 + 7) = some (ptr (Y s).fp) ∧
    ldV (some (some 8)) (.pointer (some ⟨b, s * 8, none⟩)) h = some (.agg (strC (H.ss s) (Y s)).toArray) := by
  obtain ⟨b, h1, h2⟩ := x.st.1.ia (k := k) hs
  obtain ⟨o, ho⟩ := x.st.1.lt b h1
  have hc : ∀ off m, off + m ≤ 8 → cels h b (s * 8 + off) m = some (((strC (H.ss s) (Y s)).drop off).take m) := fun off m hm => by
    rw [x.st.1.cels h1 (o := s * 8 + off) (m := m) (by have : (s + 1) * 8 ≤ H.n * 8 := Nat.mul_le_mul_right _ hs; omega)]
    have := seqF_at (F := fun i => strC (H.ss i) (Y i)) (sz := 8) (fun i _ => strC_len _ _) hs
    rw [← this, List.drop_take, List.take_take, List.drop_drop, Nat.min_eq_left (by omega)]
  refine ⟨b, o, h1, ho, x.st.2 b h1, h2, ?_, ?_, ?_, ?_, ?_, ?_⟩
  · have := hc 0 1 (by omega); rw [Nat.add_zero] at this; simp [ldV, this, strC]
  · simp -implicitDefEqProofs [ldV, hc 1 2 (by omega), strC, cellC]
  · simp -implicitDefEqProofs [ldV, hc 3 2 (by omega), strC]
  · simp -implicitDefEqProofs [ldV, hc 5 2 (by omega), strC]
  · have := hc 7 1 (by omega)
    obtain ⟨h3, h4⟩ := cels_get this
    have := h4 0 (by simp [strC])
    simpa [strC] using this
  · have := hc 0 8 (by omega); rw [Nat.add_zero] at this; simp [ldV, this, strC]
/-- A stripe's part is written. -/
theorem HallX.stw {T : Tags} {h : Heap} {g : Tag} {p : Nat} {H : Hall} {sv av : Value} {Y : Nat → SV} (x : HallX T h g p H sv av Y) (w : Wf T h) {s b : Nat} (hs : s < H.n) (hb : rowOf sv = some b) {off m o : Nat} {v : Value} {X' : Strp} {y' : SV}
    (eo : o = s * 8 + off) (hm : v.cells.size = m) (ho : off + m ≤ 8) (h1 : v.cells.toList.all (fun u => u.oneCell') = true) (hc : spl (strC (H.ss s) (Y s)) off v.cells.toList = strC X' y') (hr : StrpR T h (g ++ [3, s]) X' y') {K : Heap → Prop}
    (hk : ∀ h', Only (fun t => t = g ++ [1]) T h T h' → HallX T h' g p (H.put s X') sv av (fun k => if k = s then y' else Y k) → K h') : stM (some m) (.pointer (some ⟨b, o, none⟩)) v h K := by
  subst eo
  have tb := x.st.2 b hb
  refine x.st.1.st hb hm (by have : (s + 1) * 8 ≤ H.n * 8 := Nat.mul_le_mul_right _ hs; omega) (List.all_eq_true.1 h1) fun h' hk' hrow => ?_
  obtain ⟨ob, hob⟩ := x.st.1.lt b hb
  obtain ⟨ob', hob'⟩ := hrow.lt b hb
  have e : h' = upd h b ob' := upd_of hk' hob'
  have o1 : Only (fun t => t = g ++ [1]) T h T h' := by rw [e]; exact Only.upd w hob tb
  have off3 : ∀ i, Off (fun t => t = g ++ [1]) (g ++ [3, i]) := fun i => off_eq (by simp)
  refine hk h' o1 ⟨(o1.k.at x.hp x.tp (ne_tag (by simp))).1, x.tp, ⟨?_, x.st.2⟩, x.ac.kp o1.k (ne_tag (by simp)), fun i hi => ?_⟩
  · rw [seqF_spl (fun i _ => strC_len _ _) hs (by rw [Array.length_toList]; omega)] at hrow
    have : seqF H.n (fset (fun i => strC (H.ss i) (Y i)) s (spl (strC (H.ss s) (Y s)) off v.cells.toList)) = seqF (H.put s X').n fun i => strC ((H.put s X').ss i) (if i = s then y' else Y i) := by
      refine seqF_congr fun i hi => ?_
      simp -implicitDefEqProofs only [fset, Hall.put, sput]
      by_cases his : i = s
      · subst his; simp only [if_true]; exact hc
      · simp -implicitDefEqProofs only [if_neg his]
    rw [this] at hrow
    exact hrow
  · simp -implicitDefEqProofs only [Hall.put, sput]
    by_cases his : i = s
    · subst his; simp only [if_true]; exact hr.kp o1.k (off3 _) (by simp)
    · simp -implicitDefEqProofs only [if_neg his]; exact (x.sr i hi).kp o1.k (off3 _) (by simp)
theorem lc_ne (g : Tag) (gg : Gd g) (s : Tag) : ¬ (lc = g ++ s) := by obtain ⟨k, r, rfl⟩ := gg; simp
theorem lc_U02 {g : Tag} (gg : Gd g) : ¬ U02 g lc := by rintro (h | h) <;> exact lc_ne g gg _ h
theorem U02.pre {g t : Tag} (h : U02 g t) : Den.pre g t := h.up.pre
/-- A local variable is written. -/
theorem Only.lst {T : Tags} {h : Heap} {b : Nat} {o o' : Obj} (w : Wf T h) (e : h b = some o ∧ T b = lc) : Only (fun t => t = lc) T h T (upd h b o') := Only.upd w e.1 e.2
theorem HallR.lst {T : Tags} {h : Heap} {g : Tag} {p : Nat} {H : Hall} (x : HallR T h g p H) (gg : Gd g) {b : Nat} {o o' : Obj} (w : Wf T h) (e : h b = some o ∧ T b = lc) : HallR T (upd h b o') g p H :=
  x.kp (Only.lst w e).k gg.off (by simp)
end Go.Proofs.YtcnphhhcknhhaaaGreat
namespace Go.Proofs.YtcnphhhcknhhaaaGreat
open Go Go.Den Go.MapKept
set_option linter.unusedSimpArgs false
set_option linter.unusedVariables false
set_option maxRecDepth 20000
theorem zcMap : zc P ty_omap_Map_string_doorman_book_Entry = some #[.slice none 0 0, .slice none 0 0] := by kernel_rfl
theorem eq_pre {g s t : Tag} (h : t = g ++ s) : pre g t := h ▸ pre_app _ _
theorem begin2_ok (who : Int) {s : Nat} {T : Tags} {h : Heap} {g : Tag} {p : Nat} {H : Hall} (w : Wf T h) (gg : Gd g) (x : HallR T h g p H) (hs : s < H.n) (h8 : H.n ≤ 8) (hl : H.acts.length < 1000000) (hv : U64 (H.ss s).v) (hb : U64 (H.ss s).bound) {K : Value → Heap → Prop}
    (hk : ∀ T' h', Only (pre g) T h T' h' → HallR T' h' g p (H.begin who s) → K (.tuple #[]) h') : callM P fn_hall_Hall_Begin #[ptr p, .int .i64 who, .int .i64 s] h K := by
  apply e_hall_Hall_Begin
  unfold d_hall_Hall_Begin
  refine place_ok s 2 (by omega) ?_
  unfold d_hall_Hall_Begin_1
  obtain ⟨sv, av, Y, x⟩ := x
  refine did_ok who 4 _ w gg x hl fun T2 h2 av2 o2 x2 => ?_
  have bp : h2 p = _ ∧ T2 p = _ := ⟨x2.hp, x2.tp⟩
  simp -implicitDefEqProofs only [hallC] at bp
  have cp := bp.1
  obtain ⟨b, ob, rb, hb1, tb, ia, l1, l2, l3, l4, l5, l6⟩ := x2.lds (s := s) (k := .i64) hs
  unfold d_hall_Hall_Begin_2
  simp -implicitDefEqProofs [ld_at cp, cel_of cp, stm_at cp, stm_upd, ld_same, cel_same, over, ia, l2]
  refine begin_ok _ _ hv hb fun h3 e3 => ?_
  have o3 : Only non T2 h2 T2 h3 := Only.of_ext o2.wf e3
  have bp := o3.see bp (not_non _)
  have cp := bp.1
  have x3 : HallX T2 h3 g p (H.did who 4 (4 * s + 2)) sv av2 Y := ⟨e3 _ _ x2.hp, x2.tp, x2.st.kp o3.k (not_non _), x2.ac.kp o3.k (not_non _), fun i hi => (x2.sr i hi).kp o3.k (Off.non _) (not_non _)⟩
  unfold d_hall_Hall_Begin_3
  simp -implicitDefEqProofs [ld_at cp, cel_of cp, stm_at cp, stm_upd, ld_same, cel_same, over, ia]
  refine x3.stw o3.wf (off := 1) (X' := { H.ss s with v := bgn (H.ss s).v (H.ss s).bound }) (y' := Y s) hs rb rfl (by rfl) (by omega) (by simp [cellC, Hall.did]) (by simp [spl, strC, cellC, Hall.did]) (x3.sr s hs) fun h4 o4 x4 => ?_
  exact hk T2 h4 (((o2.mono fun _ => U02.pre).up o3 non_up).up o4 fun t => eq_pre) ⟨sv, av2, _, x4⟩
theorem free_ok {s : Nat} {T : Tags} {h : Heap} {g : Tag} {p : Nat} {H : Hall} (x : HallR T h g p H) (hs : s < H.n) {K : Value → Heap → Prop}
    (hk : ∀ h', Ext h h' → K (.bool (decide ((H.ss s).who = 0))) h') : callM P fn_hall_Hall_Free #[ptr p, .int .i64 s] h K := by
  apply e_hall_Hall_Free
  unfold d_hall_Hall_Free
  obtain ⟨sv, av, Y, x2⟩ := x
  have cp := x2.hp
  simp -implicitDefEqProofs only [hallC] at cp
  obtain ⟨b, ob, rb, hb1, tb, ia, l1, l2, l3, l4, l5, l6⟩ := x2.lds (s := s) (k := .i64) hs
  simp -implicitDefEqProofs [ld_at cp, cel_of cp, stm_at cp, stm_upd, ld_same, cel_same, over, ia, l1]
  exact lfree_ok _ hk
theorem hstripe_ok (u : ByteArray) (hu : u.size ≤ maxLen) {T : Tags} {h : Heap} {g : Tag} {p : Nat} {H : Hall} (x : HallR T h g p H) (hc : H.c.stripes ≤ 8) {K : Value → Heap → Prop}
    (hk : K (.int .i64 (stripeOf u H.c.stripes)) h) : callM P fn_hall_Hall_Stripe #[ptr p, .string u] h K := by
  apply e_hall_Hall_Stripe
  unfold d_hall_Hall_Stripe
  obtain ⟨sv, av, Y, x2⟩ := x
  have cp := x2.hp
  simp -implicitDefEqProofs only [hallC] at cp
  simp -implicitDefEqProofs [ld_at cp, cel_of cp, stm_at cp, stm_upd, ld_same, cel_same, over]
  exact stripe_ok u _ (by omega) hu hk
theorem lock_ok (who : Int) {s : Nat} {T : Tags} {h : Heap} {g : Tag} {p : Nat} {H : Hall} (w : Wf T h) (gg : Gd g) (x : HallR T h g p H) (hs : s < H.n) (h8 : H.n ≤ 8) (hl : H.acts.length < 1000000) (hw : -1000 ≤ who ∧ who ≤ 1000000) {K : Value → Heap → Prop}
    (hk : ∀ T' h', Only (pre g) T h T' h' → HallR T' h' g p (H.lock who s) → K (.bool (canTake (H.ss s).who who)) h') : callM P fn_hall_Hall_Lock #[ptr p, .int .i64 who, .int .i64 s] h K := by
  apply e_hall_Hall_Lock
  unfold d_hall_Hall_Lock
  obtain ⟨sv, av, Y, x⟩ := x
  have cp := x.hp
  simp -implicitDefEqProofs only [hallC] at cp
  obtain ⟨b, ob, rb, hb1, tb, ia, l1, l2, l3, l4, l5, l6⟩ := x.lds (s := s) (k := .i64) hs
  simp -implicitDefEqProofs [ld_at cp, cel_of cp, stm_at cp, stm_upd, ld_same, cel_same, over, ia, l1]
  refine ltake_ok _ _ hw fun h1 e1 => ?_
  have o1 : Only non T h T h1 := Only.of_ext w e1
  unfold d_hall_Hall_Lock_1
  simp -implicitDefEqProofs only [exV_0, exV_1, ov_s, zcLatch]
  refine nw_tag o1.wf lc fun v1 T2 h2 n2 o2 t2 c2 => ?_
  simp -implicitDefEqProofs [ld_at c2, cel_of c2, stm_at c2, stm_upd, ld_same, cel_same, over]
  have n0 : h v1 = none := o1.fresh n2
  have o0 := (o1.trans o2).own (o' := .cells #[.int .i64 (if canTake (H.ss s).who who then who + 1 else (H.ss s).who)] ty_latch_Latch (0, 0)) n0 c2
  have x2 : HallX T2 (upd h2 v1 (.cells #[.int .i64 (if canTake (H.ss s).who who then who + 1 else (H.ss s).who)] ty_latch_Latch (0, 0))) g p H sv av Y :=
    ⟨(o0.k.at x.hp x.tp (not_non _)).1, (o0.k.at x.hp x.tp (not_non _)).2, x.st.kp o0.k (not_non _), x.ac.kp o0.k (not_non _), fun i hi => (x.sr i hi).kp o0.k (Off.non _) (not_non _)⟩
  rw [seqM_eq]
  unfold d_hall_Hall_Lock_2
  cases hc : canTake (H.ss s).who who with
  | false =>
    simp -implicitDefEqProofs only [hc] at x2 o0
    unfold d_hall_Hall_Lock_6
    simp -implicitDefEqProofs
    exact kb (hk T2 _ (o0.mono non_up) (by simp only [Hall.lock, hc]; exact ⟨sv, av, Y, x2⟩)) hc
  | true =>
    simp -implicitDefEqProofs only [hc, if_true] at x2 o0 ⊢
    have b1 : (upd h2 v1 (.cells #[.int .i64 (who + 1)] ty_latch_Latch (0, 0))) v1 = _ ∧ T2 v1 = lc := ⟨upd_same' _ _ _, t2⟩
    simp -implicitDefEqProofs only [cd_b, true_implies]
    refine ⟨?_, fun hx => by cases hx⟩
    unfold d_hall_Hall_Lock_3
    refine place_ok s 1 (by omega) ?_
    unfold d_hall_Hall_Lock_4
    refine did_ok who 5 _ o0.wf gg x2 hl fun T3 h3 av3 o3 x3 => ?_
    have b1 := o3.see b1 (lc_U02 gg)
    have c1 := b1.1
    have cp := x3.hp
    simp -implicitDefEqProofs only [hallC] at cp
    obtain ⟨b, ob, rb, hb1, tb, ia, l1, l2, l3, l4, l5, l6⟩ := x3.lds (s := s) (k := .i64) hs
    unfold d_hall_Hall_Lock_5
    simp -implicitDefEqProofs [ld_at cp, cel_of cp, stm_at cp, ld_at c1, cel_of c1, stm_at c1, stm_upd, ld_same, cel_same, over, ia]
    refine x3.stw o3.wf (off := 0) (X' := { H.ss s with who := who + 1 }) (y' := Y s) hs rb rfl (by rfl) (by omega) (by simp) (by simp [spl, strC, Hall.did]) (x3.sr s hs) fun h4 o4 x4 => ?_
    exact kb (hk T3 h4 (((o0.mono non_up).up o3 fun _ => U02.pre).up o4 fun t => eq_pre) (by simp only [Hall.lock, hc]; exact ⟨sv, av3, _, x4⟩)) hc
theorem unlock_ok (who : Int) {s : Nat} {T : Tags} {h : Heap} {g : Tag} {p : Nat} {H : Hall} (w : Wf T h) (gg : Gd g) (x : HallR T h g p H) (hs : s < H.n) (h8 : H.n ≤ 8) (hl : H.acts.length < 1000000) (hw : -1000000 ≤ (H.ss s).who ∧ (H.ss s).who ≤ 1000000) {K : Value → Heap → Prop}
    (hk : ∀ T' h', Only (pre g) T h T' h' → HallR T' h' g p (H.unlock who s) → K (.bool (canGive (H.ss s).who who)) h') : callM P fn_hall_Hall_Unlock #[ptr p, .int .i64 who, .int .i64 s] h K := by
  apply e_hall_Hall_Unlock
  unfold d_hall_Hall_Unlock
  obtain ⟨sv, av, Y, x⟩ := x
  have cp := x.hp
  simp -implicitDefEqProofs only [hallC] at cp
  obtain ⟨b, ob, rb, hb1, tb, ia, l1, l2, l3, l4, l5, l6⟩ := x.lds (s := s) (k := .i64) hs
  simp -implicitDefEqProofs [ld_at cp, cel_of cp, stm_at cp, stm_upd, ld_same, cel_same, over, ia, l1]
  refine lgive_ok _ _ hw fun h1 e1 => ?_
  have o1 : Only non T h T h1 := Only.of_ext w e1
  unfold d_hall_Hall_Unlock_1
  simp -implicitDefEqProofs only [exV_0, exV_1, ov_s, zcLatch]
  refine nw_tag o1.wf lc fun v1 T2 h2 n2 o2 t2 c2 => ?_
  simp -implicitDefEqProofs [ld_at c2, cel_of c2, stm_at c2, stm_upd, ld_same, cel_same, over]
  have n0 : h v1 = none := o1.fresh n2
  have o0 := (o1.trans o2).own (o' := .cells #[.int .i64 (if canGive (H.ss s).who who then 0 else (H.ss s).who)] ty_latch_Latch (0, 0)) n0 c2
  have x2 : HallX T2 (upd h2 v1 (.cells #[.int .i64 (if canGive (H.ss s).who who then 0 else (H.ss s).who)] ty_latch_Latch (0, 0))) g p H sv av Y :=
    ⟨(o0.k.at x.hp x.tp (not_non _)).1, (o0.k.at x.hp x.tp (not_non _)).2, x.st.kp o0.k (not_non _), x.ac.kp o0.k (not_non _), fun i hi => (x.sr i hi).kp o0.k (Off.non _) (not_non _)⟩
  rw [seqM_eq]
  unfold d_hall_Hall_Unlock_2
  cases hc : canGive (H.ss s).who who with
  | false =>
    simp -implicitDefEqProofs only [hc] at x2 o0
    unfold d_hall_Hall_Unlock_6
    simp -implicitDefEqProofs
    exact kb (hk T2 _ (o0.mono non_up) (by simp only [Hall.unlock, hc]; exact ⟨sv, av, Y, x2⟩)) hc
  | true =>
    simp -implicitDefEqProofs only [hc, if_true] at x2 o0 ⊢
    have b1 : (upd h2 v1 (.cells #[.int .i64 0] ty_latch_Latch (0, 0))) v1 = _ ∧ T2 v1 = lc := ⟨upd_same' _ _ _, t2⟩
    simp -implicitDefEqProofs only [cd_b, true_implies]
    refine ⟨?_, fun hx => by cases hx⟩
    unfold d_hall_Hall_Unlock_3
    refine place_ok s 1 (by omega) ?_
    unfold d_hall_Hall_Unlock_4
    refine did_ok who 6 _ o0.wf gg x2 hl fun T3 h3 av3 o3 x3 => ?_
    have b1 := o3.see b1 (lc_U02 gg)
    have c1 := b1.1
    have cp := x3.hp
    simp -implicitDefEqProofs only [hallC] at cp
    obtain ⟨b, ob, rb, hb1, tb, ia, l1, l2, l3, l4, l5, l6⟩ := x3.lds (s := s) (k := .i64) hs
    unfold d_hall_Hall_Unlock_5
    simp -implicitDefEqProofs [ld_at cp, cel_of cp, stm_at cp, ld_at c1, cel_of c1, stm_at c1, stm_upd, ld_same, cel_same, over, ia]
    refine x3.stw o3.wf (off := 0) (X' := { H.ss s with who := 0 }) (y' := Y s) hs rb rfl (by rfl) (by omega) (by simp) (by simp [spl, strC, Hall.did]) (x3.sr s hs) fun h4 o4 x4 => ?_
    exact kb (hk T3 h4 (((o0.mono non_up).up o3 fun _ => U02.pre).up o4 fun t => eq_pre) (by simp only [Hall.unlock, hc]; exact ⟨sv, av3, _, x4⟩)) hc
end Go.Proofs.YtcnphhhcknhhaaaGreat
namespace Go.Den
open Go
set_option linter.unusedVariables false
variable {P : Program} {g : Nat → Bool}
/-- A function that goes through a list: what it is handed is called once for each element, until it says no. -/
def It (P : Program) (gf : FuncId) (lb : Array Value) (xs : List (Array Value)) (hA : Heap) : Prop :=
  ∀ (yv : Value) (I : Nat → Heap → Prop) (S : Heap → Prop) (h : Heap) (K : Value → Heap → Prop), (∀ i h', I i h' → Ext hA h') → (∀ i h' h'', I i h' → Ext h' h'' → I i h'') → I 0 h →
    (∀ i (hi : i < xs.length) h' (K' : Value → Heap → Prop), I i h' → (∀ h'', I (i + 1) h'' → K' (.bool true) h'') → (∀ h'', S h'' → K' (.bool false) h'') →
      nxM P (do let d ← Deferred.ofValue yv xs[i]; invoke d.target d.args) h' K') →
    (∀ v h', I xs.length h' → K v h') → (∀ v h', S h' → K v h') → callM P gf (#[yv] ++ lb) h K
theorem getD_fold {ps : List Tmp} : ∀ {xs : List Value} {tmps : Array Value} {s : Env}, (∀ i, tmps.getD i undef = s i) → (ps.all fun t => Nat.blt t tmps.size) = true →
    (∀ i, ((ps.zip xs).foldl (fun tmps (x : Tmp × Value) => tmps.setIfInBounds x.1 x.2) tmps).getD i undef = puts s (ps.zip xs) i) ∧ ((ps.zip xs).foldl (fun tmps (x : Tmp × Value) => tmps.setIfInBounds x.1 x.2) tmps).size = tmps.size := by
  induction ps with
  | nil => intro xs tmps s hs _; exact ⟨by simpa using hs, by simp⟩
  | cons p ps ih =>
    intro xs tmps s hs hp
    cases xs with
    | nil => exact ⟨by simpa using hs, by simp⟩
    | cons x xs =>
      simp only [List.all_cons, Bool.and_eq_true, Nat.blt_eq] at hp
      simp only [List.zip_cons_cons, List.foldl_cons, puts]
      have h1 : ∀ i, (tmps.setIfInBounds p x).getD i undef = put s p x i := fun i => by
        by_cases hi : i = p
        · subst hi
          simp [put, hp.1]
        · have := hs i
          simp only [Array.getD_eq_getD_getElem?] at this ⊢
          rw [Array.getElem?_setIfInBounds_ne (Ne.symm hi), this]
          have : Nat.beq i p = false := by cases hh : Nat.beq i p with
            | false => rfl
            | true => exact absurd (Nat.eq_of_beq_eq_true hh) hi
          simp [put, this]
      obtain ⟨h2, h3⟩ := ih (xs := xs) h1 (by simpa using hp.2)
      exact ⟨h2, by rw [h3]; simp⟩
theorem keep_upd {h : Heap} {l : Nat} {o : Obj} : Keep (some l) h (upd h l o) := fun b x e n => by rw [upd_ne (fun hb => n (by rw [hb]))]; exact e
theorem round_of_den2 (hg : GoodP P g) (hm : P.follows .mixedOrders = true) {l : Nat} {fn : FuncId} {tmps : Array Value} {zas bd : Code} {s : Env} {h : Heap} {K : Value → Heap → Prop}
    (hs : ∀ i, tmps.getD i undef = s i) (hf : (fits tmps.size zas && fits tmps.size bd && nrf zas && nrf bd) = true) {QA : Post} (hd : den P g zas [] s h QA)
    (hQA : ∀ m2 s2 h2, QA .normal m2 s2 h2 → ∃ r : Loop, h2 l = some (.loop r) ∧ r.state = .ready ∧ ∃ QB : Post, den P g bd m2 s2 (upd h2 l (.loop { r with state := .busy })) QB ∧ ∀ e m4 s4 h4, QB e m4 s4 h4 → endM l K e m4 s4 h4)
    (hQN : ∀ e m2 s2 h2, e ≠ .normal → ¬ QA e m2 s2 h2) : roundM P l fn tmps zas bd h K := by
  intro w hw
  subst hw
  simp only [Bool.and_eq_true] at hf
  obtain ⟨⟨⟨f1, f2⟩, f3⟩, f4⟩ := hf
  refine roundIn_of_wpIn (F := Fence.wide) trivial (wpIn_mono (den_sound hg hm (n := tmps.size) (r := some l) zas [] s _ _ w (.inr f3) f1 ⟨rfl, hs, rfl⟩ hd) ?_)
  intro e a' w' hq
  cases e with
  | normal =>
    obtain ⟨m', s', hR', ho, hq⟩ := hq
    obtain ⟨r, hl, hst, QB, hb, hQB⟩ := hQA _ _ _ hq
    have hl' : w'.heap[l]? = some (.loop r) := hl
    refine ⟨_, run_beginRound hl' hst, ?_⟩
    rw [← abs_putObj hl'] at hb
    have ho2 : Okw w (w'.putObj l (.loop { r with state := .busy })) := ho.trans ⟨rfl, rfl, rfl, by simp [World.putObj]⟩
    refine wpIn_mono (den_sound hg hm (n := tmps.size) (r := some l) bd m' s' _ _ _ (.inr f4) f2 hR' hb) ?_
    intro e2 a2 w2 hq2
    cases e2 with
    | normal =>
      obtain ⟨m2, s2, hR2, ho3, hq2⟩ := hq2
      obtain ⟨r2, hl2, hk⟩ := hQB _ _ _ _ hq2
      have hl2' : w2.heap[l]? = some (.loop r2) := hl2
      refine ⟨_, _, run_endRound none hl2', _, rfl, (ho2.trans ho3).trans ⟨rfl, rfl, rfl, by simp [World.putObj]⟩, ?_⟩
      rw [abs_putObj hl2']; exact hk
    | ret =>
      obtain ⟨m2, s2, hR2, ho3, hq2⟩ := hq2
      obtain ⟨r2, hl2, hk⟩ := hQB _ _ _ _ hq2
      have hl2' : w2.heap[l]? = some (.loop r2) := hl2
      refine ⟨_, _, run_endRound (some .ret) hl2', _, rfl, (ho2.trans ho3).trans ⟨rfl, rfl, rfl, by simp [World.putObj]⟩, ?_⟩
      rw [abs_putObj hl2']; exact hk
    | exit id =>
      obtain ⟨m2, s2, hR2, ho3, hq2⟩ := hq2
      obtain ⟨r2, hl2, hk⟩ := hQB _ _ _ _ hq2
      have hl2' : w2.heap[l]? = some (.loop r2) := hl2
      refine ⟨_, _, run_endRound (some (.exit id)) hl2', _, rfl, (ho2.trans ho3).trans ⟨rfl, rfl, rfl, by simp [World.putObj]⟩, ?_⟩
      rw [abs_putObj hl2']; exact hk
    | goto t => obtain ⟨m2, s2, hR2, ho3, hq2⟩ := hq2; obtain ⟨r2, hl2, hk⟩ := hQB _ _ _ _ hq2; exact hk.elim
    | panic c => exact hq2.elim
    | outgrown => exact hq2.elim
  | goto t => obtain ⟨_, _, _, _, hk⟩ := hq; exact (hQN _ _ _ _ (by simp) hk).elim
  | ret => obtain ⟨_, _, _, _, hk⟩ := hq; exact (hQN _ _ _ _ (by simp) hk).elim
  | exit id => obtain ⟨_, _, _, _, hk⟩ := hq; exact (hQN _ _ _ _ (by simp) hk).elim
  | panic c => exact hq.elim
  | outgrown => exact hq.elim
/-- **A range over such a function.** J: what holds of the heap behind so many rounds; the loop's own record is none of its business. -/
theorem rf_it (hg : GoodP P g) (hm : P.follows .mixedOrders = true) {gv : Value} {gf : FuncId} {lb : Array Value} {xs : List (Array Value)} {hA : Heap} (hgv : gv = .func (.func gf) #[] lb) (hgf : g gf = true) (it : It P gf lb xs hA)
    {ps : Array Tmp} {zas bd : Code} {m : List Nat} {s : Env} {h : Heap} {Q : Post} (J : Nat → Heap → Prop) (S : Exit → Heap → Prop)
    (h0 : J 0 h) (hx : ∀ i h', J i h' → Ext hA h') (hk : ∀ l, h l = none → ∀ i h' h'', J i h' → Keep (some l) h' h'' → J i h'') (hkS : ∀ l, h l = none → ∀ e h' h'', S e h' → Keep (some l) h' h'' → S e h'')
    (hsz : ∀ i (hi : i < xs.length), xs[i].size = ps.size)
    (round : ∀ i (hi : i < xs.length) l b h' h2, h l = none → h b = none → J i h' → Keep (some l) h' h2 → (∃ o, h2 l = some o) → (∃ o, h2 b = some o) →
      ∃ A : List Nat → Env → Heap → Prop, (∀ m2 s2 h3 h4, A m2 s2 h3 → Keep (some l) h3 h4 → A m2 s2 h4) ∧
        den P g zas [] (puts s (ps.toList.zip xs[i].toList)) h2 (fun e m2 s2 h3 => e = .normal ∧ A m2 s2 h3 ∧ h3 l = h2 l ∧ h3 b = h2 b) ∧
        ∀ m2 s2 h3, A m2 s2 h3 → (∃ o, h3 l = some o) → (∃ o, h3 b = some o) →
          den P g bd m2 s2 h3 (fun e _ _ h4 => h4 l = h3 l ∧ h4 b = h3 b ∧ match e with
            | .normal => J (i + 1) h4
            | .ret => S .ret h4
            | .exit id => S (.exit id) h4
            | _ => False))
    (hend : ∀ b h', h b = none → h' b = some (.deferred (some [])) → J xs.length h' → Q .normal (b :: m) s h')
    (hret : ∀ b h', h b = none → h' b = some (.deferred (some [])) → S .ret h' → Q .ret (b :: m) s h')
    (hexit : ∀ id b h', h b = none → h' b = some (.deferred (some [])) → S (.exit id) h' → Q (.exit id) (b :: m) s h') : rfM P g gv ps zas bd m s h Q := by
  refine ⟨gf, lb, hgv, hgf, fun fn tmps b l hs hf hb hl hlb => ?_⟩
  obtain ⟨R, hR⟩ : ∃ R : Loop, R = { state := .ready, pending := none, fn, tmps, params := ps, assign := zas, body := bd, defers := b } := ⟨_, rfl⟩
  rw [← hR]
  have hfb : fz (fun _ => []) h = h := fz_nil h
  let I : Nat → Heap → Prop := fun i h' => J i h' ∧ h' b = some (.deferred (some [])) ∧ h' l = some (.loop R)
  let St : Heap → Prop := fun h' => h' b = some (.deferred (some [])) ∧ ((∃ r : Loop, h' l = some (.loop r) ∧ r.state = .done ∧ r.pending = some .ret ∧ S .ret h') ∨ (∃ id, ∃ r : Loop, h' l = some (.loop r) ∧ r.state = .done ∧ r.pending = some (.exit id) ∧ S (.exit id) h'))
  have e1 : Ext h (upd (upd h b (.deferred (some []))) l (.loop R)) := ext_upd hl (Ext.upd hb _)
  have start : I 0 (upd (upd h b (.deferred (some []))) l (.loop R)) := by
    refine ⟨hk l hl 0 h _ h0 fun k o e _ => e1 k o e, ?_, upd_same' _ _ _⟩
    rw [upd_ne (Ne.symm hlb), upd_same']
  refine it (.func (.yield l) #[] #[]) I St _ _ (fun i h' hi => hx i h' hi.1) (fun i h' h'' hi e => ⟨hk l hl i h' h'' hi.1 fun k o ek _ => e k o ek, e _ _ hi.2.1, e _ _ hi.2.2⟩) start ?_ ?_ ?_
  · intro i hi h' K' hI hK1 hK2
    obtain ⟨hJ, hb', hl'⟩ := hI
    have hps : ps = R.params := by rw [hR]
    refine nx_yield hl' (by rw [hsz i hi, hps]) ?_
    simp only [Bool.and_eq_true] at hf
    obtain ⟨⟨⟨⟨f1, f2⟩, f3⟩, f4⟩, f5⟩ := hf
    have hR1 : R.params = ps := hps.symm
    have hR2 : R.tmps = tmps := by rw [hR]
    have hR3 : R.assign = zas := by rw [hR]
    have hR4 : R.body = bd := by rw [hR]
    have hR5 : R.state = .ready := by rw [hR]
    rw [hR1, hR2, hR3, hR4]
    have hfold : (ps.zip xs[i]).foldl (fun tmps (t, a) => tmps.setIfInBounds t a) tmps = (ps.toList.zip xs[i].toList).foldl (fun tmps (x : Tmp × Value) => tmps.setIfInBounds x.1 x.2) tmps := by
      rw [← Array.foldl_toList, Array.toList_zip]
    rw [hfold]
    obtain ⟨g1, g2⟩ := getD_fold (ps := ps.toList) (xs := xs[i].toList) hs f1
    obtain ⟨A, a1, a2, a3⟩ := round i hi l b h' h' hl hb hJ (fun k o e _ => e) ⟨_, hl'⟩ ⟨_, hb'⟩
    refine round_of_den2 hg hm g1 (by rw [g2]; simp [f2, f3, f4, f5]) a2 (fun m2 s2 h2 hq => ?_) (fun e m2 s2 h2 he hq => he hq.1)
    obtain ⟨_, hA2, hl2, hb2⟩ := hq
    have hl2' : h2 l = some (.loop R) := by rw [hl2]; exact hl'
    have hb2' : h2 b = some (.deferred (some [])) := by rw [hb2]; exact hb'
    refine ⟨R, hl2', hR5, _, a3 m2 s2 _ (a1 _ _ _ _ hA2 keep_upd) ⟨_, upd_same' _ _ _⟩ ⟨_, by rw [upd_ne (Ne.symm hlb)]; exact hb2'⟩, fun e m4 s4 h4 hq => ?_⟩
    obtain ⟨hl4, hb4, hq⟩ := hq
    rw [upd_same'] at hl4
    rw [upd_ne (Ne.symm hlb)] at hb4
    have hb4' : h4 b = some (.deferred (some [])) := by rw [hb4]; exact hb2'
    refine ⟨_, hl4, ?_⟩
    cases e with
    | normal =>
      refine hK1 _ ⟨hk l hl _ _ _ hq keep_upd, by rw [upd_ne (Ne.symm hlb)]; exact hb4', ?_⟩
      rw [upd_same', hR]
    | ret =>
      refine hK2 _ ⟨by rw [upd_ne (Ne.symm hlb)]; exact hb4', .inl ⟨_, upd_same' _ _ _, rfl, rfl, hkS l hl _ _ _ hq keep_upd⟩⟩
    | exit id =>
      refine hK2 _ ⟨by rw [upd_ne (Ne.symm hlb)]; exact hb4', .inr ⟨id, _, upd_same' _ _ _, rfl, rfl, hkS l hl _ _ _ hq keep_upd⟩⟩
    | _ => exact hq.elim
  · intro v h' hI
    refine ⟨R, hI.2.2, by rw [hR]; simp, ?_⟩
    have : R.pending = none := by rw [hR]
    rw [this]
    exact hend b _ hb (by rw [upd_ne (Ne.symm hlb)]; exact hI.2.1) (hk l hl _ _ _ hI.1 keep_upd)
  · intro v h' hS
    obtain ⟨hb', hS⟩ := hS
    rcases hS with ⟨r, hl', hst, hp, hs'⟩ | ⟨id, r, hl', hst, hp, hs'⟩
    · refine ⟨r, hl', by rw [hst]; simp, ?_⟩
      rw [hp]
      exact hret b _ hb (by rw [upd_ne (Ne.symm hlb)]; exact hb') (hkS l hl _ _ _ hs' keep_upd)
    · refine ⟨r, hl', by rw [hst]; simp, ?_⟩
      rw [hp]
      exact hexit id b _ hb (by rw [upd_ne (Ne.symm hlb)]; exact hb') (hkS l hl _ _ _ hs' keep_upd)
@[simp] theorem retM_1 {P : Program} {rs : List ResultVar} {R : Value → Heap → Prop} {b : Nat} {s : Env} {h : Heap} : retM P rs R .ret [b] s h = (h b = some (.deferred (some [])) ∧ resL P s (upd h b (.deferred none)) rs (fun l => R (tupV l) (upd h b (.deferred none)))) := rfl
end Go.Den
namespace Go.Proofs.YtcnphhhcknhhaaaGreat
open Go Go.Den Go.MapKept
set_option linter.unusedSimpArgs false
set_option linter.unusedVariables false
set_option maxRecDepth 20000
theorem late_ok (a b : Int) {h : Heap} {K : Value → Heap → Prop} (hk : K (.bool (late a b)) h) : callM P fn_tick_Late #[.int .u64 a, .int .u64 b] h K := by
  apply e_tick_Late
  unfold d_tick_Late
  simpa [late] using hk
theorem better_ok (a b : Sess) {h : Heap} {K : Value → Heap → Prop} (hk : ∀ h', Ext h h' → K (.bool (better a b)) h') : callM P fn_aggr_Better #[.agg (sessC a).toArray, .agg (sessC b).toArray] h K := by
  apply e_aggr_Better
  unfold d_aggr_Better
  refine nw_agg fun v1 h1 n1 e1 c1 => ?_
  refine nw_agg fun v3 h2 n3 e3 c3 => ?_
  have c1 := e3 _ _ c1
  simp -implicitDefEqProofs only [sessC] at c1 c3
  simp +contextual -implicitDefEqProofs [ld_at c1, cel_of c1, stm_at c1, ld_at c3, cel_of c3, stm_at c3, stm_upd, ld_same, cel_same, over]
  exact kb (hk _ (e1.trans e3)) (by simp [better])
theorem zcSess : zc P ty_api_Session = some #[.int .i64 0, .int .i64 0, .int .i64 0, .int .u64 0] := by kernel_rfl
theorem zcPres : zc P ty_api_Presence = some #[.int .i64 0, .int .i64 0, .int .i64 0] := by kernel_rfl
theorem zcInt : zc P ty_int = some #[.int .i64 0] := by kernel_rfl
def liveS (l : List Sess) (now : Int) : List Sess := l.filter fun s => !late now s.un
def liveX (l : List Sess) (now : Int) : List (Array Value) := (liveS l now).map fun s => #[.agg (sessC s).toArray]
theorem filter_at {α : Type} (p : α → Bool) : ∀ (l : List α) (k : Nat) (hk : k < l.length), p l[k] = true → (l.filter p)[((l.take k).filter p).length]? = some l[k]
  | x :: l, 0, _, h => by simp only [List.getElem_cons_zero] at h; simp [List.filter_cons, h]
  | x :: l, k + 1, hk, h => by
    simp -implicitDefEqProofs only [List.getElem_cons_succ] at h ⊢
    have := filter_at p l k (by simpa using hk) h
    rw [List.take_succ_cons, List.filter_cons, List.filter_cons]
    split
    · simpa using this
    · exact this
theorem filter_take {α : Type} (p : α → Bool) (l : List α) (k : Nat) (hk : k < l.length) : ((l.take (k + 1)).filter p).length = ((l.take k).filter p).length + if p l[k] then 1 else 0 := by
  rw [List.take_succ_eq_append_getElem hk, List.filter_append, List.length_append]
  congr 1
  simp -implicitDefEqProofs [List.filter_cons]
  split <;> simp
theorem live_it {hA : Heap} {a b : Nat} {v : Value} {now : Int} {l : List Sess} (ca : hA a = some (.cells #[v] ty_Sl_api_Session (0, 0))) (cb : hA b = some (.cells #[.int .u64 now] ty_uint64 (0, 0))) (x : Sl 4 SessR hA v l) :
    It P fn_aggr_Live_c1 #[ptr a, ptr b] (liveX l now) hA := by
  intro yv I S h K hx hs h0 hround hK1 hK2
  apply e_aggr_Live_c1
  unfold d_aggr_Live_c1
  have ca0 := hx _ _ h0 _ _ ca
  have hlen := x.len
  simp -implicitDefEqProofs [ld_at ca0, cel_of ca0, stm_at ca0, stm_upd, ld_same, cel_same, over, hlen]
  refine loop_on [0, 2, 6, 7] (fun s h' => ∃ k : Nat, k ≤ l.length ∧ s 8 = .int .i64 k ∧ I ((l.take k).filter fun s => !late now s.un).length h') (fun s _ => (l.length - num (s 8)).toNat) ⟨0, by omega, rfl, by simpa using h0⟩ ?_
  rintro s h1 hf ⟨k, hk, s8, hI⟩
  have s0 : s 0 = yv := by simpa using hf 0 (by simp)
  have s2 : s 2 = ptr b := by simpa using hf 2 (by simp)
  have s6 : s 6 = v := by simpa using hf 6 (by simp)
  have s7 : s 7 = .int .i64 l.length := by simpa using hf 7 (by simp)
  unfold d_aggr_Live_c1_1
  simp -implicitDefEqProofs only [s8, s7, bin_lss, ov_s, cd_b]
  refine ⟨fun hc => ?_, fun hc => ?_⟩
  rotate_left
  · have : k = l.length := by have : ¬ ((k : Int) < l.length) := by simpa using hc
                              omega
    subst this
    simp -implicitDefEqProofs
    rw [List.take_length] at hI
    exact hK1 _ _ (by simpa [liveX, liveS] using hI)
  have hlt : k < l.length := by have : ((k : Int) < l.length) := by simpa using hc
                                omega
  have x1 := x.ext (R := SessR) (@SessR.ext) (hx _ _ hI)
  obtain ⟨eb, eo, c, i1, i2, i3⟩ := x1.at (k := .i64) (i := k) (by omega) (by omega)
  simp -implicitDefEqProofs only [Int.toNat_natCast] at i3
  have hmx := x.max
  have hw : IntKind.i64.wrap ((k : Int) + 1) = k + 1 := wrap64_id (by omega) (by omega)
  unfold d_aggr_Live_c1_2
  simp -implicitDefEqProofs only [s6, s8, i1, ov_s, ldV_n i2, zcSess]
  rw [show c = sessC l[k] from i3]
  refine nw_st rfl rfl (by simp [sessC]) fun v9 h2 n2 e2 c2 => ?_
  simp -implicitDefEqProofs only [sessC, cells_agg] at c2
  have hI2 := hs _ _ _ hI e2
  have cb2 := hx _ _ hI2 _ _ cb
  simp -implicitDefEqProofs [s2, ld_at c2, cel_of c2, stm_at c2, ld_at cb2, cel_of cb2, stm_at cb2, stm_upd, ld_same, cel_same, over]
  refine late_ok _ _ ?_
  unfold d_aggr_Live_c1_3
  cases hl : late now l[k].un with
  | true =>
    simp -implicitDefEqProofs
    unfold d_aggr_Live_c1_5
    simp -implicitDefEqProofs [s8, hw, s0, s2, s6, s7]
    refine ⟨⟨k + 1, by omega, by simp, ?_⟩, by omega⟩
    rw [filter_take _ _ _ hlt]
    simpa [hl] using hI2
  | false =>
    have hat := filter_at (fun s => !late now s.un) l k hlt (by simp [hl])
    obtain ⟨hj, hat⟩ := List.getElem?_eq_some_iff.1 hat
    have hj' : ((l.take k).filter fun s => !late now s.un).length < (liveX l now).length := by simpa [liveX, liveS] using hj
    have hx' : (liveX l now)[((l.take k).filter fun s => !late now s.un).length] = #[.agg (sessC l[k]).toArray] := by simp [liveX, liveS, hat]
    simp -implicitDefEqProofs [s0, ld_at c2, cel_of c2, stm_at c2, stm_upd, ld_same, cel_same, over]
    have hr := hround _ hj' h2
    rw [hx'] at hr
    refine hr _ hI2 (fun h3 hI3 => ?_) (fun h3 hS => ?_)
    · simp -implicitDefEqProofs
      unfold d_aggr_Live_c1_5
      simp -implicitDefEqProofs [s8, hw, s0, s2, s6, s7]
      refine ⟨⟨k + 1, by omega, by simp, ?_⟩, by omega⟩
      rw [filter_take _ _ _ hlt]
      simpa [hl] using hI3
    · simp -implicitDefEqProofs
      unfold d_aggr_Live_c1_4
      simp -implicitDefEqProofs
      exact hK2 _ _ hS
end Go.Proofs.YtcnphhhcknhhaaaGreat
namespace Go.Proofs.YtcnphhhcknhhaaaGreat
open Go Go.Den Go.MapKept
set_option linter.unusedSimpArgs false
set_option linter.unusedVariables false
set_option maxRecDepth 20000
theorem tgPres : tagg P ty_api_Presence = some (some 3) := by kernel_rfl
def stepL (x : Sess × Nat) (s : Sess) : Sess × Nat := (if x.2 = 0 || better s x.1 then s else x.1, x.2 + 1)
def accL (l : List Sess) (now : Int) (i : Nat) : Sess × Nat := ((liveS l now).take i).foldl stepL (⟨0, 0, 0, 0⟩, 0)
theorem accL_s {l : List Sess} {now : Int} {i : Nat} (hi : i < (liveS l now).length) : accL l now (i + 1) = stepL (accL l now i) (liveS l now)[i] := by
  unfold accL
  rw [List.take_succ_eq_append_getElem hi, List.foldl_append]; rfl
theorem accL_all (l : List Sess) (now : Int) : accL l now (liveS l now).length = ofAcc l now := by
  unfold accL ofAcc liveS
  rw [List.take_length, List.foldl_filter]
  congr 1
  funext x s
  simp -implicitDefEqProofs only [ofStep, stepL]
  cases late now s.un <;> simp
theorem accL_n (l : List Sess) (now : Int) : ∀ i, i ≤ (liveS l now).length → (accL l now i).2 = i
  | 0, _ => rfl
  | i + 1, h => by rw [accL_s (by omega)]; simp only [stepL]; rw [accL_n l now i (by omega)]
def OfJ (hA h : Heap) (v1 v3 v5 : Nat) (l : List Sess) (now : Int) (i : Nat) (h' : Heap) : Prop := Ext hA h' ∧ Ext h h' ∧ h' v1 = some (.cells #[.int .i64 0, .int .i64 0, .int .i64 0] ty_api_Presence (0, 0)) ∧
  h' v3 = some (.cells (sessC (accL l now i).1).toArray ty_api_Session (0, 0)) ∧ h' v5 = some (.cells #[.int .i64 i] ty_int (0, 0))
def OfA (hA h : Heap) (v1 v3 v5 : Nat) (l : List Sess) (now : Int) (i : Nat) (s : Sess) (l' b' : Nat) (m2 : List Nat) (s2 : Env) (h3 : Heap) : Prop :=
  m2 = [] ∧ ∃ sb, s2 7 = ptr sb ∧ s2 5 = ptr v3 ∧ s2 6 = ptr v5 ∧ sb ≠ l' ∧ sb ≠ b' ∧ h3 sb = some (.cells (sessC s).toArray ty_api_Session (0, 0)) ∧ sb ≠ v3 ∧ sb ≠ v5 ∧ OfJ hA h v1 v3 v5 l now i h3
theorem aggOf_ok (l : List Sess) (now : Int) {h : Heap} {v : Value} (x : Sl 4 SessR h v l) (hl : l.length < 1000000) {K : Value → Heap → Prop} (hk : ∀ h', Ext h h' → K (.agg (presC (presOf l now)).toArray) h') : callM P fn_aggr_Of #[v, .int .u64 now] h K := by
  apply e_aggr_Of
  unfold d_aggr_Of
  rw [zcPres, zcSess, zcInt]
  refine nw_tag (wf_nil h) lc fun v1 T1 h1 n1 o1 t1 c1 => ?_
  refine nw_tag o1.wf lc fun v3 T3 h3 n3 o3 t3 c3 => ?_
  refine nw_tag o3.wf lc fun v5 T5 h5 n5 o5 t5 c5 => ?_
  have b1 := o5.see (o3.see ⟨c1, t1⟩ (not_non _)) (not_non _)
  have b3 := o5.see ⟨c3, t3⟩ (not_non _)
  have ne13 : v1 ≠ v3 := ne_fresh c1 n3
  have ne15 : v1 ≠ v5 := ne_fresh (o3.see ⟨c1, t1⟩ (not_non _)).1 n5
  have ne35 : v3 ≠ v5 := ne_fresh c3 n5
  have o0 : Only non (fun _ => []) h T5 h5 := (o1.trans o3).trans o5
  have e0 : Ext h h5 := fun b o e => o0.kp b o e (not_non _)
  have xF : Sl 4 SessR (fz T5 h5) v l := x.ext (R := SessR) (@SessR.ext) (by have := o0.ext (not_non _); rwa [fz_nil] at this)
  simp -implicitDefEqProofs [ld_at c5, cel_of c5, stm_at c5, stm_upd, ld_same, cel_same, over]
  have ec5 : upd h5 v5 (.cells #[.int .i64 0] ty_int (0, 0)) = h5 := (upd_of (fun _ _ => rfl) c5).symm
  rw [ec5, seqM_eq]
  unfold d_aggr_Of_1
  apply e_aggr_Live
  unfold d_aggr_Live
  simp -implicitDefEqProofs only [xF.one.2]
  refine nw_tag o5.wf [] fun a T6 h6 n6 o6 t6 c6 => ?_
  refine nw_tag o6.wf [] fun b T7 h7 n7 o7 t7 c7 => ?_
  simp -implicitDefEqProofs only [ov_s]
  have b1 := o7.see (o6.see b1 (not_non _)) (not_non _)
  have b3 := o7.see (o6.see b3 (not_non _)) (not_non _)
  have b5 := o7.see (o6.see ⟨c5, t5⟩ (not_non _)) (not_non _)
  have ba := o7.see ⟨c6, t6⟩ (not_non _)
  have o9 : Only non T5 h5 T7 h7 := o6.trans o7
  have xA : Sl 4 SessR (fz T7 h7) v l := xF.ext (R := SessR) (@SessR.ext) (o9.ext (not_non _))
  have e7 : Ext h h7 := e0.trans fun b o e => o9.kp b o e (not_non _)
  have n1' : h v1 = none := n1
  have n3' : h v3 = none := o1.fresh n3
  have n5' : h v5 = none := (o1.trans o3).fresh n5
  refine rf_it good mixed rfl (by kernel_rfl) (live_it (hA := fz T7 h7) (fz_at ba.1 ba.2) (fz_at c7 t7) xA) (OfJ (fz T7 h7) h v1 v3 v5 l now) (fun _ _ => False)
    ⟨fz_ext _ _, e7, b1.1, b3.1, b5.1⟩ (fun i h' hJ => hJ.1) ?_ (fun _ _ _ _ _ h _ => h) ?_ ?_ ?_ (fun _ _ _ _ h => h.elim) (fun _ _ _ _ _ h => h.elim)
  · intro l' hl' i h' h'' hJ k
    have nl : ∀ c o, h7 c = some o → some c ≠ some l' := fun c o e he => by cases he; rw [hl'] at e; cases e
    exact ⟨fun c o e => k c o (hJ.1 c o e) (nl c o (fz_ext _ _ c o e)), fun c o e => k c o (hJ.2.1 c o e) (nl c o (e7 c o e)), k _ _ hJ.2.2.1 (nl _ _ b1.1), k _ _ hJ.2.2.2.1 (nl _ _ b3.1), k _ _ hJ.2.2.2.2 (nl _ _ b5.1)⟩
  · intro i hi; simp [liveX]
  · intro i hi l' b' h' h2 hl' hb' hJ k ⟨ol, hol⟩ ⟨ob, hob⟩
    have nl : ∀ c o, h7 c = some o → some c ≠ some l' := fun c o e he => by cases he; rw [hl'] at e; cases e
    have nb : ∀ c o, h7 c = some o → c ≠ b' := fun c o e he => by cases he; rw [hb'] at e; cases e
    have hJ2 : OfJ (fz T7 h7) h v1 v3 v5 l now i h2 := ⟨fun c o e => k c o (hJ.1 c o e) (nl c o (fz_ext _ _ c o e)), fun c o e => k c o (hJ.2.1 c o e) (nl c o (e7 c o e)), k _ _ hJ.2.2.1 (nl _ _ b1.1), k _ _ hJ.2.2.2.1 (nl _ _ b3.1), k _ _ hJ.2.2.2.2 (nl _ _ b5.1)⟩
    have hi' : i < (liveS l now).length := by simpa [liveX] using hi
    have hxi : (liveX l now)[i] = #[.agg (sessC (liveS l now)[i]).toArray] := by simp [liveX]
    rw [hxi]
    refine ⟨OfA (fz T7 h7) h v1 v3 v5 l now i (liveS l now)[i] l' b', ?_, ?_, ?_⟩
    · rintro m2 s2 h3 h4 ⟨rfl, sb, q1, q2, q3, q4, q4', q5, q6, q7, q8⟩ k4
      exact ⟨rfl, sb, q1, q2, q3, q4, q4', k4 _ _ q5 (by simpa using q4), q6, q7, ⟨fun c o e => k4 c o (q8.1 c o e) (nl c o (fz_ext _ _ c o e)), fun c o e => k4 c o (q8.2.1 c o e) (nl c o (e7 c o e)), k4 _ _ q8.2.2.1 (nl _ _ b1.1), k4 _ _ q8.2.2.2.1 (nl _ _ b3.1), k4 _ _ q8.2.2.2.2 (nl _ _ b5.1)⟩⟩
    · rw [ea_aggr_Of_0]
      unfold da_aggr_Of_0
      rw [zcSess]
      simp -implicitDefEqProofs
      refine nw_st rfl rfl (by simp [sessC]) fun sb h4 n4 e4 c4 => ?_
      refine ⟨⟨rfl, sb, by simp, by simp, by simp, fun e => (by subst e; rw [hol] at n4; cases n4), fun e => (by subst e; rw [hob] at n4; cases n4), c4, fun e => (by subst e; rw [hJ2.2.2.2.1] at n4; cases n4), fun e => (by subst e; rw [hJ2.2.2.2.2] at n4; cases n4), ?_⟩, by rw [hol, e4 _ _ hol], by rw [hob, e4 _ _ hob]⟩
      exact ⟨hJ2.1.trans e4, hJ2.2.1.trans e4, e4 _ _ hJ2.2.2.1, e4 _ _ hJ2.2.2.2.1, e4 _ _ hJ2.2.2.2.2⟩
    · rintro m2 s2 h3 ⟨rfl, sb, q1, q2, q3, q4, q4', q5, q6, q7, q8⟩ ⟨ol3, hol3⟩ ⟨ob3, hob3⟩
      obtain ⟨r1, r2, r3, r4, r5⟩ := q8
      rw [eb_aggr_Of_0]
      unfold db_aggr_Of_0
      have hn := accL_n l now i (by omega)
      have hlen : (liveS l now).length ≤ l.length := List.length_filter_le _ _
      have hw : IntKind.i64.wrap ((i : Int) + 1) = i + 1 := wrap64_id (by omega) (by omega)
      have hb5 := nb _ _ b5.1
      have hb3 := nb _ _ b3.1
      have hl5 : v5 ≠ l' := fun e => nl _ _ b5.1 (by rw [e])
      have hl3 : v3 ≠ l' := fun e => nl _ _ b3.1 (by rw [e])
      have hst := accL_s hi'
      rw [show accL l now i = ((accL l now i).1, i) from Prod.ext rfl hn] at hst
      have hne : sb ≠ v3 := q6
      have ax : ∀ h4, Ext h3 h4 → h4 l' = h3 l' ∧ h4 b' = h3 b' := fun h4 e => ⟨by rw [hol3, e _ _ hol3], by rw [hob3, e _ _ hob3]⟩
      have finT : ∀ h4, Ext h3 h4 → (accL l now (i + 1)).1 = (liveS l now)[i] → ∀ h5, h5 = upd (upd h4 v3 (.cells (sessC (liveS l now)[i]).toArray ty_api_Session (0, 0))) v5 (.cells #[.int .i64 (i + 1 : Nat)] ty_int (0, 0)) →
          h5 l' = h3 l' ∧ h5 b' = h3 b' ∧ OfJ (fz T7 h7) h v1 v3 v5 l now (i + 1) h5 := fun h4 e hacc h5 e5 => by
        subst e5
        have := ax h4 e
        refine ⟨by rw [upd_ne (Ne.symm hl5), upd_ne (Ne.symm hl3)]; exact this.1, by rw [upd_ne (Ne.symm hb5), upd_ne (Ne.symm hb3)]; exact this.2, fun c o ec => ?_, fun c o ec => ?_, ?_, ?_, upd_same' _ _ _⟩
        · have h1 : c ≠ v5 := fun hc => by
            subst hc
            have : fz T7 h7 c = none := by unfold fz; rw [if_neg]; rw [b5.2]; simp
            rw [this] at ec; cases ec
          have h2 : c ≠ v3 := fun hc => by
            subst hc
            have : fz T7 h7 c = none := by unfold fz; rw [if_neg]; rw [b3.2]; simp
            rw [this] at ec; cases ec
          rw [upd_ne h1, upd_ne h2]; exact e _ _ (r1 _ _ ec)
        · rw [upd_ne (fun hc => by subst hc; rw [n5'] at ec; cases ec), upd_ne (fun hc => by subst hc; rw [n3'] at ec; cases ec)]; exact e _ _ (r2 _ _ ec)
        · rw [upd_ne ne15, upd_ne ne13]; exact e _ _ r3
        · rw [upd_ne ne35, upd_same', hacc]
      have finF : ∀ h4, Ext h3 h4 → (accL l now (i + 1)).1 = (accL l now i).1 → ∀ h5, h5 = upd h4 v5 (.cells #[.int .i64 (i + 1 : Nat)] ty_int (0, 0)) →
          h5 l' = h3 l' ∧ h5 b' = h3 b' ∧ OfJ (fz T7 h7) h v1 v3 v5 l now (i + 1) h5 := fun h4 e hacc h5 e5 => by
        subst e5
        have := ax h4 e
        refine ⟨by rw [upd_ne (Ne.symm hl5)]; exact this.1, by rw [upd_ne (Ne.symm hb5)]; exact this.2, fun c o ec => ?_, fun c o ec => ?_, ?_, ?_, upd_same' _ _ _⟩
        · have h1 : c ≠ v5 := fun hc => by
            subst hc
            have : fz T7 h7 c = none := by unfold fz; rw [if_neg]; rw [b5.2]; simp
            rw [this] at ec; cases ec
          rw [upd_ne h1]; exact e _ _ (r1 _ _ ec)
        · rw [upd_ne (fun hc => by subst hc; rw [n5'] at ec; cases ec)]; exact e _ _ (r2 _ _ ec)
        · rw [upd_ne ne15]; exact e _ _ r3
        · rw [upd_ne ne35, hacc]; exact e _ _ r4
      rw [seqM_eq]
      have hw5 : (↑(i + 1 : Nat) : Int) = i + 1 := by omega
      simp -implicitDefEqProofs only [sessC] at q5 r4
      by_cases hi0 : i = 0
      · subst hi0
        simp -implicitDefEqProofs [q1, q2, q3, ld_at q5, cel_of q5, stm_at q5, ld_at r4, cel_of r4, stm_at r4, ld_at r5, cel_of r5, stm_at r5, stm_skip ne35, stm_skip (Ne.symm ne35), ld_skip ne35, ld_skip (Ne.symm ne35), cel_skip ne35, cel_skip (Ne.symm ne35), stm_upd, ld_same, cel_same, over, sessC, cel_skip (Ne.symm ne35), stm_skip (Ne.symm ne35), cel_of r5, stm_at r5]
        refine finT h3 (Ext.refl _) (by rw [hst]; simp [stepL]) _ ?_
        rw [upd_comm (Ne.symm ne35)]
        rfl
      · have hi0' : ¬ ((i : Int) = 0) := by omega
        simp -implicitDefEqProofs [q1, q2, q3, ld_at q5, cel_of q5, stm_at q5, ld_at r4, cel_of r4, stm_at r4, ld_at r5, cel_of r5, stm_at r5, stm_upd, ld_same, cel_same, over, hi0', hi0]
        refine better_ok (liveS l now)[i] (accL l now i).1 fun h4 e4 => ?_
        have q5 := e4 _ _ q5
        have r4' := e4 _ _ r4
        have r5' := e4 _ _ r5
        cases hb : better (liveS l now)[i] (accL l now i).1 with
        | true =>
          simp -implicitDefEqProofs [ld_at q5, cel_of q5, stm_at q5, ld_at r4', cel_of r4', stm_at r4', ld_at r5', cel_of r5', stm_at r5', stm_skip ne35, stm_skip (Ne.symm ne35), ld_skip ne35, ld_skip (Ne.symm ne35), cel_skip ne35, cel_skip (Ne.symm ne35), stm_upd, ld_same, cel_same, over, hw]
          refine finT h4 e4 (by rw [hst]; simp [stepL, hb]) _ ?_
          rw [upd_comm (Ne.symm ne35)]
          rfl
        | false =>
          simp -implicitDefEqProofs [ld_at q5, cel_of q5, stm_at q5, ld_at r4', cel_of r4', stm_at r4', ld_at r5', cel_of r5', stm_at r5', stm_upd, ld_same, cel_same, over, hw]
          exact finF h4 e4 (by rw [hst]; simp [stepL, hb, hi0]) _ rfl
  · intro b' h' hb' hd hJ
    simp -implicitDefEqProofs only [blkM_n, thenM_n]
    obtain ⟨r1, r2, r3, r4, r5⟩ := hJ
    have hlx : (liveX l now).length = (liveS l now).length := by simp [liveX]
    rw [hlx] at r4 r5
    simp -implicitDefEqProofs only [sessC] at r4
    unfold d_aggr_Of_2
    have nb1 : v1 ≠ b' := fun e => by subst e; rw [b1.1] at hb'; cases hb'
    have bdP : ∀ a b c : Int, bdV (binf P ty_api_Presence) [(0, .int .i64 a), (1, .int .i64 b), (2, .int .i64 c)] = some (.agg #[.int .i64 a, .int .i64 b, .int .i64 c]) := fun a b c => by kernel_rfl
    simp -implicitDefEqProofs [ld_at r3, cel_of r3, stm_at r3, ld_at r4, cel_of r4, stm_at r4, ld_at r5, cel_of r5, stm_at r5, stm_upd, ld_same, cel_same, over, bdP, upd_ne (Ne.symm nb1), hd, tgPres, ld_skip nb1]
    refine kv (hk _ ?_) (by rw [presOf, ← accL_all, accL_n _ _ _ (Nat.le_refl _)]; rfl)
    intro c o ec
    rw [upd_ne (fun hc => by subst hc; rw [e7 _ _ ec] at hb'; cases hb'), upd_ne (fun hc => by subst hc; rw [n1'] at ec; cases ec)]
    exact r2 _ _ ec
end Go.Proofs.YtcnphhhcknhhaaaGreat
namespace Go.Den
open Go
set_option linter.unusedVariables false
set_option linter.unusedSimpArgs false
def ltS (a b : ByteArray) : Bool := Op.bytesLess a.toList b.toList
theorem bl_irrefl : ∀ x : List UInt8, Op.bytesLess x x = false
  | [] => rfl
  | a :: x => by
    have : ¬ a < a := UInt8.lt_irrefl a
    simp [Op.bytesLess, this, bl_irrefl x]
theorem bl_trans : ∀ {x y z : List UInt8}, Op.bytesLess x y = true → Op.bytesLess y z = true → Op.bytesLess x z = true
  | _, _, [], _, h => by simp [Op.bytesLess] at h
  | [], _, _ :: _, _, _ => rfl
  | _ :: _, [], _, h, _ => by simp [Op.bytesLess] at h
  | a :: x, b :: y, c :: z, h1, h2 => by
    simp only [Op.bytesLess, Bool.or_eq_true, decide_eq_true_eq, Bool.and_eq_true, beq_iff_eq] at *
    rcases h1 with h1 | ⟨rfl, h1⟩
    · rcases h2 with h2 | ⟨rfl, h2⟩
      · exact .inl (UInt8.lt_trans h1 h2)
      · exact .inl h1
    · rcases h2 with h2 | ⟨rfl, h2⟩
      · exact .inl h2
      · exact .inr ⟨rfl, bl_trans h1 h2⟩
theorem bl_total : ∀ x y : List UInt8, Op.bytesLess x y = false → Op.bytesLess y x = false → x = y
  | [], [], _, _ => rfl
  | [], _ :: _, h, _ => by simp [Op.bytesLess] at h
  | _ :: _, [], _, h => by simp [Op.bytesLess] at h
  | a :: x, b :: y, h1, h2 => by
    simp only [Op.bytesLess, Bool.or_eq_false_iff, decide_eq_false_iff_not, Bool.and_eq_false_iff, beq_eq_false_iff_ne] at *
    have hab : a = b := by
      have h3 := h1.1
      have h4 := h2.1
      rw [UInt8.lt_iff_toNat_lt] at h3 h4
      exact UInt8.toNat_inj.1 (by omega)
    subst hab
    congr 1
    exact bl_total x y (by rcases h1.2 with h | h; exact absurd rfl h; exact h) (by rcases h2.2 with h | h; exact absurd rfl h; exact h)
theorem ltS_irrefl (a : ByteArray) : ltS a a = false := bl_irrefl _
theorem ltS_trans {a b c : ByteArray} (h : ltS a b = true) (k : ltS b c = true) : ltS a c = true := bl_trans h k
theorem ltS_total {a b : ByteArray} (h : ltS a b = false) (k : ltS b a = false) : a = b := str_inj (bl_total _ _ h k)
theorem ltS_asymm {a b : ByteArray} (h : ltS a b = true) : ltS b a = false := by
  cases k : ltS b a with
  | false => rfl
  | true => have := ltS_trans h k; rw [ltS_irrefl] at this; cases this
def SrtK (l : List ByteArray) : Prop := l.Pairwise fun a b => ltS a b = true
def pos (l : List ByteArray) (u : ByteArray) : Nat := (l.takeWhile fun k => ltS k u).length
theorem SrtK.at {l : List ByteArray} (s : SrtK l) {i j : Nat} (hi : i < j) (hj : j < l.length) : ltS (l[i]'(by omega)) l[j] = true := List.pairwise_iff_getElem.1 s i j (by omega) hj hi
/-- Where a text stands: all ahead are less, none from there on. -/
theorem pos_of {l : List ByteArray} (u : ByteArray) {i : Nat} (hi : i ≤ l.length) (h1 : ∀ k (hk : k < l.length), k < i → ltS l[k] u = true) (h2 : ∀ (hk : i < l.length), ltS l[i] u = false) : pos l u = i := by
  induction l generalizing i with
  | nil => simp at hi; subst hi; rfl
  | cons a l ih =>
    unfold pos
    cases i with
    | zero =>
      have := h2 (by simp)
      simp only [List.getElem_cons_zero] at this
      simp [List.takeWhile_cons, this]
    | succ i =>
      have h0 := h1 0 (by simp) (by omega)
      simp only [List.getElem_cons_zero] at h0
      have := ih (i := i) (by simpa using hi) (fun k hk hki => by have := h1 (k + 1) (by simpa using hk) (by omega); rwa [List.getElem_cons_succ] at this) (fun hk => by have := h2 (by simpa using hk); rwa [List.getElem_cons_succ] at this)
      unfold pos at this
      simp [List.takeWhile_cons, h0, this]
theorem pos_spec {l : List ByteArray} (s : SrtK l) (u : ByteArray) : pos l u ≤ l.length ∧ (∀ k (hk : k < l.length), k < pos l u → ltS l[k] u = true) ∧ (∀ k (hk : k < l.length), pos l u ≤ k → ltS l[k] u = false) := by
  induction l with
  | nil => simp [pos]
  | cons a l ih =>
    have s' : SrtK l := (List.pairwise_cons.1 s).2
    obtain ⟨h1, h2, h3⟩ := ih s'
    cases ha : ltS a u with
    | true =>
      have e : pos (a :: l) u = pos l u + 1 := by simp [pos, List.takeWhile_cons, ha]
      rw [e]
      refine ⟨by simpa using h1, fun k hk hkp => ?_, fun k hk hkp => ?_⟩
      · cases k with
        | zero => simpa using ha
        | succ k => rw [List.getElem_cons_succ]; exact h2 k (by simpa using hk) (by omega)
      · cases k with
        | zero => omega
        | succ k => rw [List.getElem_cons_succ]; exact h3 k (by simpa using hk) (by omega)
    | false =>
      have e : pos (a :: l) u = 0 := by simp [pos, List.takeWhile_cons, ha]
      rw [e]
      refine ⟨by omega, fun k hk hkp => by omega, fun k hk _ => ?_⟩
      cases k with
      | zero => simpa using ha
      | succ k =>
        have hk' : k < l.length := by simpa using hk
        have := (List.pairwise_cons.1 s).1 l[k] (List.getElem_mem _)
        rw [List.getElem_cons_succ]
        cases hk2 : ltS l[k] u with
        | false => rfl
        | true => rw [ltS_trans this hk2] at ha; cases ha
theorem mem_pos {l : List ByteArray} (s : SrtK l) (u : ByteArray) : u ∈ l ↔ ∃ h : pos l u < l.length, l[pos l u] = u := by
  obtain ⟨h1, h2, h3⟩ := pos_spec s u
  constructor
  · intro h
    obtain ⟨i, hi, rfl⟩ := List.getElem_of_mem h
    have hip : pos l l[i] = i := by
      refine pos_of _ (by omega) (fun k hk hki => s.at hki hi) (fun hk => ltS_irrefl _)
    exact ⟨by rw [hip]; exact hi, by simp only [hip]⟩
  · rintro ⟨h, e⟩; rw [← e]; exact List.getElem_mem _
def keysB (b : Book) : List ByteArray := b.map (·.1)
def hasB (b : Book) (u : ByteArray) : Bool := (keysB b).any fun k => decide (k = u)
theorem hasB_iff {b : Book} {u : ByteArray} : hasB b u = true ↔ u ∈ keysB b := by simp [hasB]
theorem entOf_mem {b : Book} (s : SrtK (keysB b)) {i : Nat} (hi : i < b.length) : entOf b b[i].1 = b[i].2 := by
  induction b generalizing i with
  | nil => simp at hi
  | cons x b ih =>
    obtain ⟨k, e⟩ := x
    have s' : SrtK (keysB b) := (List.pairwise_cons.1 s).2
    cases i with
    | zero => simp [entOf]
    | succ i =>
      have hi' : i < b.length := by simpa using hi
      have hne : ¬ k = b[i].1 := fun h => by
        have := (List.pairwise_cons.1 s).1 b[i].1 (List.mem_map_of_mem (List.getElem_mem _))
        rw [h, ltS_irrefl] at this; cases this
      simp only [List.getElem_cons_succ, entOf, if_neg hne]
      exact ih s' hi'
theorem entOf_none {b : Book} {u : ByteArray} (h : u ∉ keysB b) : entOf b u = ent0 := by
  induction b with
  | nil => rfl
  | cons x b ih =>
    obtain ⟨k, e⟩ := x
    simp only [keysB, List.map_cons, List.mem_cons, not_or] at h
    simp only [entOf, if_neg (Ne.symm h.1)]
    exact ih h.2
/-- What a book must be for its readers. -/
structure BkG (b : Book) : Prop where
  so : SrtK (keysB b)
  len : b.length < 1000000
  ss : ∀ u, (entOf b u).ss.length < 1000000
theorem BkG.nil : BkG [] := ⟨List.Pairwise.nil, by simp, fun u => by simp [entOf, ent0]⟩
end Go.Den
namespace Go.Proofs.YtcnphhhcknhhaaaGreat
open Go Go.Den Go.MapKept
set_option linter.unusedSimpArgs false
set_option linter.unusedVariables false
set_option maxRecDepth 20000
theorem isNaN_ok (a : ByteArray) {h : Heap} {K : Value → Heap → Prop} (hk : K (.bool false) h) : callM P fn_cmp_isNaN_string #[.string a] h K := by
  apply e_cmp_isNaN_string
  unfold d_cmp_isNaN_string
  simpa using hk
theorem sisNaN_ok (a : ByteArray) {h : Heap} {K : Value → Heap → Prop} (hk : K (.bool false) h) : callM P fn_slices_isNaN_string #[.string a] h K := by
  apply e_slices_isNaN_string
  unfold d_slices_isNaN_string
  simpa using hk
theorem cmpLess_ok (a b : ByteArray) {h : Heap} {K : Value → Heap → Prop} (hk : K (.bool (ltS a b)) h) : callM P fn_cmp_Less_string #[.string a, .string b] h K := by
  apply e_cmp_Less_string
  unfold d_cmp_Less_string
  refine isNaN_ok a ?_
  unfold d_cmp_Less_string_1
  have e : binV .lss 3 false (.string a) (.string b) = some (.bool (ltS a b)) := rfl
  simp -implicitDefEqProofs [e]
  exact hk
theorem str_at {F : Heap} {v : Value} {l : List ByteArray} (x : Sl 1 StrR F v l) {i : Nat} (hi : i < l.length) {k : IntKind} : ∃ b p, iaV (some (none, 1)) v (.int k i) = some (.pointer (some ⟨b, p, none⟩)) ∧ ∀ h', Ext F h' → cel h' b p = some (.string l[i]) := by
  obtain ⟨b, p, c, h1, h2, h3⟩ := x.at (k := k) (i := i) (by omega) (by omega)
  refine ⟨b, p, h1, fun h' e => ?_⟩
  have hc : c = [.string l[i]] := h3.1
  subst hc
  have := (cels_get (cels_ext e h2)).2 0 (by simp)
  simpa using this
set_option maxHeartbeats 1000000 in
theorem bs_ok (l : List ByteArray) (so : SrtK l) (u : ByteArray) {h : Heap} {v : Value} (x : Sl 1 StrR h v l) (hl : l.length < 1000000) {K : Value → Heap → Prop} (hk : K (.tuple #[.int .i64 (pos l u), .bool (l.any fun k => decide (k = u))]) h) :
    callM P fn_slices_BinarySearch_string_string #[v, .string u] h K := by
  apply e_slices_BinarySearch_string_string
  unfold d_slices_BinarySearch_string_string
  have hlen := x.len
  simp -implicitDefEqProofs only [hlen, ov_s]
  rw [seqM_eq]
  unfold d_slices_BinarySearch_string_string_1
  refine loop_on [0, 1, 6] (fun s h' => h' = h ∧ ∃ i j : Nat, i ≤ j ∧ j ≤ l.length ∧ s 7 = .int .i64 i ∧ s 8 = .int .i64 j ∧ (∀ k (hk : k < l.length), k < i → ltS l[k] u = true) ∧ ∀ k (hk : k < l.length), j ≤ k → ltS l[k] u = false)
    (fun s _ => (num (s 8) - num (s 7)).toNat) ⟨rfl, 0, l.length, by omega, by omega, rfl, by simp, fun k _ h => by omega, fun k hk h => by omega⟩ ?_
  rintro s h1 hf ⟨rfl, i, j, hij, hj, s7, s8, hlo, hhi⟩
  have s0 : s 0 = v := by simpa using hf 0 (by simp)
  have s1 : s 1 = .string u := by simpa using hf 1 (by simp)
  have s6 : s 6 = .int .i64 l.length := by simpa using hf 6 (by simp)
  unfold d_slices_BinarySearch_string_string_2
  simp -implicitDefEqProofs only [s7, s8, bin_lss, ov_s, cd_b]
  refine ⟨fun hc => ?_, fun hc => ?_⟩
  · have hlt : i < j := by have : ((i : Int) < j) := by simpa using hc
                           omega
    obtain ⟨m, hm⟩ : ∃ m : Nat, m = (i + j) / 2 := ⟨_, rfl⟩
    have hm1 : i ≤ m ∧ m < j := by omega
    have w1 : IntKind.i64.wrap ((i : Int) + j) = (i + j : Nat) := by rw [wrap64_id (by omega) (by omega)]; omega
    have w2 : IntKind.u64.wrap ((i + j : Nat) : Int) = (i + j : Nat) := wrapU_id (by omega) (by omega)
    have w3 : binV .shr 2 true (.int .u64 ((i + j : Nat) : Int)) (.int .u64 1) = some (.int .u64 m) := by
      have : ((i + j : Nat) : Int).fdiv 2 = m := by rw [Int.fdiv_eq_ediv_of_nonneg _ (by omega)]; omega
      simp -implicitDefEqProofs [binV, intV, IntKind.bits]
      rw [← this]; rfl
    have w4 : IntKind.i64.wrap (m : Int) = m := wrap64_id (by omega) (by omega)
    have w5 : IntKind.i64.wrap ((m : Int) + 1) = m + 1 := wrap64_id (by omega) (by omega)
    obtain ⟨b, p, i1, i2⟩ := str_at x (k := .i64) (i := m) (by omega)
    unfold d_slices_BinarySearch_string_string_3
    simp -implicitDefEqProofs only [s0, s1, s7, s8, bin_add, ov_s, w1, cvV_i, w2, w3, w4, i1, ldV_c, i2 _ (Ext.refl _)]
    refine cmpLess_ok _ _ ?_
    unfold d_slices_BinarySearch_string_string_4 d_slices_BinarySearch_string_string_5 d_slices_BinarySearch_string_string_6
    cases hlm : ltS l[m] u with
    | true =>
      simp -implicitDefEqProofs [w5, s0, s1, s6, s7, s8]
      refine ⟨⟨m + 1, j, by omega, by omega, by simp, rfl, fun k hk hkm => ?_, hhi⟩, by omega⟩
      by_cases e : k = m
      · subst e; exact hlm
      · exact ltS_trans (so.at (show k < m by omega) (by omega)) hlm
    | false =>
      simp -implicitDefEqProofs [s0, s1, s6, s7, s8]
      refine ⟨⟨i, m, by omega, by omega, rfl, rfl, hlo, fun k hk hkm => ?_⟩, by omega⟩
      by_cases e : k = m
      · subst e; exact hlm
      · cases hh : ltS l[k] u with
        | false => rfl
        | true => rw [ltS_trans (so.at (show m < k by omega) hk) hh] at hlm; cases hlm
  · have : i = j := by have : ¬ ((i : Int) < j) := by simpa using hc
                       omega
    subst this
    have hp : pos l u = i := pos_of u hj (fun k hk hki => hlo k hk hki) (fun hk => hhi i hk (by omega))
    have hany : (l.any fun k => decide (k = u)) = true ↔ u ∈ l := by simp
    have hmem := mem_pos so u
    rw [hp] at hk
    simp -implicitDefEqProofs only [lpM_e, blkM_e, if_true, thenM_n]
    unfold d_slices_BinarySearch_string_string_7
    by_cases hil : i < l.length
    · obtain ⟨b, p, i1, i2⟩ := str_at x (k := .i64) (i := i) hil
      have hil' : (i : Int) < l.length := by omega
      by_cases heq : l[i] = u
      · have : (l.any fun k => decide (k = u)) = true := hany.2 (heq ▸ List.getElem_mem hil)
        simp -implicitDefEqProofs [s0, s1, s6, s7, s8, hil', hil, i1, i2 _ (Ext.refl _), heq]
        rw [this] at hk; exact hk
      · have : (l.any fun k => decide (k = u)) = false := by
          cases hh : (l.any fun k => decide (k = u)) with
          | false => rfl
          | true => obtain ⟨h3, h4⟩ := hmem.1 (hany.1 hh); simp only [hp] at h4; exact absurd h4 heq
        simp -implicitDefEqProofs [s0, s1, s6, s7, s8, hil', hil, i1, i2 _ (Ext.refl _), heq]
        refine sisNaN_ok _ ?_
        rw [this] at hk; exact hk
    · have hil' : ¬ ((i : Int) < l.length) := by omega
      have : (l.any fun k => decide (k = u)) = false := by
        cases hh : (l.any fun k => decide (k = u)) with
        | false => rfl
        | true => obtain ⟨h3, h4⟩ := hmem.1 (hany.1 hh); rw [hp] at h3; exact absurd h3 hil
      simp -implicitDefEqProofs [s0, s1, s6, s7, s8, hil', hil]
      rw [this] at hk; exact hk
theorem zcEnt : zc P ty_book_Entry = some #[.slice none 0 0, .int .i64 0, .int .i64 0, .int .i64 0] := by kernel_rfl
theorem find_ok (l : List ByteArray) (so : SrtK l) (u : ByteArray) {h : Heap} {kw vw : Value} (ov_ : vw.cells = #[vw]) (x : Sl 1 StrR h kw l) (hl : l.length < 1000000) {K : Value → Heap → Prop} (hk : ∀ h', Ext h h' → K (.tuple #[.int .i64 (pos l u), .bool (l.any fun k => decide (k = u))]) h') :
    callM P fn_omap_Map_string_book_Entry_find #[.agg #[kw, vw], .string u] h K := by
  apply e_omap_Map_string_book_Entry_find
  unfold d_omap_Map_string_book_Entry_find
  refine nw_agg fun v1 h1 n1 e1 c1 => ?_
  simp -implicitDefEqProofs [ld_at c1, cel_of c1, stm_at c1, stm_upd, ld_same, cel_same, over]
  refine bs_ok l so u (x.ext (@StrR.ext) e1) hl ?_
  simp -implicitDefEqProofs
  exact hk _ e1
/-- A key's value. -/
theorem get_ok (b : Book) (so : SrtK (keysB b)) (u : ByteArray) {F h : Heap} (eF : Ext F h) {kw vw : Value} (x : BookR F kw vw b) (hl : b.length < 1000000) {K : Value → Heap → Prop}
    (hk : ∀ h' sv, Ext h h' → Sl 4 SessR F sv (entOf b u).ss → Sn sv → K (.tuple #[.agg (sv :: presC (entOf b u).told).toArray, .bool (hasB b u)]) h') : callM P fn_omap_Map_string_book_Entry_Get #[.agg #[kw, vw], .string u] h K := by
  apply e_omap_Map_string_book_Entry_Get
  unfold d_omap_Map_string_book_Entry_Get
  rw [zcEnt]
  refine nw_agg fun v1 h1 n1 e1 c1 => ?_
  refine nw_intro fun v3 h3 n3 e3 c3 => ?_
  refine nw_intro fun v5 h5 n5 e5 c5 => ?_
  have c1 := e5 _ _ (e3 _ _ c1)
  have ne35 := ne_fresh c3 n5
  have c3 := e5 _ _ c3
  have e0 := (e1.trans e3).trans e5
  have n3 := fresh_of e1 n3
  simp -implicitDefEqProofs [ld_at c1, cel_of c1, stm_at c1, stm_upd, ld_same, cel_same, over]
  refine find_ok (keysB b) so u x.2.1.one.2 (x.1.ext (@StrR.ext) (eF.trans e0)) (by simpa [keysB] using hl) fun h6 e6 => ?_
  have c1 := e6 _ _ c1
  have c3 := e6 _ _ c3
  have c5 := e6 _ _ c5
  have e0 := e0.trans e6
  unfold d_omap_Map_string_book_Entry_Get_1
  simp -implicitDefEqProofs only [exV_0, exV_1, ov_s, unV_n, cd_b]
  refine ⟨fun hn => ?_, fun hy => ?_⟩
  · have hno : u ∉ keysB b := fun hh => by
      have := hasB_iff.2 hh
      unfold hasB at this
      rw [this] at hn; cases hn
    unfold d_omap_Map_string_book_Entry_Get_2
    simp -implicitDefEqProofs [ld_at c3, cel_of c3, stm_at c3, ld_at c5, cel_of c5, stm_at c5, stm_upd, ld_same, cel_same, over]
    have he := entOf_none hno
    refine kv (hk _ (.slice none 0 0) (ext_upd n3 e0) (by rw [he]; exact .inl ⟨rfl, _, _, rfl⟩) Sn.nil) ?_
    have : hasB b u = false := by
      cases hh : hasB b u with
      | false => rfl
      | true => exact absurd (hasB_iff.1 hh) hno
    rw [he, this]; rfl
  · have hyes : hasB b u = true := by
      unfold hasB
      simpa using hy
    obtain ⟨h1, h2⟩ := (mem_pos so u).1 (hasB_iff.1 hyes)
    have hlen : (keysB b).length = b.length := by simp [keysB]
    have hp : pos (keysB b) u < b.length := by omega
    have hu : b[pos (keysB b) u].1 = u := by simpa [keysB] using h2
    have he : entOf b u = b[pos (keysB b) u].2 := by
      have := entOf_mem so hp
      rw [hu] at this; exact this
    obtain ⟨eb, eo, c, i1, i2, sv, i3, i4⟩ := x.2.1.at (k := .i64) (i := pos (keysB b) u) (by omega) (by simpa using hp)
    simp -implicitDefEqProofs only [Int.toNat_natCast, List.getElem_map] at i3 i4
    have i2 := cels_ext (eF.trans e0) i2
    rw [← he] at i3 i4
    subst i3
    unfold d_omap_Map_string_book_Entry_Get_3
    simp -implicitDefEqProofs only [presC] at i2
    simp -implicitDefEqProofs [ld_at c1, cel_of c1, stm_at c1, ld_at c3, cel_of c3, stm_at c3, stm_upd, ld_same, cel_same, over, i1, ldV_n i2, i4.1.one.1, i4.1.one.2]
    refine kv (hk _ sv (ext_upd n3 e0) i4.1 i4.2) ?_
    rw [hyes]; rfl
end Go.Proofs.YtcnphhhcknhhaaaGreat
namespace Go.Proofs.YtcnphhhcknhhaaaGreat
open Go Go.Den Go.MapKept
set_option linter.unusedSimpArgs false
set_option linter.unusedVariables false
set_option maxRecDepth 20000
theorem all_succ {α : Type} {p : α → Bool} {l : List α} {i : Nat} (h : i < l.length) (ha : (l.take i).all p = true) (hn : p l[i] = true) : (l.take (i + 1)).all p = true := by
  rw [List.take_succ_eq_append_getElem h, List.all_append, ha]; simp [hn]
set_option maxHeartbeats 1000000 in
theorem modBad_ok (x : OpD) (xw : OpW x) {h : Heap} {v : Value} (hv : Sl 1 StrR h v x.users) (hl : x.users.length < 1000000) {K : Value → Heap → Prop}
    (hk : ∀ h', Ext h h' → K (.bool (badB x)) h') : callM P fn_model_Bad #[.agg (opC x v).toArray] h K := by
  apply e_model_Bad
  unfold d_model_Bad
  refine nw_agg fun v1 h1 n1 e1 c1 => ?_
  simp -implicitDefEqProofs only [opC] at c1
  have hk1 := hk h1 e1
  rw [seqM_eq]
  unfold d_model_Bad_1
  by_cases k1 : x.kind = 1
  · unfold d_model_Bad_2
    simp -implicitDefEqProofs [ld_at c1, cel_of c1, stm_at c1, stm_upd, ld_same, cel_same, over, k1]
    refine hashRight_ok _ ?_
    unfold d_model_Bad_3
    simp +contextual -implicitDefEqProofs [ld_at c1, cel_of c1, stm_at c1, stm_upd, ld_same, cel_same, over]
    refine gM_call0 (a := .bool (decide (0 ≤ x.id ∧ x.id ≤ 255 ∧ 1 ≤ x.status ∧ x.status ≤ 9 ∧ 0 ≤ x.prio ∧ x.prio ≤ 9))) (fun hc K' hk' => sessRight_ok _ _ _ hk') ?_
    simp +contextual -implicitDefEqProofs
    refine kb hk1 ?_
    rw [badB, if_pos k1]
    cases nameB x.user <;> simp
  unfold d_model_Bad_4
  simp -implicitDefEqProofs [ld_at c1, cel_of c1, stm_at c1, stm_upd, ld_same, cel_same, over, k1]
  rw [seqM_eq]
  unfold d_model_Bad_5 d_model_Bad_6
  by_cases k2 : x.kind = 2 ∨ x.kind = 3
  · have hb : badB x = !(nameB x.user && decide (0 ≤ x.id ∧ x.id ≤ 255)) := by rw [badB, if_neg k1, if_pos k2]
    rw [hb] at hk1
    unfold d_model_Bad_7 d_model_Bad_8
    rcases k2 with k2 | k2
    all_goals
      simp -implicitDefEqProofs [ld_at c1, cel_of c1, stm_at c1, stm_upd, ld_same, cel_same, over, k2]
      refine hashRight_ok _ ?_
      unfold d_model_Bad_9
      simp +contextual -implicitDefEqProofs [ld_at c1, cel_of c1, stm_at c1, stm_upd, ld_same, cel_same, over]
      refine gM_call0 (a := .bool (decide (0 ≤ x.id ∧ x.id ≤ 255))) (fun hc K' hk' => within_ok _ _ _ hk') ?_
      simp +contextual -implicitDefEqProofs
      refine kb hk1 ?_
      cases nameB x.user <;> simp
  have k2' : ¬ x.kind = 2 := fun h => k2 (.inl h)
  have k3' : ¬ x.kind = 3 := fun h => k2 (.inr h)
  unfold d_model_Bad_7 d_model_Bad_10
  simp -implicitDefEqProofs [k2', k3']
  rw [seqM_eq]
  unfold d_model_Bad_11 d_model_Bad_12 d_model_Bad_13
  by_cases k4 : x.kind = 4 ∨ x.kind = 6 ∨ x.kind = 7
  · have hb : badB x = !nameB x.user := by rw [badB, if_neg k1, if_neg k2, if_pos k4]
    rw [hb] at hk1
    unfold d_model_Bad_14 d_model_Bad_15
    rcases k4 with k4 | k4 | k4
    all_goals
      simp -implicitDefEqProofs [ld_at c1, cel_of c1, stm_at c1, stm_upd, ld_same, cel_same, over, k4]
      refine hashRight_ok _ ?_
      simp -implicitDefEqProofs
      exact hk1
  have k4' : ¬ x.kind = 4 := fun h => k4 (.inl h)
  have k6' : ¬ x.kind = 6 := fun h => k4 (.inr (.inl h))
  have k7' : ¬ x.kind = 7 := fun h => k4 (.inr (.inr h))
  unfold d_model_Bad_14 d_model_Bad_16
  simp -implicitDefEqProofs [k4', k6', k7']
  by_cases k5 : x.kind = 5
  · have hb : badB x = !(decide (1 ≤ x.users.length ∧ x.users.length ≤ 8) && x.users.all nameB) := by rw [badB, if_neg k1, if_neg k2, if_neg k4, if_pos k5]
    have hlen := hv.len
    have hk' : ∀ h', Ext h1 h' → K (.bool (!(decide (1 ≤ x.users.length ∧ x.users.length ≤ 8) && x.users.all nameB))) h' := fun h' e => by rw [← hb]; exact hk h' (e1.trans e)
    unfold d_model_Bad_17
    simp -implicitDefEqProofs [k5]
    rw [seqM_eq]
    unfold d_model_Bad_18
    simp -implicitDefEqProofs [ld_at c1, cel_of c1, stm_at c1, stm_upd, ld_same, cel_same, over, hlen]
    refine loop_on [1, 47, 48] (fun s h' => h' = h1 ∧ ∃ i : Nat, i ≤ x.users.length ∧ s 49 = .int .i64 i ∧ (x.users.take i).all nameB = true) (fun s _ => (x.users.length - num (s 49)).toNat) ⟨rfl, 0, by omega, by simp, by simp⟩ ?_
    rintro s h2 hf ⟨rfl, i, hi, s49, hall⟩
    have s1 : s 1 = ptr v1 := by simpa using hf 1 (by simp)
    have s47 : s 47 = v := by simpa using hf 47 (by simp)
    have s48 : s 48 = .int .i64 x.users.length := by simpa using hf 48 (by simp)
    unfold d_model_Bad_19
    simp -implicitDefEqProofs only [s48, s49, bin_lss, ov_s, cd_b]
    refine ⟨fun hc => ?_, fun hc => ?_⟩
    · have hlt : i < x.users.length := by have : ((i : Int) < x.users.length) := by simpa using hc
                                          omega
      obtain ⟨b, o, i1, i2⟩ := str_at hv (k := .i64) hlt
      have hw : IntKind.i64.wrap ((i : Int) + 1) = i + 1 := wrap64_id (by omega) (by omega)
      unfold d_model_Bad_20
      simp -implicitDefEqProofs only [s47, s49, i1, ov_s, ldV_c, i2 _ e1]
      refine hashRight_ok _ ?_
      unfold d_model_Bad_21 d_model_Bad_22
      cases hn : nameB x.users[i] with
      | true =>
        simp -implicitDefEqProofs [s49, hw, s1, s47, s48]
        refine ⟨⟨i + 1, by omega, by simp, ?_⟩, by omega⟩
        simpa using all_succ hlt hall hn
      | false =>
        simp -implicitDefEqProofs
        refine kb (hk' _ (Ext.refl _)) ?_
        have : x.users.all nameB = false := by rw [List.all_eq_false]; exact ⟨_, List.getElem_mem hlt, by simp [hn]⟩
        simp -implicitDefEqProofs [this]
    · have : i = x.users.length := by have : ¬ ((i : Int) < x.users.length) := by simpa using hc
                                      omega
      subst this
      rw [List.take_length] at hall
      unfold d_model_Bad_23
      simp -implicitDefEqProofs [s1, ld_at c1, cel_of c1, stm_at c1, stm_upd, ld_same, cel_same, over, hlen]
      refine within_ok _ _ _ ?_
      simp -implicitDefEqProofs
      refine kb (hk' _ (Ext.refl _)) ?_
      have e : decide (1 ≤ x.users.length ∧ x.users.length ≤ 8) = decide ((1 : Int) ≤ x.users.length ∧ (x.users.length : Int) ≤ 8) := decide_eq_decide.2 (by omega)
      rw [hall, e]; simp
  · have hb : badB x = !decide (x.kind = 8 ∨ x.kind = 9) := by rw [badB, if_neg k1, if_neg k2, if_neg k4, if_neg k5]
    rw [hb] at hk1
    unfold d_model_Bad_24
    simp -implicitDefEqProofs [k5]
    rw [seqM_eq]
    unfold d_model_Bad_25 d_model_Bad_26
    by_cases k8 : x.kind = 8
    · simp -implicitDefEqProofs [ld_at c1, cel_of c1, stm_at c1, stm_upd, ld_same, cel_same, over, k8]
      exact kb hk1 (by simp [k8])
    · by_cases k9 : x.kind = 9
      · simp -implicitDefEqProofs [ld_at c1, cel_of c1, stm_at c1, stm_upd, ld_same, cel_same, over, k9]
        exact kb hk1 (by simp [k9])
      · simp -implicitDefEqProofs [ld_at c1, cel_of c1, stm_at c1, stm_upd, ld_same, cel_same, over, k1, k2', k3', k4', k5, k6', k7', k8, k9]
        exact kb hk1 (by simp [k8, k9])
set_option maxHeartbeats 1000000 in
theorem short_ok (x : OpD) {h : Heap} {v : Value} (hv : Sl 1 StrR h v x.users) {K : Value → Heap → Prop} (hk : ∀ h', Ext h h' → K (.bool (shortB x)) h') : callM P fn_doormanref10_Short #[.agg (opC x v).toArray] h K := by
  apply e_doormanref10_Short
  unfold d_doormanref10_Short
  refine nw_agg fun v1 h1 n1 e1 c1 => ?_
  simp -implicitDefEqProofs only [opC] at c1
  have hlen := hv.len
  have hk1 := hk h1 e1
  by_cases h40 : x.user.size ≤ 40
  rotate_left
  · have : (40 : Int) < x.user.size := by omega
    simp -implicitDefEqProofs [ld_at c1, cel_of c1, stm_at c1, stm_upd, ld_same, cel_same, over, this]
    exact kb hk1 (by simp [shortB, h40])
  have h40' : ¬ (40 : Int) < x.user.size := by omega
  by_cases h20 : x.users.length ≤ 20
  rotate_left
  · have : (20 : Int) < x.users.length := by omega
    simp -implicitDefEqProofs [ld_at c1, cel_of c1, stm_at c1, stm_upd, ld_same, cel_same, over, h40', this, hlen]
    exact kb hk1 (by simp [shortB, h20])
  have h20' : ¬ (20 : Int) < x.users.length := by omega
  unfold d_doormanref10_Short_1
  simp -implicitDefEqProofs [ld_at c1, cel_of c1, stm_at c1, stm_upd, ld_same, cel_same, over, h40', h20', hlen]
  rw [seqM_eq]
  unfold d_doormanref10_Short_2
  refine loop_on [1] (fun s h' => h' = h1 ∧ ∃ i : Nat, i ≤ x.users.length ∧ s 3 = .int .i64 i ∧ (x.users.take i).all (fun s => decide (s.size ≤ 40)) = true) (fun s _ => (x.users.length - num (s 3)).toNat) ⟨rfl, 0, by omega, rfl, by simp⟩ ?_
  rintro s h2 hf ⟨rfl, i, hi, s3, hall⟩
  have s1 : s 1 = ptr v1 := by simpa using hf 1 (by simp)
  unfold d_doormanref10_Short_3
  simp -implicitDefEqProofs only [s1, faV_p, ov_s, ldV_c, Nat.zero_add, cel_of c1, List.getElem?_toArray, List.getElem?_cons_succ, List.getElem?_cons_zero, hlen, s3, bin_lss, cd_b]
  refine ⟨fun hc => ?_, fun hc => ?_⟩
  · have hlt : i < x.users.length := by have : ((i : Int) < x.users.length) := by simpa using hc
                                        omega
    obtain ⟨b, o, i1, i2⟩ := str_at hv (k := .i64) hlt
    have hw : IntKind.i64.wrap ((i : Int) + 1) = i + 1 := wrap64_id (by omega) (by omega)
    unfold d_doormanref10_Short_4 d_doormanref10_Short_5 d_doormanref10_Short_6
    by_cases hn : x.users[i].size ≤ 40
    · have hn' : ¬ (40 : Int) < x.users[i].size := by omega
      simp -implicitDefEqProofs [s1, s3, ld_at c1, cel_of c1, stm_at c1, stm_upd, ld_same, cel_same, over, i1, i2 _ e1, hn', hw]
      refine ⟨⟨i + 1, by omega, by simp, ?_⟩, by omega⟩
      simpa using all_succ (p := fun s : ByteArray => decide (s.size ≤ 40)) hlt hall (by simp [hn])
    · have hn' : (40 : Int) < x.users[i].size := by omega
      simp -implicitDefEqProofs [s1, s3, ld_at c1, cel_of c1, stm_at c1, stm_upd, ld_same, cel_same, over, i1, i2 _ e1, hn']
      refine kb hk1 ?_
      have : (x.users.all fun s => decide (s.size ≤ 40)) = false := by rw [List.all_eq_false]; exact ⟨_, List.getElem_mem hlt, by simp [hn]⟩
      simp -implicitDefEqProofs [shortB, this]
  · have : i = x.users.length := by have : ¬ ((i : Int) < x.users.length) := by simpa using hc
                                    omega
    subst this
    rw [List.take_length] at hall
    simp -implicitDefEqProofs
    refine kb hk1 ?_
    simp -implicitDefEqProofs [shortB, hall, h40, h20]
end Go.Proofs.YtcnphhhcknhhaaaGreat
namespace Go.Proofs.YtcnphhhcknhhaaaGreat
open Go Go.Den Go.MapKept
set_option linter.unusedSimpArgs false
set_option linter.unusedVariables false
set_option maxRecDepth 20000
def NatR (_ : Heap) (c : List Value) (n : Nat) : Prop := c = [.int .i64 n]
theorem NatR.ext {h h' : Heap} {c : List Value} {x : Nat} (_ : Ext h h') (r : NatR h c x) : NatR h' c x := r
end Go.Proofs.YtcnphhhcknhhaaaGreat
namespace Go.Den
open Go
set_option linter.unusedVariables false
set_option linter.unusedSimpArgs false
theorem RP.next_lt {p : RP} {ph : Int} (h : p.at_ + 1 < p.k) : p.next ph = { p with at_ := p.at_ + 1 } := if_pos h
theorem RP.next_ge {p : RP} {ph : Int} (h : ¬ p.at_ + 1 < p.k) : p.next ph = { p with ph := ph, at_ := 0 } := if_neg h
/-- What holds all along. -/
structure TrB (c : Cfg) (ss : List Nat) (us : List ByteArray) (p : RP) (H : Hall) : Prop where
  ss : p.ss = ss
  err : p.err = 0
  ep : ∀ j, p.ep j = 0
  hc : H.c = c
  cl : H.t.closed = false
  v0 : ∀ s, (H.ss s).v = 0
  us : p.users = us
  va : p.vals = []
def E0 (c : Cfg) : Bool := decide (evn c.epochs ≤ 0)
/-- Where it stands behind so many steps. -/
inductive Tr (c : Cfg) (ss : List Nat) (us : List ByteArray) (n : Nat) (p : RP) (H : Hall) : Prop
  | a (b : TrB c ss us p H) (w : ∀ s, (H.ss s).who = 0) (h : n < ss.length) (ph : p.ph = 0) (at_ : p.at_ = n) (va : p.valid = true) (sp : p.spent = (decide (0 < n) && E0 c))
  | b (b : TrB c ss us p H) (w : ∀ s, (H.ss s).who = 0) (h : ss.length ≤ n ∧ n < 2 * ss.length) (ph : p.ph = 1) (at_ : p.at_ = n - ss.length) (va : p.valid = true) (sp : p.spent = E0 c)
  | c (b : TrB c ss us p H) (w : ∀ s, (H.ss s).who = 0) (h : n = 2 * ss.length) (ph : p.ph = 2) (at_ : p.at_ = 0) (va : p.valid = true) (sp : p.spent = E0 c)
  | d (b : TrB c ss us p H) (w : ∀ s, (H.ss s).who = 0) (h : 2 * ss.length < n ∧ n ≤ 3 * ss.length) (ph : p.ph = 3) (at_ : p.at_ = n - 2 * ss.length - 1) (va : p.valid = (decide (n = 2 * ss.length + 1) || !E0 c)) (sp : p.spent = E0 c) (tc : p.t.closed = false) (lo : p.looked = (2 * ss.length : Nat))
  | e (h : n = 3 * ss.length + 1) (he : E0 c = false) (ph : p.ph = 8) (pl : p.placed = (2 * ss.length : Nat)) (er : p.err = 0) (vl : p.vals.length = us.length)
  | f (b : TrB c ss us p H) (w : ∀ j, p.at_ ≤ j → j < ss.length → (H.ss (ss.getD j 0)).who = 0) (h : 3 * ss.length + 1 ≤ n ∧ n < 4 * ss.length + 1) (he : E0 c = true) (ph : p.ph = 4) (at_ : p.at_ = n - 3 * ss.length - 1)
  | g (b : TrB c ss us p H) (h : n = 4 * ss.length + 1) (he : E0 c = true) (ph : p.ph = 5) (at_ : p.at_ = 0)
  | i (b : TrB c ss us p H) (h : 4 * ss.length + 2 ≤ n ∧ n < 5 * ss.length + 2) (he : E0 c = true) (ph : p.ph = 6) (at_ : p.at_ = n - 4 * ss.length - 2) (tc : p.t.closed = false) (lo : p.looked = (4 * ss.length + 1 : Nat)) (pl : p.placed = (4 * ss.length + 1 : Nat))
  | j (b : TrB c ss us p H) (h : 5 * ss.length + 2 ≤ n ∧ n < 6 * ss.length + 2) (he : E0 c = true) (ph : p.ph = 7) (at_ : p.at_ = n - 5 * ss.length - 2) (tc : p.t.closed = false) (lo : p.looked = (4 * ss.length + 1 : Nat)) (pl : p.placed = (4 * ss.length + 1 : Nat))
  | k (h : n = 6 * ss.length + 2) (he : E0 c = true) (ph : p.ph = 8) (pl : p.placed = (4 * ss.length + 1 : Nat)) (er : p.err = 0)
def Nof (c : Cfg) (ss : List Nat) : Nat := if E0 c then 6 * ss.length + 2 else 3 * ss.length + 1
theorem TrB.lock {c : Cfg} {ss : List Nat} {us : List ByteArray} {p p' : RP} {H : Hall} (b : TrB c ss us p H) (who : Int) (s : Nat) (h1 : p'.ss = p.ss) (h2 : p'.err = p.err) (h3 : p'.ep = p.ep) (h4 : p'.users = p.users) (h5 : p'.vals = p.vals) : TrB c ss us p' (H.lock who s) := by
  refine ⟨h1.trans b.ss, h2.trans b.err, fun j => by rw [h3]; exact b.ep j, ?_, ?_, fun t => ?_, h4.trans b.us, h5.trans b.va⟩
  · unfold Hall.lock; split <;> exact b.hc
  · unfold Hall.lock; split <;> exact b.cl
  · unfold Hall.lock; split
    · simp only [Hall.put, sput, Hall.did]; split
      · rename_i h; exact b.v0 s
      · exact b.v0 t
    · exact b.v0 t
theorem TrB.unlock {c : Cfg} {ss : List Nat} {us : List ByteArray} {p p' : RP} {H : Hall} (b : TrB c ss us p H) (who : Int) (s : Nat) (h1 : p'.ss = p.ss) (h2 : p'.err = p.err) (h3 : p'.ep = p.ep) (h4 : p'.users = p.users) (h5 : p'.vals = p.vals) : TrB c ss us p' (H.unlock who s) := by
  refine ⟨h1.trans b.ss, h2.trans b.err, fun j => by rw [h3]; exact b.ep j, ?_, ?_, fun t => ?_, h4.trans b.us, h5.trans b.va⟩
  · unfold Hall.unlock; split <;> exact b.hc
  · unfold Hall.unlock; split <;> exact b.cl
  · unfold Hall.unlock; split
    · simp only [Hall.put, sput, Hall.did]; split
      · rename_i h; exact b.v0 s
      · exact b.v0 t
    · exact b.v0 t
theorem lock_who {H : Hall} {who : Int} {s t : Nat} (h : t ≠ s) : ((H.lock who s).ss t).who = (H.ss t).who := by
  unfold Hall.lock; split
  · simp [Hall.put, sput, Hall.did, h]
  · rfl
theorem Tr.next {c : Cfg} {ss : List Nat} {us : List ByteArray} {n : Nat} {p : RP} {H : Hall} (t : Tr c ss us n p H) (hk : 0 < ss.length) (nd : ss.Nodup) (hn : n < Nof c ss) (h0 : 0 ≤ c.epochs) : Tr c ss us (n + 1) (p.step H n).1 (p.step H n).2 := by
  have hne : ss ≠ [] := fun h => by rw [h] at hk; simp at hk
  have hstep : ∀ (b : TrB c ss us p H), p.enabled H = true → p.step H n = p.go H n := fun b he => by simp [RP.step, he, b.ss, hne]
  have hep : validB 0 0 c.epochs = !E0 c := by
    have : (decide (0 < evn c.epochs)) = !E0 c := by
      unfold E0; rw [← decide_not]; exact decide_eq_decide.2 (by omega)
    simp [validB, this]
  have did : ∀ (b : TrB c ss us p H) (p' : RP) (who kind pl : Int), p'.ss = p.ss → p'.err = p.err → (∀ j, p'.ep j = 0) → p'.users = p.users → p'.vals = p.vals → TrB c ss us p' (H.did who kind pl) := fun b p' who kind pl h1 h2 h3 h4 h5 => ⟨h1.trans b.ss, h2.trans b.err, h3, b.hc, b.cl, b.v0, h4.trans b.us, h5.trans b.va⟩
  cases t with
  | a b w h ph at_ va sp =>
    rw [hstep b (by simp [RP.enabled, ph])]
    have hk' : p.k = ss.length := by simp [RP.k, b.ss]
    have hsp : (p.spent || decide (evn H.c.epochs ≤ (H.ss p.s).v)) = E0 c := by
      rw [b.hc, b.v0, sp]
      show ((decide (0 < n) && E0 c) || E0 c) = E0 c
      cases E0 c <;> simp
    have hgo : p.go H n = (RP.next { p with ep := epset p.ep p.at_ (H.ss p.s).v, spent := p.spent || decide (evn H.c.epochs ≤ (H.ss p.s).v) } 1, H.epoch p.who p.s) := by simp [RP.go, ph]
    rw [hgo, hsp, b.v0]
    have he : ∀ j, epset p.ep p.at_ 0 j = 0 := fun j => by unfold epset; split; rfl; exact b.ep j
    by_cases hl : n + 1 < ss.length
    · have : RP.next { p with ep := epset p.ep p.at_ 0, spent := E0 c } 1 = { p with ep := epset p.ep p.at_ 0, spent := E0 c, at_ := n + 1 } := by
        refine (RP.next_lt ?_).trans ?_
        · show p.at_ + 1 < p.k; omega
        · simp [at_]
      rw [this]
      exact .a (did b _ _ _ _ rfl rfl he rfl rfl) w hl ph rfl va (by simp)
    · have : RP.next { p with ep := epset p.ep p.at_ 0, spent := E0 c } 1 = { p with ep := epset p.ep p.at_ 0, spent := E0 c, ph := 1, at_ := 0 } := by
        refine (RP.next_ge ?_).trans rfl
        show ¬ p.at_ + 1 < p.k; omega
      rw [this]
      exact .b (did b _ _ _ _ rfl rfl he rfl rfl) w (by omega) rfl (by simp; omega) va rfl
  | b b w h ph at_ va sp =>
    rw [hstep b (by simp [RP.enabled, ph])]
    have hk' : p.k = ss.length := by simp [RP.k, b.ss]
    have hgo : p.go H n = (RP.next { p with seen := seenset p.seen p.s (H.ss p.s).snap } 2, H.snap p.who p.s) := by simp [RP.go, ph]
    rw [hgo]
    by_cases hl : n + 1 < 2 * ss.length
    · have : RP.next { p with seen := seenset p.seen p.s (H.ss p.s).snap } 2 = { p with seen := seenset p.seen p.s (H.ss p.s).snap, at_ := p.at_ + 1 } := by
        refine (RP.next_lt ?_).trans rfl
        show p.at_ + 1 < p.k; omega
      rw [this]
      exact .b (did b _ _ _ _ rfl rfl b.ep rfl rfl) w (by omega) ph (by simp; omega) va sp
    · have : RP.next { p with seen := seenset p.seen p.s (H.ss p.s).snap } 2 = { p with seen := seenset p.seen p.s (H.ss p.s).snap, ph := 2, at_ := 0 } := by
        refine (RP.next_ge ?_).trans rfl
        show ¬ p.at_ + 1 < p.k; omega
      rw [this]
      exact .c (did b _ _ _ _ rfl rfl b.ep rfl rfl) w (by omega) rfl rfl va sp
  | c b w h ph at_ va sp =>
    rw [hstep b (by simp [RP.enabled, ph])]
    have hgo : p.go H n = ({ p with t := H.t, looked := n, ph := 3 }, H.look p.who) := by simp [RP.go, ph]
    rw [hgo]
    exact .d (did b _ _ _ _ rfl rfl b.ep rfl rfl) w (by omega) rfl (by simp; omega) (by simp [va, h]) sp b.cl (by simp [h])
  | d b w h ph at_ va sp tc lo =>
    rw [hstep b (by simp [RP.enabled, ph])]
    have hk' : p.k = ss.length := by simp [RP.k, b.ss]
    obtain ⟨q, hq⟩ : ∃ q : RP, q = { p with valid := p.valid && validB (p.ep p.at_) (H.ss p.s).v H.c.epochs } := ⟨_, rfl⟩
    have hgo : p.go H n = (if q.last then (q.next 8).judge else q.next 8, H.epoch p.who p.s) := by simp [RP.go, ph, hq]
    have hqv : q.valid = !E0 c := by
      rw [hq]
      show (p.valid && validB (p.ep p.at_) (H.ss p.s).v H.c.epochs) = !E0 c
      rw [b.ep, b.v0, b.hc, hep, va]
      cases E0 c <;> simp
    have q1 : q.ss = p.ss ∧ q.err = p.err ∧ q.ep = p.ep ∧ q.at_ = p.at_ ∧ q.k = p.k ∧ q.t = p.t ∧ q.looked = p.looked ∧ q.spent = p.spent ∧ q.ph = p.ph ∧ q.users = p.users ∧ q.vals = p.vals := by rw [hq]; exact ⟨rfl, rfl, rfl, rfl, rfl, rfl, rfl, rfl, rfl, rfl, rfl⟩
    obtain ⟨x1, x2, x3, x4, x5, x6, x7, x8, x9, x10, x11⟩ := q1
    rw [hgo]
    clear hgo hq
    by_cases hl : n + 1 ≤ 3 * ss.length
    · have hlast : q.last = false := by simp [RP.last, x4, x5, hk', at_]; omega
      rw [hlast]
      have : q.next 8 = { q with at_ := q.at_ + 1 } := RP.next_lt (by omega)
      simp only [Bool.false_eq_true, if_false, this]
      refine .d (did b _ _ _ _ x1 x2 (fun j => by show q.ep j = 0; rw [x3]; exact b.ep j) x10 x11) w (by omega) (x9.trans ph) (by show q.at_ + 1 = _; omega) ?_ (x8.trans sp) (by show q.t.closed = false; rw [x6]; exact tc) (x7.trans lo)
      show q.valid = _
      rw [hqv]
      have h2 : ¬ n = 2 * ss.length := by omega
      simp [h2]
    · have hlast : q.last = true := by simp [RP.last, x4, x5, hk', at_]; omega
      rw [hlast]
      have : q.next 8 = { q with ph := 8, at_ := 0 } := RP.next_ge (by omega)
      simp only [if_true, this]
      cases hE : E0 c with
      | false =>
        have hj : RP.judge { q with ph := 8, at_ := 0 } = { RP.answer { q with ph := 8, at_ := 0 } with ph := 8 } := by simp [RP.judge, hqv, hE]
        rw [hj]
        have ha : RP.answer { q with ph := 8, at_ := 0 } = { q with ph := 8, at_ := 0, placed := q.looked, vals := q.vals ++ q.users.map (RP.tell { q with ph := 8, at_ := 0 }) } := by simp [RP.answer, x6, tc]
        rw [ha]
        exact .e (by omega) hE rfl (x7.trans lo) (x2.trans b.err) (by simp [x11, b.va, x10, b.us])
      | true =>
        have hj : RP.judge { q with ph := 8, at_ := 0 } = { q with ph := 4, at_ := 0 } := by simp [RP.judge, hqv, hE, x6, tc, x8, sp]
        rw [hj]
        exact .f (did b _ _ _ _ x1 x2 (fun j => by show q.ep j = 0; rw [x3]; exact b.ep j) x10 x11) (fun j _ _ => w _) (by omega) hE rfl (by simp; omega)
  | e h he ph pl er vl => unfold Nof at hn; rw [he] at hn; simp at hn; omega
  | f b w h he ph at_ =>
    have hk' : p.k = ss.length := by simp [RP.k, b.ss]
    have hat : p.at_ < ss.length := by omega
    have hs : p.s = ss.getD p.at_ 0 := by simp [RP.s, b.ss]
    rw [hstep b (by simp [RP.enabled, ph, hs]; exact w _ (Nat.le_refl _) hat)]
    have hgo : p.go H n = (p.next 5, H.lock p.who p.s) := by simp [RP.go, ph]
    rw [hgo]
    by_cases hl : p.at_ + 1 < ss.length
    · have : p.next 5 = { p with at_ := p.at_ + 1 } := RP.next_lt (by omega)
      rw [this]
      refine .f (b.lock _ _ rfl rfl rfl rfl rfl) (fun j h1 h2 => ?_) (by omega) he ph (by simp; omega)
      have h1' : p.at_ + 1 ≤ j := h1
      rw [lock_who, w j (by omega) h2]
      rw [hs]
      intro e
      rw [List.getD_eq_getElem?_getD, List.getD_eq_getElem?_getD, List.getElem?_eq_getElem h2, List.getElem?_eq_getElem hat] at e
      exact List.pairwise_iff_getElem.1 nd p.at_ j hat h2 (by omega) (show ss[p.at_] = ss[j] from e.symm)
    · have : p.next 5 = { p with ph := 5, at_ := 0 } := RP.next_ge (by omega)
      rw [this]
      exact .g (b.lock _ _ rfl rfl rfl rfl rfl) (by omega) he rfl rfl
  | g b h he ph at_ =>
    rw [hstep b (by simp [RP.enabled, ph])]
    have hgo : p.go H n = ({ p with t := H.t, looked := n, ph := 6, placed := n }, H.look p.who) := by simp [RP.go, ph]
    rw [hgo]
    exact .i (did b _ _ _ _ rfl rfl b.ep rfl rfl) (by omega) he rfl (by simp; omega) b.cl (by simp [h]) (by simp [h])
  | i b h he ph at_ tc lo pl =>
    rw [hstep b (by simp [RP.enabled, ph])]
    have hk' : p.k = ss.length := by simp [RP.k, b.ss]
    have hgo : p.go H n = (RP.next { p with seen := seenset p.seen p.s (H.ss p.s).book } 7, H.read p.who p.s) := by simp [RP.go, ph]
    rw [hgo]
    by_cases hl : p.at_ + 1 < ss.length
    · have : RP.next { p with seen := seenset p.seen p.s (H.ss p.s).book } 7 = { p with seen := seenset p.seen p.s (H.ss p.s).book, at_ := p.at_ + 1 } := by
        refine (RP.next_lt ?_).trans rfl
        show p.at_ + 1 < p.k; omega
      rw [this]
      exact .i (did b _ _ _ _ rfl rfl b.ep rfl rfl) (by omega) he ph (by simp; omega) tc lo pl
    · have : RP.next { p with seen := seenset p.seen p.s (H.ss p.s).book } 7 = { p with seen := seenset p.seen p.s (H.ss p.s).book, ph := 7, at_ := 0 } := by
        refine (RP.next_ge ?_).trans rfl
        show ¬ p.at_ + 1 < p.k; omega
      rw [this]
      exact .j (did b _ _ _ _ rfl rfl b.ep rfl rfl) (by omega) he rfl (by simp; omega) tc lo pl
  | j b h he ph at_ tc lo pl =>
    rw [hstep b (by simp [RP.enabled, ph])]
    have hk' : p.k = ss.length := by simp [RP.k, b.ss]
    have hgo : p.go H n = (if p.last then (p.next 8).answer else p.next 8, H.unlock p.who p.s) := by simp [RP.go, ph]
    rw [hgo]
    by_cases hl : p.at_ + 1 < ss.length
    · have hlast : p.last = false := by simp [RP.last, hk', hl]
      have : p.next 8 = { p with at_ := p.at_ + 1 } := RP.next_lt (by omega)
      rw [hlast]
      simp only [Bool.false_eq_true, if_false, this]
      exact .j (b.unlock _ _ rfl rfl rfl rfl rfl) (by omega) he ph (by simp; omega) tc lo pl
    · have hlast : p.last = true := by simp [RP.last, hk', hl]
      have : p.next 8 = { p with ph := 8, at_ := 0 } := RP.next_ge (by omega)
      rw [hlast]
      simp only [if_true, this]
      have ha : RP.answer { p with ph := 8, at_ := 0 } = { p with ph := 8, at_ := 0, placed := p.looked, vals := p.vals ++ p.users.map (RP.tell { p with ph := 8, at_ := 0 }) } := by simp [RP.answer, tc]
      rw [ha]
      exact .k (by omega) he rfl lo b.err
  | k h he ph pl er => unfold Nof at hn; rw [he] at hn; simp at hn; omega
end Go.Den
namespace Go.Den
open Go
set_option linter.unusedVariables false
set_option linter.unusedSimpArgs false
/-- What a reading's helpers ask of it. -/
structure RG (r : RP) : Prop where
  us : r.users.length ≤ 1000
  of : r.of ≤ 1000
  k8 : r.k ≤ 8
  tr : 0 ≤ r.tries ∧ r.tries ≤ 4
  at_ : r.at_ < 1000000
  sn : ∀ i b, r.seen i = some b → BkG b
/-- What the steps of processes ask of a table. -/
structure HG (H : Hall) : Prop where
  n8 : H.n ≤ 8
  ac : H.acts.length < 900000
  sn : ∀ s, s < H.n → BkG (H.ss s).snap ∧ BkG (H.ss s).book
  uv : ∀ s, s < H.n → U64 (H.ss s).v ∧ U64 (H.ss s).bound
  wh : ∀ s, s < H.n → 0 ≤ (H.ss s).who ∧ (H.ss s).who ≤ 1000
  cw : CfgW H.c
  c8 : H.c.stripes ≤ 8
/-- Where a reading may stand. -/
structure RS (r : RP) (H : Hall) : Prop where
  at_ : r.ph ≠ 8 → r.ss ≠ [] → r.at_ < r.k
  ss : ∀ s ∈ r.ss, s < H.n
  vn : r.ph ≠ 8 → r.vals = []
  ph : 0 ≤ r.ph ∧ r.ph ≤ 8
  e0 : r.ss = [] → r.ph = 0 ∨ r.ph = 8
  ep : ∀ i, i < r.k → U64 (r.ep i)
  wr : -1000 ≤ r.who ∧ r.who ≤ 900
theorem RP.s_lt {r : RP} (h : r.at_ < r.k) : r.s = r.ss[r.at_]'h := by
  show r.ss.getD r.at_ 0 = _
  rw [List.getD_eq_getElem?_getD, List.getElem?_eq_getElem h]; rfl
theorem HG.did {H : Hall} (x : HG H) (w k p : Int) (h : H.acts.length + 1 < 900000) : HG (H.did w k p) := ⟨x.n8, by simp [Hall.did]; omega, x.sn, x.uv, x.wh, x.cw, x.c8⟩
theorem HG.put {H : Hall} (x : HG H) {s : Nat} {y : Strp} (h1 : BkG y.snap ∧ BkG y.book) (h2 : U64 y.v ∧ U64 y.bound) (h3 : 0 ≤ y.who ∧ y.who ≤ 1000) : HG (H.put s y) :=
  ⟨x.n8, x.ac, fun t ht => by simp only [Hall.put, sput]; split; exact h1; exact x.sn t ht, fun t ht => by simp only [Hall.put, sput]; split; exact h2; exact x.uv t ht, fun t ht => by simp only [Hall.put, sput]; split; exact h3; exact x.wh t ht, x.cw, x.c8⟩
theorem HG.lock {H : Hall} (x : HG H) {w : Int} {s : Nat} (hs : s < H.n) (hw : w ≤ 900) (h : H.acts.length + 1 < 900000) : HG (H.lock w s) := by
  unfold Hall.lock
  split
  · rename_i hc
    have hc' : 0 ≤ w ∧ (H.ss s).who = 0 := by simpa [canTake] using hc
    exact (x.did _ _ _ h).put (x.sn s hs) (x.uv s hs) (by simp; omega)
  · exact x
theorem HG.unlock {H : Hall} (x : HG H) {w : Int} {s : Nat} (hs : s < H.n) (h : H.acts.length + 1 < 900000) : HG (H.unlock w s) := by
  unfold Hall.unlock
  split
  · exact (x.did _ _ _ h).put (x.sn s hs) (x.uv s hs) (by simp)
  · exact x
theorem lock_n (H : Hall) (w : Int) (s : Nat) : (H.lock w s).n = H.n ∧ (H.lock w s).c = H.c ∧ (H.lock w s).acts.length ≤ H.acts.length + 1 := by
  unfold Hall.lock; split
  · exact ⟨rfl, rfl, by simp [Hall.put, Hall.did]⟩
  · exact ⟨rfl, rfl, by omega⟩
theorem unlock_n (H : Hall) (w : Int) (s : Nat) : (H.unlock w s).n = H.n ∧ (H.unlock w s).c = H.c ∧ (H.unlock w s).acts.length ≤ H.acts.length + 1 := by
  unfold Hall.unlock; split
  · exact ⟨rfl, rfl, by simp [Hall.put, Hall.did]⟩
  · exact ⟨rfl, rfl, by omega⟩
/-- What of a process stays, and what of it a step makes. -/
structure RK (n : Nat) (r : RP) : Prop where
  rg : RG r
  at_ : r.ph ≠ 8 → r.ss ≠ [] → r.at_ < r.k
  ss : ∀ s ∈ r.ss, s < n
  vn : r.ph ≠ 8 → r.vals = []
  ph : 0 ≤ r.ph ∧ r.ph ≤ 8
  e0 : r.ss = [] → r.ph = 0 ∨ r.ph = 8
  ep : ∀ i, i < r.k → U64 (r.ep i)
  wr : -1000 ≤ r.who ∧ r.who ≤ 900
theorem RK.rs {r : RP} {H : Hall} (x : RK H.n r) : RS r H := ⟨x.at_, x.ss, x.vn, x.ph, x.e0, x.ep, x.wr⟩
theorem RK.next {n : Nat} {r : RP} (x : RK n r) (h8 : r.ph ≠ 8) (h0 : r.ss ≠ []) {ph : Int} (hp : 0 ≤ ph ∧ ph ≤ 8) : RK n (r.next ph) := by
  have hk : 0 < r.k := by unfold RP.k; exact List.length_pos_iff.2 h0
  have g := x.rg
  have k8 := g.k8
  by_cases hl : r.at_ + 1 < r.k
  · rw [RP.next_lt hl]
    exact ⟨⟨g.us, g.of, g.k8, g.tr, by simp; omega, g.sn⟩, fun _ _ => hl, x.ss, fun _ => x.vn h8, x.ph, fun h => absurd h h0, x.ep, x.wr⟩
  · rw [RP.next_ge hl]
    exact ⟨⟨g.us, g.of, g.k8, g.tr, by simp, g.sn⟩, fun _ _ => hk, x.ss, fun _ => x.vn h8, hp, fun h => absurd h h0, x.ep, x.wr⟩
theorem RK.begin {n : Nat} {r : RP} (x : RK n r) (hv : r.vals = []) : RK n r.begin := by
  have g := x.rg
  exact ⟨⟨g.us, g.of, g.k8, g.tr, by simp [RP.begin], fun i b h => by simp [RP.begin] at h⟩, fun _ h0 => by show 0 < r.k; unfold RP.k; exact List.length_pos_iff.2 h0, x.ss, fun _ => hv, by simp [RP.begin], fun _ => .inl rfl, fun i _ => by simp [RP.begin, U64], x.wr⟩
theorem RK.answer {n : Nat} {r : RP} (x : RK n r) (h0 : r.ss ≠ []) {ph : Int} (hp : ph = 8) : RK n { r.answer with ph := ph } := by
  have g := x.rg
  subst hp
  unfold RP.answer
  split
  · exact ⟨⟨g.us, g.of, g.k8, g.tr, g.at_, g.sn⟩, fun h => absurd rfl h, x.ss, fun h => absurd rfl h, by simp, fun h => absurd h h0, x.ep, x.wr⟩
  · exact ⟨⟨g.us, g.of, g.k8, g.tr, g.at_, g.sn⟩, fun h => absurd rfl h, x.ss, fun h => absurd rfl h, by simp, fun h => absurd h h0, x.ep, x.wr⟩
theorem answer_ph (r : RP) : r.answer.ph = r.ph := by unfold RP.answer; split <;> rfl
theorem RK.judge {n : Nat} {r : RP} (x : RK n r) (h0 : r.ss ≠ []) (hv : r.vals = []) (hat : r.at_ < r.k) : RK n r.judge := by
  have g := x.rg
  unfold RP.judge
  split
  · exact x.answer h0 rfl
  · split
    · exact ⟨⟨g.us, g.of, g.k8, g.tr, g.at_, g.sn⟩, fun _ _ => hat, x.ss, fun _ => hv, by simp, fun h => absurd h h0, x.ep, x.wr⟩
    · rename_i h1 h2
      have ht : ¬ r.tries = 0 := by intro h; simp [h] at h2
      have := g.tr
      refine RK.begin (r := { r with tries := r.tries - 1 }) ⟨⟨g.us, g.of, g.k8, by simp; omega, g.at_, g.sn⟩, x.at_, x.ss, x.vn, x.ph, x.e0, x.ep, x.wr⟩ hv
theorem RK.step {r : RP} {H : Hall} (x : RK H.n r) (g : HG H) (n : Int) (ha : H.acts.length + 1 < 900000) :
    RK H.n (r.step H n).1 ∧ HG (r.step H n).2 ∧ (r.step H n).2.n = H.n ∧ (r.step H n).2.c = H.c ∧ (r.step H n).2.acts.length ≤ H.acts.length + 1 := by
  have rg := x.rg
  unfold RP.step
  split
  · exact ⟨x, g, rfl, rfl, Nat.le_succ _⟩
  rename_i hen
  have hen : r.enabled H = true := by simpa using hen
  have h8 : ¬ r.ph = 8 := fun h => by simp [RP.enabled, h] at hen
  split
  · rename_i h0
    exact ⟨⟨⟨rg.us, rg.of, rg.k8, rg.tr, rg.at_, rg.sn⟩, fun h => absurd rfl h, x.ss, fun _ => rfl, by simp, fun _ => .inr rfl, x.ep, x.wr⟩, g, rfl, rfl, Nat.le_succ _⟩
  rename_i h0
  have hat := x.at_ h8 h0
  have hs : r.s < H.n := by rw [RP.s_lt hat]; exact x.ss _ (List.getElem_mem _)
  have hv := x.vn h8
  have hw := x.wr
  have did : ∀ k p : Int, HG (H.did r.who k p) ∧ (H.did r.who k p).n = H.n ∧ (H.did r.who k p).c = H.c ∧ (H.did r.who k p).acts.length ≤ H.acts.length + 1 := fun k p => ⟨g.did _ _ _ ha, rfl, rfl, by simp [Hall.did]⟩
  unfold RP.go
  split
  · refine ⟨RK.next (r := { r with ep := epset r.ep r.at_ (H.ss r.s).v, spent := r.spent || decide (evn H.c.epochs ≤ (H.ss r.s).v) }) ⟨⟨rg.us, rg.of, rg.k8, rg.tr, rg.at_, rg.sn⟩, x.at_, x.ss, x.vn, x.ph, x.e0, fun i hi => ?_, x.wr⟩ h8 h0 (by omega), did _ _⟩
    simp only [epset]; split
    · exact (g.uv _ hs).1
    · exact x.ep i hi
  split
  · refine ⟨RK.next (r := { r with seen := seenset r.seen r.s (H.ss r.s).snap }) ⟨⟨rg.us, rg.of, rg.k8, rg.tr, rg.at_, fun i b h => ?_⟩, x.at_, x.ss, x.vn, x.ph, x.e0, x.ep, x.wr⟩ h8 h0 (by omega), did _ _⟩
    simp only [seenset] at h; split at h
    · cases h; exact (g.sn _ hs).1
    · exact rg.sn i b h
  split
  · exact ⟨⟨⟨rg.us, rg.of, rg.k8, rg.tr, rg.at_, rg.sn⟩, fun _ _ => hat, x.ss, fun _ => hv, by simp, fun h => absurd h h0, x.ep, x.wr⟩, did _ _⟩
  split
  · exact ⟨⟨⟨rg.us, rg.of, rg.k8, rg.tr, rg.at_, rg.sn⟩, fun _ _ => hat, x.ss, fun _ => hv, by simp, fun h => absurd h h0, x.ep, x.wr⟩, did _ _⟩
  split
  · have y : RK H.n { r with valid := r.valid && validB (r.ep r.at_) (H.ss r.s).v H.c.epochs } := ⟨⟨rg.us, rg.of, rg.k8, rg.tr, rg.at_, rg.sn⟩, x.at_, x.ss, x.vn, x.ph, x.e0, x.ep, x.wr⟩
    refine ⟨?_, did _ _⟩
    have yn := y.next h8 h0 (ph := 8) (by omega)
    show RK H.n (if RP.last { r with valid := r.valid && validB (r.ep r.at_) (H.ss r.s).v H.c.epochs } then RP.judge (RP.next { r with valid := r.valid && validB (r.ep r.at_) (H.ss r.s).v H.c.epochs } 8) else RP.next { r with valid := r.valid && validB (r.ep r.at_) (H.ss r.s).v H.c.epochs } 8)
    split
    · rename_i hl
      have hl' : (!decide (r.at_ + 1 < r.k)) = true := hl
      have hge : ¬ r.at_ + 1 < r.k := by simpa using hl'
      have e := RP.next_ge (p := { r with valid := r.valid && validB (r.ep r.at_) (H.ss r.s).v H.c.epochs }) (ph := 8) hge
      refine yn.judge (by rw [e]; exact h0) (by rw [e]; exact hv) (by rw [e]; show 0 < r.k; omega)
    · exact yn
  split
  · exact ⟨x.next h8 h0 (by omega), g.lock hs hw.2 ha, lock_n _ _ _⟩
  split
  · refine ⟨RK.next (r := { r with seen := seenset r.seen r.s (H.ss r.s).book }) ⟨⟨rg.us, rg.of, rg.k8, rg.tr, rg.at_, fun i b h => ?_⟩, x.at_, x.ss, x.vn, x.ph, x.e0, x.ep, x.wr⟩ h8 h0 (by omega), did _ _⟩
    simp only [seenset] at h; split at h
    · cases h; exact (g.sn _ hs).2
    · exact rg.sn i b h
  · refine ⟨?_, g.unlock hs ha, unlock_n _ _ _⟩
    have yn := x.next h8 h0 (ph := 8) (by omega)
    show RK H.n (if r.last then (r.next 8).answer else r.next 8)
    split
    · rename_i hl
      have hl' : (!decide (r.at_ + 1 < r.k)) = true := hl
      have hge : ¬ r.at_ + 1 < r.k := by simpa using hl'
      have e := RP.next_ge (p := r) (ph := 8) hge
      have := yn.answer (by rw [e]; exact h0) rfl (ph := 8)
      have e8 : (r.next 8).answer.ph = 8 := by rw [answer_ph, e]
      have ee : ∀ q : RP, q.ph = 8 → { q with ph := 8 } = q := fun q h => by cases q; simp at h; subst h; rfl
      rw [ee _ e8] at this
      exact this
    · exact yn
end Go.Den
namespace Go.Proofs.YtcnphhhcknhhaaaGreat
open Go Go.Den Go.MapKept
set_option linter.unusedSimpArgs false
set_option linter.unusedVariables false
set_option maxRecDepth 20000
def rpC (r : RP) (uv sv ev : Value) (mr : Nat) (vv : Value) : List Value := [.int .i64 r.who, uv, .int .i64 r.of, sv, .int .i64 r.ph, .int .i64 r.at_, .int .i64 r.tries, ev, .bool r.valid, .bool r.spent, .map (some mr),
  .int .u64 r.t.now, .int .u64 r.t.seq, .bool r.t.closed, .int .i64 r.looked, .int .i64 r.placed, .int .i64 r.err, vv, .slice none 0 0, .bool false]
def SeenR (F h : Heap) (mr : Nat) (s : Int → Option Book) : Prop := ∃ f, MapR (.int .i64) h mr f ∧ ∀ i : Int, match s i with
  | some b => ∃ a c, f (.int .i64 i) = some (.agg #[a, c]) ∧ BookR F a c b
  | none => f (.int .i64 i) = none
structure RPX (T : Tags) (h : Heap) (g : Tag) (p : Nat) (r : RP) (uv sv ev : Value) (mr : Nat) (vv : Value) : Prop where
  hp : h p = some (.cells (rpC r uv sv ev mr vv).toArray ty_read_Proc (0, 0))
  tp : T p = g ++ [0]
  us : Sl 1 StrR (fz T h) uv r.users
  ss : Sl 1 NatR (fz T h) sv r.ss
  ep : Rw T h (g ++ [1]) 1 ty_uint64 ev r.k (seqF r.k fun i => [.int .u64 (r.ep i)])
  mt : T mr = g ++ [2]
  sn : SeenR (fz T h) h mr r.seen
  vs : Sl 3 PresR (fz T h) vv r.vals
  vn : r.vals = [] → vv = .slice none 0 0
def RPR (T : Tags) (h : Heap) (g : Tag) (p : Nat) (r : RP) : Prop := ∃ uv sv ev mr vv, RPX T h g p r uv sv ev mr vv
theorem SeenR.kp {U : Tag → Prop} {T T' : Tags} {h h' : Heap} {g : Tag} {mr : Nat} {s : Int → Option Book} (x : SeenR (fz T h) h mr s) (k : Kp U T h T' h') (ht : T mr = g) (u : ¬ U g) (n : ¬ U []) : SeenR (fz T' h') h' mr s := by
  obtain ⟨f, m, hs⟩ := x
  obtain ⟨o, ho⟩ := m.lt
  refine ⟨f, m.of (by rw [(k.at ho ht u).1, ho]), fun i => ?_⟩
  have := hs i
  cases hsi : s i with
  | none => simpa [hsi] using this
  | some b => simp only [hsi] at this ⊢; obtain ⟨a, c, h1, h2⟩ := this; exact ⟨a, c, h1, h2.ext (k.ext n)⟩
theorem RPX.kp {U : Tag → Prop} {T T' : Tags} {h h' : Heap} {g : Tag} {p : Nat} {r : RP} {uv sv ev : Value} {mr : Nat} {vv : Value} (x : RPX T h g p r uv sv ev mr vv) (k : Kp U T h T' h') (o : Off U g) (n : ¬ U []) : RPX T' h' g p r uv sv ev mr vv := by
  obtain ⟨f, m, _⟩ := x.sn
  obtain ⟨om, hom⟩ := m.lt
  exact ⟨(k.at x.hp x.tp (o.at _)).1, (k.at x.hp x.tp (o.at _)).2, x.us.ext (@StrR.ext) (k.ext n), x.ss.ext (@NatR.ext) (k.ext n), x.ep.kp k (o.at _), (k.at hom x.mt (o.at _)).2, x.sn.kp k x.mt (o.at _) n,
    x.vs.ext (@PresR.ext) (k.ext n), x.vn⟩
theorem RPR.kp {U : Tag → Prop} {T T' : Tags} {h h' : Heap} {g : Tag} {p : Nat} {r : RP} (x : RPR T h g p r) (k : Kp U T h T' h') (o : Off U g) (n : ¬ U []) : RPR T' h' g p r := by
  obtain ⟨uv, sv, ev, mr, vv, x⟩ := x
  exact ⟨uv, sv, ev, mr, vv, x.kp k o n⟩
/-- The process's own block is written. -/
theorem RPX.st {T : Tags} {h : Heap} {g : Tag} {p : Nat} {r r' : RP} {uv sv ev : Value} {mr : Nat} {vv vv' : Value} (x : RPX T h g p r uv sv ev mr vv) (w : Wf T h) {c : Array Value} (hc : c = (rpC r' uv sv ev mr vv').toArray)
    (h1 : r'.users = r.users) (h2 : r'.ss = r.ss) (h3 : r'.ep = r.ep) (h4 : r'.seen = r.seen) (h5 : Sl 3 PresR (fz T h) vv' r'.vals) (h6 : r'.vals = [] → vv' = .slice none 0 0) :
    Only (fun t => t = g ++ [0]) T h T (upd h p (.cells c ty_read_Proc (0, 0))) ∧ RPX T (upd h p (.cells c ty_read_Proc (0, 0))) g p r' uv sv ev mr vv' := by
  have o1 : Only (fun t => t = g ++ [0]) T h T (upd h p (.cells c ty_read_Proc (0, 0))) := Only.upd w x.hp x.tp
  have e := o1.ext (by simp)
  have hk : r'.k = r.k := by simp [RP.k, h2]
  refine ⟨o1, by rw [upd_same', hc], x.tp, by rw [h1]; exact x.us.ext (@StrR.ext) e, by rw [h2]; exact x.ss.ext (@NatR.ext) e, by rw [hk, h3]; exact x.ep.kp o1.k (ne_tag (by simp)), x.mt, by rw [h4]; exact x.sn.kp o1.k x.mt (ne_tag (by simp)) (by simp), h5.ext (@PresR.ext) e, h6⟩
theorem mpSeen : mpC P ty_Map_int_omap_Map_string_doorman_book_Entry = some (ty_int, .int .i64, .agg #[.slice none 0 0, .slice none 0 0]) := by kernel_rfl
theorem RPX.cp {T : Tags} {h : Heap} {g : Tag} {p : Nat} {r : RP} {uv sv ev : Value} {mr : Nat} {vv : Value} (x : RPX T h g p r uv sv ev mr vv) : h p = some (.cells #[.int .i64 r.who, uv, .int .i64 r.of, sv, .int .i64 r.ph, .int .i64 r.at_, .int .i64 r.tries, ev, .bool r.valid, .bool r.spent, .map (some mr),
  .int .u64 r.t.now, .int .u64 r.t.seq, .bool r.t.closed, .int .i64 r.looked, .int .i64 r.placed, .int .i64 r.err, vv, .slice none 0 0, .bool false] ty_read_Proc (0, 0)) := x.hp
theorem RPX.fin {T : Tags} {h : Heap} {g : Tag} {p : Nat} {r : RP} {uv sv ev : Value} {mr : Nat} {vv : Value} (x : RPX T h g p r uv sv ev mr vv) (w : Wf T h) {r' : RP} {vv' v : Value} {c : Array Value} {K : Value → Heap → Prop}
    (hk : ∀ h', Only (pre g) T h T h' → RPR T h' g p r' → K v h') (hc : c = (rpC r' uv sv ev mr vv').toArray)
    (h1 : r'.users = r.users) (h2 : r'.ss = r.ss) (h3 : r'.ep = r.ep) (h4 : r'.seen = r.seen) (h5 : Sl 3 PresR (fz T h) vv' r'.vals) (h6 : r'.vals = [] → vv' = .slice none 0 0) : K v (upd h p (.cells c ty_read_Proc (0, 0))) := by
  obtain ⟨o1, x1⟩ := x.st w hc h1 h2 h3 h4 h5 h6
  exact hk _ (o1.mono fun t => eq_pre) ⟨uv, sv, ev, mr, vv', x1⟩
end Go.Proofs.YtcnphhhcknhhaaaGreat
namespace Go.Proofs.YtcnphhhcknhhaaaGreat
open Go Go.Den Go.MapKept
set_option linter.unusedSimpArgs false
set_option linter.unusedVariables false
set_option maxRecDepth 20000
def U03 (g t : Tag) : Prop := t = g ++ [0] ∨ t = g ++ [3]
theorem U03.pre {g t : Tag} (h : U03 g t) : Den.pre g t := by rcases h with rfl | rfl <;> exact pre_app _ _
theorem U03.nil (g : Tag) : ¬ U03 g [] := by rintro (h | h) <;> simp at h
theorem U03.n1 (g : Tag) : ¬ U03 g (g ++ [1]) := by rintro (h | h) <;> exact ne_tag (by simp) h
theorem U03.n2 (g : Tag) : ¬ U03 g (g ++ [2]) := by rintro (h | h) <;> exact ne_tag (by simp) h
end Go.Proofs.YtcnphhhcknhhaaaGreat
namespace Go.Proofs.YtcnphhhcknhhaaaGreat
open Go Go.Den Go.MapKept
set_option linter.unusedSimpArgs false
set_option linter.unusedVariables false
set_option maxRecDepth 20000
theorem RPX.up {T : Tags} {h : Heap} {g : Tag} {p : Nat} {r : RP} {uv sv ev : Value} {mr : Nat} {vv : Value} (x : RPX T h g p r uv sv ev mr vv) (w : Wf T h) {s : Int} {a c : Value} {b : Book} (hb : BookR (fz T h) a c b) {K : Heap → Prop}
    (hk : ∀ h', Only (fun t => t = g ++ [2]) T h T h' → RPX T h' g p { r with seen := seenset r.seen s b } uv sv ev mr vv → K h') :
    uM P (Instr.mapUpdate ty_Map_int_omap_Map_string_doorman_book_Entry (.map (some mr)) (.int .i64 s) (.agg #[a, c])) h K := by
  obtain ⟨f, m, hs⟩ := x.sn
  refine mapUpdate_u mpSeen (k := .int .i64 s) rfl m fun h' hk' m' => ?_
  obtain ⟨om, hom⟩ := m.lt
  obtain ⟨om', hom'⟩ := m'.lt
  have e : h' = upd h mr om' := upd_of hk' hom'
  have o1 : Only (fun t => t = g ++ [2]) T h T h' := by rw [e]; exact Only.upd w hom x.mt
  have e1 := o1.ext (by simp)
  refine hk h' o1 ⟨(o1.k.at x.hp x.tp (ne_tag (by simp))).1, x.tp, x.us.ext (@StrR.ext) e1, x.ss.ext (@NatR.ext) e1, x.ep.kp o1.k (ne_tag (by simp)), x.mt, ⟨_, m', fun i => ?_⟩, x.vs.ext (@PresR.ext) e1, x.vn⟩
  simp -implicitDefEqProofs only [seenset]
  by_cases his : i = s
  · subst his
    simp -implicitDefEqProofs only [if_true]
    exact ⟨a, c, mset_same _ _ _, hb.ext e1⟩
  · simp -implicitDefEqProofs only [if_neg his]
    have hne : (Value.int .i64 i) ≠ .int .i64 s := fun h => his (by simpa using h)
    have := hs i
    cases hsi : r.seen i with
    | none => simp only [hsi] at this ⊢; rw [mset_ne _ _ _ hne]; exact this
    | some b' => simp only [hsi] at this ⊢; obtain ⟨q1, q2, q3, q4⟩ := this; exact ⟨q1, q2, by rw [mset_ne _ _ _ hne]; exact q3, q4.ext e1⟩
end Go.Proofs.YtcnphhhcknhhaaaGreat
namespace Go.Proofs.YtcnphhhcknhhaaaGreat
open Go Go.Den Go.MapKept
set_option linter.unusedSimpArgs false
set_option linter.unusedVariables false
set_option maxRecDepth 20000
theorem cUnSess : P.underlying ty_Sl_api_Session = some (.slice ty_api_Session) := by kernel_rfl
theorem cApSess : apC P ty_api_Session = some (4, 32, 4) := by kernel_rfl
theorem cBsSess : bsI P ty_Sl_api_Session = some (ty_api_Session, 4, #[.int .i64 0, .int .i64 0, .int .i64 0, .int .u64 0]) := by kernel_rfl
theorem cZcSess : zc P ty_api_Session = some #[.int .i64 0, .int .i64 0, .int .i64 0, .int .u64 0] := by kernel_rfl
theorem cloneESess {v : Value} {n : Nat} {xs : List Value} {h : Heap} (x : SlC 4 h v n xs) (s : Sn v) (h1 : ∀ u ∈ xs, u.oneCell' = true) (hn : n < 10000000) {K : Value → Heap → Prop}
    (hk : ∀ v' h', Rf 4 ty_api_Session h h' v' n xs → K v' h') : callM P fn_slices_Clone_api_Session_api_Session #[v] h K := by
  apply e_slices_Clone_api_Session_api_Session
  unfold d_slices_Clone_api_Session_api_Session
  rcases x.nil_or s with ⟨rfl, rfl, rfl⟩ | ⟨a, c, rfl⟩
  · have e : binV .eql 7 true (.slice none 0 0) (.slice none 0 0) = some (.bool true) := rfl
    simp only [e, ov_s, cd_b, true_implies]
    exact ⟨hk _ _ (Rf.nil (Ext.refl h)), fun h => (by cases h)⟩
  · have e : binV .eql 7 true (.slice (some a) n c) (.slice none 0 0) = some (.bool false) := rfl
    simp only [e, ov_s, cd_b, true_implies]
    refine ⟨fun h => (by cases h), ?_⟩
    unfold d_slices_Clone_api_Session_api_Session_1
    refine bs_none cBsSess fun v2 h2 e2 r2 _ f2 => ?_
    have r : Rf 4 ty_api_Session h h2 v2 0 [] := ⟨e2, r2, f2, by simp⟩
    have x2 : SlC 4 h2 (.slice (some a) n c) n xs := by
      rcases x with ⟨h1, h2, h3⟩ | ⟨b, o, cap, h1, h2⟩
      · exact .inl ⟨h1, h2, h3⟩
      · exact .inr ⟨b, o, cap, h1, cels_ext e2 h2⟩
    refine r.app cUnSess cApSess (by omega) x2 h1 (by unfold maxLen; omega) (by omega) fun v' h' r' _ => hk v' h' ?_
    simpa using r'
theorem insESess {v : Value} {n i a : Nat} {xs : List Value} {x : Array Value} {ex : TypeId} {h0 h : Heap} (r : Rf 4 ty_api_Session h0 h v n xs) (hx : x.size = 4) (ha : h a = some (.cells x ex (0, 0))) (hra : rowOf v ≠ some a) (hi : i ≤ n) (hn : n < 10000000) (h1 : ∀ u ∈ x.toList, u.oneCell' = true) {K : Value → Heap → Prop}
    (hk : ∀ v' h', Rf 4 ty_api_Session h0 h' v' (n + 1) (xs.take (i * 4) ++ x.toList ++ xs.drop (i * 4)) → (∀ b o, h b = some o → rowOf v ≠ some b → h' b = some o) → K v' h') : callM P fn_slices_Insert_api_Session_api_Session #[v, .int .i64 i, .slice (some ⟨a, 0, none⟩) 1 1] h K := by
  apply e_slices_Insert_api_Session_api_Session
  unfold d_slices_Insert_api_Session_api_Session d_slices_Insert_api_Session_api_Session_1
  have hlen : lnV 7 v = some (.int .i64 n) := by rcases r.row.2 with ⟨rfl, rfl⟩ | ⟨_, _, _, rfl, _⟩ <;> rfl
  have hsl : ∃ y, slV (some (none, 4)) v (some (.int .i64 i)) none = some y := by
    have : 0 ≤ (i : Int) ∧ (i : Int) ≤ n := by omega
    rcases r.row.2 with ⟨rfl, rfl⟩ | ⟨_, _, _, rfl, _⟩ <;> simp only [slV, bnd, this, and_self, if_true] <;> exact ⟨_, rfl⟩
  obtain ⟨y, hsl⟩ := hsl
  have e1 : lnV 7 (.slice (some ⟨a, 0, none⟩) 1 1) = some (.int .i64 (1 : Nat)) := rfl
  have e2 : binV .eql 2 true (.int .i64 (1 : Nat)) (.int .i64 0) = some (.bool false) := rfl
  simp only [hsl, hlen, e1, e2, ov_s, cd_b, true_implies]
  refine ⟨fun h => (by cases h), ?_⟩
  have e3 : binV .eql 2 false (.int .i64 (i : Int)) (.int .i64 (n : Int)) = some (.bool (decide (i = n))) := by
    simp [Int.natCast_inj]
  simp only [e3, ov_s, cd_b]
  refine ⟨fun hin => ?_, fun hin => ?_⟩
  · have hin : i = n := by simpa using hin
    subst hin
    refine r.app cUnSess cApSess (by omega) (slc_one ha hx) h1 (by unfold maxLen; omega) (by omega) fun v' h' r' kb' => hk v' h' ?_ kb'
    have hl : xs.length = i * 4 := r.row.1
    rw [List.take_of_length_le (by omega), List.drop_eq_nil_of_le (by omega), List.append_nil]
    exact r'
  have hin : i < n := by have : ¬ i = n := by simpa using hin
                         omega
  obtain ⟨g, cap, cur, rfl, hg0, hg, hcap, hcm, hcs, hct⟩ := r.own (by omega)
  have hga : g ≠ a := fun e => hra (by simp [rowOf, e])
  unfold d_slices_Insert_api_Session_api_Session_2
  have w1 : IntKind.i64.wrap ((n : Int) + (1 : Nat)) = (n + 1 : Nat) := by rw [wrap64_id (by omega) (by omega)]; omega
  have hl : xs.length = n * 4 := r.row.1
  have hmul : n * 4 ≤ cap * 4 := Nat.mul_le_mul_right _ hcap
  simp only [bin_add, w1, ov_s]
  refine cap_vv cUnSess ?_
  unfold d_slices_Insert_api_Session_api_Session_3
  simp only [bin_gtr, ov_s, cd_b]
  have celx : ∀ o m, o + m ≤ n * 4 → cels h g o m = some ((xs.drop o).take m) := fun o m hom => r.row.cels rfl hom
  have one_take : ∀ o m, ∀ u ∈ (xs.drop o).take m, u.oneCell' = true := fun o m u hu => r.one u (List.mem_of_mem_drop (List.mem_of_mem_take hu))
  refine ⟨fun hgr => ?_, fun hgr => ?_⟩
  · -- there is no room
    have hgr : cap < n + 1 := by have : ((cap : Int) < (n + 1 : Nat)) := by simpa using hgr
                                 omega
    have s1 : slV (some (none, 4)) (.slice (some ⟨g, 0, none⟩) n cap) none (some (.int .i64 i)) = some (.slice (some ⟨g, 0, none⟩) i cap) := by
      have : (i : Int) ≤ cap := by omega
      simp [slV, bnd, this, Addr.add_lit, show ¬ cap = 0 by omega]
    have w2 : IntKind.i64.wrap (((n + 1 : Nat) : Int) - i) = (n + 1 - i : Nat) := by rw [wrap64_id (by omega) (by omega)]; omega
    unfold d_slices_Insert_api_Session_api_Session_4
    simp only [s1, bin_sub, bin_add, w1, w2, ov_s]
    have hii : i * 4 ≤ n * 4 := Nat.mul_le_mul_right _ (by omega)
    refine app_zeros (olds := xs.take (i * 4)) cUnSess (show P.underlying ty_int = some (.int .i64) by kernel_rfl) cApSess (by omega) (by have := celx 0 (i * 4) (by omega); simpa using this) (by omega) (by omega) (by unfold maxLen; omega) (by omega) fun b' cap' cur' hb' hc1 hc2 hc3 hc4 => ?_
    have ei : i + (n + 1 - i) = n + 1 := by omega
    rw [ei] at hc1 ⊢
    have hmul' : (n + 1) * 4 ≤ cap' * 4 := Nat.mul_le_mul_right _ hc1
    have hi1 : (i + 1) * 4 ≤ n * 4 := Nat.mul_le_mul_right _ hin
    have s2 : ∀ j : Nat, j ≤ n → slV (some (none, 4)) (.slice (some ⟨b', 0, none⟩) (n + 1) cap') (some (.int .i64 j)) none = some (.slice (some ⟨b', j * 4, none⟩) (n + 1 - j) (cap' - j)) := fun j hj => by
      have : (j : Int) ≤ (n + 1 : Nat) := by omega
      have h2 : ¬ cap' = j := by omega
      have h3 : (j : Int) ≤ (n : Int) + 1 := by omega
      simp [slV, bnd, h3, h2, Addr.add_lit]
    have s3 : slV (some (none, 4)) (.slice (some ⟨g, 0, none⟩) n cap) (some (.int .i64 i)) none = some (.slice (some ⟨g, i * 4, none⟩) (n - i) (cap - i)) := by
      have : (i : Int) ≤ n := by omega
      simp [slV, bnd, this, show ¬ cap = i by omega, Addr.add_lit]
    unfold d_slices_Insert_api_Session_api_Session_5
    simp only [s2 i (by omega), ov_s]
    have hb'a : a ≠ b' := fun e => by subst e; rw [hb'] at ha; cases ha
    have hb'g : g ≠ b' := fun e => by subst e; rw [hb'] at hg; cases hg
    have m1 : min 1 (n + 1 - i) = 1 := by omega
    refine copy_vv cUnSess cApSess (cs := x.toList) (upd_same' _ _ _) ?_ (by rw [m1, hc3]; omega) h1 ?_
    · rw [m1, cels_skip hb'a]
      exact cels_of ha (by rw [List.drop_zero, List.take_of_length_le (by rw [Array.length_toList, hx]; omega)]) (by simpa using hx)
    unfold d_slices_Insert_api_Session_api_Session_6
    have w3 : IntKind.i64.wrap ((i : Int) + (1 : Nat)) = (i + 1 : Nat) := by rw [wrap64_id (by omega) (by omega)]; omega
    simp only [bin_add, w3, s2 (i + 1) (by omega), s3, ov_s, upd_upd]
    have m2 : min (n - i) (n + 1 - (i + 1)) = n - i := by omega
    have e5 : i * 4 + (n - i) * 4 = n * 4 := by rw [← Nat.add_mul]; congr 1; omega
    have e6 : (i + 1) * 4 + (n - i) * 4 = (n + 1) * 4 := by rw [← Nat.add_mul]; congr 1; omega
    refine copy_vv cUnSess cApSess (cs := (xs.drop (i * 4)).take ((n - i) * 4)) (upd_same' _ _ _) ?_ (by rw [m2, over_size, hc3]; omega) (one_take _ _) ?_
    · rw [m2, cels_skip hb'g]
      exact celx _ _ (by omega)
    rw [upd_upd]
    have hb0 : h0 b' = none := fresh_of r.ex hb'
    have hdl : (xs.drop (i * 4)).take ((n - i) * 4) = xs.drop (i * 4) := List.take_of_length_le (by simp [hl] <;> omega)
    refine hk _ _ ⟨ext_upd hb0 r.ex, ⟨by simp [hl, hx] <;> omega, .inr ⟨b', cap', _, rfl, upd_same' _ _ _, hc1, hc2, by simp [over_size, hc3], ?_⟩⟩, fun b hb => by simp [rowOf] at hb; subst hb; exact hb0, fun u hu => ?_⟩ fun b o hb _ => by rw [upd_ne (fun hh => by rw [hh, hb'] at hb; cases hb)]; exact hb
    · rw [hdl]
      have l1 : (xs.drop (i * 4)).length = (n - i) * 4 := by simp [hl] <;> omega
      have cl : cur'.toList.length = cap' * 4 := by simpa using hc3
      rw [over_list (by rw [over_size, hc3, l1]; omega), over_list (by rw [hc3, Array.length_toList, hx]; omega)]
      have x1 : x.toList.length = 4 := by simpa using hx
      have e7 : spl cur'.toList (i * 4) x.toList = xs.take (i * 4) ++ x.toList ++ cur'.toList.drop (i * 4 + 4) := by
        unfold spl; rw [hc4, x1]
      have e8 : (i + 1) * 4 = (xs.take (i * 4) ++ x.toList).length := by simp [hl, hx] <;> omega
      have e9 : (xs.take (i * 4) ++ x.toList ++ xs.drop (i * 4)).length = (n + 1) * 4 := by simp [hl, hx] <;> omega
      rw [e7]
      unfold spl
      rw [e8, List.take_left, List.take_left' e9]
    · simp only [List.mem_append] at hu
      rcases hu with (hu | hu) | hu
      · exact r.one u (List.mem_of_mem_take hu)
      · exact h1 u hu
      · exact r.one u (List.mem_of_mem_drop hu)
  · -- there is room
    have hgr : n + 1 ≤ cap := by have : ¬ ((cap : Int) < (n + 1 : Nat)) := by simpa using hgr
                                 omega
    have hmul' : (n + 1) * 4 ≤ cap * 4 := Nat.mul_le_mul_right _ hgr
    have hi1 : (i + 1) * 4 ≤ n * 4 := Nat.mul_le_mul_right _ hin
    have s1 : slV (some (none, 4)) (.slice (some ⟨g, 0, none⟩) n cap) none (some (.int .i64 (n + 1 : Nat))) = some (.slice (some ⟨g, 0, none⟩) (n + 1) cap) := by
      have : ((n + 1 : Nat) : Int) ≤ cap := by omega
      have h3 : 0 ≤ (n : Int) + 1 ∧ (n : Int) + 1 ≤ cap := by omega
      simp [slV, bnd, h3, Addr.add_lit, show ¬ cap = 0 by omega]
    have w3 : IntKind.i64.wrap ((i : Int) + (1 : Nat)) = (i + 1 : Nat) := by rw [wrap64_id (by omega) (by omega)]; omega
    have s2 : ∀ j : Nat, j ≤ n → slV (some (none, 4)) (.slice (some ⟨g, 0, none⟩) (n + 1) cap) (some (.int .i64 j)) none = some (.slice (some ⟨g, j * 4, none⟩) (n + 1 - j) (cap - j)) := fun j hj => by
      have h2 : ¬ cap = j := by omega
      have h3 : (j : Int) ≤ (n : Int) + 1 := by omega
      simp [slV, bnd, h3, h2, Addr.add_lit]
    unfold d_slices_Insert_api_Session_api_Session_7
    simp only [bin_add, w1, w3, s1, s2 (i + 1) (by omega), ov_s]
    refine overlaps_nx (tS := ty_Sl_api_Session) (tR := ty_bool) (f := fn_slices_overlaps_api_Session) (by kernel_rfl) (by kernel_rfl) (by kernel_rfl) (by kernel_rfl) cUnSess cApSess (Ne.symm hga) ha hg (by rw [hcs]; omega) ?_
    unfold d_slices_Insert_api_Session_api_Session_8
    simp only [unV_n, ov_s, cd_b, Bool.not_false, true_implies]
    refine ⟨?_, fun h => (by cases h)⟩
    unfold d_slices_Insert_api_Session_api_Session_9
    simp only [bin_add, w3, s2 (i + 1) (by omega), s2 i (by omega), ov_s]
    have m2 : min (n + 1 - i) (n + 1 - (i + 1)) = n - i := by omega
    have e5 : i * 4 + (n - i) * 4 = n * 4 := by rw [← Nat.add_mul]; congr 1; omega
    have e6 : (i + 1) * 4 + (n - i) * 4 = (n + 1) * 4 := by rw [← Nat.add_mul]; congr 1; omega
    refine copy_vv cUnSess cApSess (cs := (xs.drop (i * 4)).take ((n - i) * 4)) hg ?_ (by rw [m2, hcs]; omega) (one_take _ _) ?_
    · rw [m2]; exact celx _ _ (by omega)
    try unfold d_slices_Insert_api_Session_api_Session_10
    try simp only [s2 i (by omega), ov_s]
    have m1 : min 1 (n + 1 - i) = 1 := by omega
    refine copy_vv cUnSess cApSess (cs := x.toList) (upd_same' _ _ _) ?_ (by rw [m1, over_size, hcs]; omega) h1 ?_
    · rw [m1, cels_skip (Ne.symm hga)]
      exact cels_of ha (by rw [List.drop_zero, List.take_of_length_le (by rw [Array.length_toList, hx]; omega)]) (by simpa using hx)
    rw [upd_upd]
    have hdl : (xs.drop (i * 4)).take ((n - i) * 4) = xs.drop (i * 4) := List.take_of_length_le (by simp [hl] <;> omega)
    refine hk _ _ ⟨ext_upd hg0 r.ex, ⟨by simp [hl, hx] <;> omega, .inr ⟨g, cap, _, rfl, upd_same' _ _ _, hgr, hcm, by simp [over_size, hcs], ?_⟩⟩, fun b hb => by simp [rowOf] at hb; subst hb; exact hg0, fun u hu => ?_⟩ fun b o hb hn => by rw [upd_ne (fun hh => hn (by rw [hh]; rfl))]; exact hb
    · rw [hdl]
      have l1 : (xs.drop (i * 4)).length = (n - i) * 4 := by simp [hl] <;> omega
      have cl : cur.toList.length = cap * 4 := by simpa using hcs
      have x1 : x.toList.length = 4 := by simpa using hx
      rw [over_list (by rw [over_size, hcs, x1]; omega), over_list (by rw [hcs, l1]; omega)]
      have e10 : cur.toList.take (i * 4) = xs.take (i * 4) := by rw [← hct, List.take_take, Nat.min_eq_left (by omega)]
      exact spl_ins e10 (by rw [x1]; omega) (by omega) (by rw [l1]; omega) (by omega)
    · simp only [List.mem_append] at hu
      rcases hu with (hu | hu) | hu
      · exact r.one u (List.mem_of_mem_take hu)
      · exact h1 u hu
      · exact r.one u (List.mem_of_mem_drop hu)
theorem delESess {v : Value} {n i : Nat} {xs : List Value} {h0 h : Heap} (r : Rf 4 ty_api_Session h0 h v n xs) (hi : i < n) (hn : n < 10000000) {K : Value → Heap → Prop}
    (hk : ∀ v' h', Rf 4 ty_api_Session h0 h' v' (n - 1) (xs.take (i * 4) ++ xs.drop ((i + 1) * 4)) → K v' h') : callM P fn_slices_Delete_api_Session_api_Session #[v, .int .i64 i, .int .i64 (i + 1 : Nat)] h K := by
  apply e_slices_Delete_api_Session_api_Session
  unfold d_slices_Delete_api_Session_api_Session
  obtain ⟨g, cap, cur, rfl, hg0, hg, hcap, hcm, hcs, hct⟩ := r.own (by omega)
  have hl : xs.length = n * 4 := r.row.1
  have hmul : n * 4 ≤ cap * 4 := Nat.mul_le_mul_right _ hcap
  have hi1 : (i + 1) * 4 ≤ n * 4 := Nat.mul_le_mul_right _ hi
  have hlen : lnV 7 (.slice (some ⟨g, 0, none⟩) n cap) = some (.int .i64 n) := rfl
  have s0 : ∃ y, sl3V (some (none, 4)) (.slice (some ⟨g, 0, none⟩) n cap) (some (.int .i64 i)) (.int .i64 (i + 1 : Nat)) (.int .i64 n) = some y := by
    have h1 : (n : Int) ≤ cap := by omega
    have h2 : (0 : Int) ≤ (i : Int) + 1 ∧ (i : Int) + 1 ≤ n := by omega
    have h3 : (i : Int) ≤ (i : Int) + 1 := by omega
    have h4 : i ≤ ((i : Int) + 1).toNat := by omega
    simp [sl3V, bnd, h1, h2, h3]
  obtain ⟨y, s0⟩ := s0
  have e3 : binV .eql 2 false (.int .i64 (i : Int)) (.int .i64 (i + 1 : Nat)) = some (.bool false) := by
    have : ¬ (i : Int) = (i + 1 : Nat) := by omega
    simp [-Int.natCast_add, this]
  simp only [hlen, s0, e3, ov_s, cd_b, true_implies]
  refine ⟨fun h => (by cases h), ?_⟩
  unfold d_slices_Delete_api_Session_api_Session_1
  have s1 : slV (some (none, 4)) (.slice (some ⟨g, 0, none⟩) n cap) none (some (.int .i64 i)) = some (.slice (some ⟨g, 0, none⟩) i cap) := by
    have : (i : Int) ≤ cap := by omega
    simp [slV, bnd, this, Addr.add_lit, show ¬ cap = 0 by omega]
  have s2 : ∃ q, slV (some (none, 4)) (.slice (some ⟨g, 0, none⟩) n cap) (some (.int .i64 (i + 1 : Nat))) none = some (.slice (some ⟨g, q, none⟩) (n - (i + 1)) (cap - (i + 1))) ∧ cels h g q ((n - (i + 1)) * 4) = some (xs.drop ((i + 1) * 4)) := by
    have h3 : (0 : Int) ≤ (i : Int) + 1 ∧ (i : Int) + 1 ≤ n := by omega
    have h4 : ((i : Int) + 1).toNat = i + 1 := by omega
    by_cases hc : cap = i + 1
    · refine ⟨0, by simp [slV, bnd, h3, h4, hc, show n = i + 1 by omega], ?_⟩
      have : n - (i + 1) = 0 := by omega
      rw [this, List.drop_eq_nil_of_le (by rw [hl]; have : n = i + 1 := by omega
                                           subst this; omega)]
      simp [cels]
    · refine ⟨(i + 1) * 4, by simp [slV, bnd, h3, h4, hc, Addr.add_lit], ?_⟩
      have e5 : (i + 1) * 4 + (n - (i + 1)) * 4 = n * 4 := by rw [← Nat.add_mul]; congr 1; omega
      rw [r.row.cels (g := g) rfl (by omega), List.take_of_length_le (by simp [hl] <;> omega)]
  obtain ⟨q, s2, s3⟩ := s2
  simp only [hlen, s1, s2, ov_s]
  have e5 : i * 4 + (n - (i + 1)) * 4 = (n - 1) * 4 := by rw [← Nat.add_mul]; congr 1; omega
  have e6 : (n - 1) * 4 ≤ n * 4 := Nat.mul_le_mul_right _ (by omega)
  refine app_fit cUnSess cApSess hg s3 (by rw [hcs]; omega) (by omega) (fun u hu => r.one u (List.mem_of_mem_drop hu)) ?_
  unfold d_slices_Delete_api_Session_api_Session_2
  have e7 : i + (n - (i + 1)) = n - 1 := by omega
  rw [e7]
  have s4 : slV (some (none, 4)) (.slice (some ⟨g, 0, none⟩) (n - 1) cap) (some (.int .i64 (n - 1 : Nat))) (some (.int .i64 n)) = some (.slice (some ⟨g, (n - 1) * 4, none⟩) (n - (n - 1)) (cap - (n - 1))) := by
    have h1 : (n : Int) ≤ cap := by omega
    have h2 : ((n - 1 : Nat) : Int) ≤ n := by omega
    simp [slV, bnd, h1, h2, show ¬ cap = n - 1 by omega, Addr.add_lit]
  have hlen2 : lnV 7 (.slice (some ⟨g, 0, none⟩) (n - 1) cap) = some (.int .i64 (n - 1 : Nat)) := rfl
  simp only [hlen2, s4, ov_s]
  have l1 : (xs.drop ((i + 1) * 4)).length = (n - (i + 1)) * 4 := by rw [List.length_drop, hl, ← Nat.sub_mul]
  have l2 : (xs.take (i * 4)).length = i * 4 := by rw [List.length_take, hl]; omega
  have e8 : (n - 1) * 4 + (n - (n - 1)) * 4 = n * 4 := by rw [← Nat.add_mul]; congr 1; omega
  have cl : cur.toList.length = cap * 4 := by simpa using hcs
  have e9 : (over cur (0 + i * 4) (xs.drop ((i + 1) * 4))).toList = xs.take (i * 4) ++ xs.drop ((i + 1) * 4) ++ cur.toList.drop (0 + i * 4 + (n - (i + 1)) * 4) := by
    rw [over_list (by rw [hcs, l1]; omega)]
    unfold spl
    rw [l1]
    congr 2
    rw [← hct, List.take_take, Nat.min_eq_left (by omega), Nat.zero_add]
  have e10 : (xs.take (i * 4) ++ xs.drop ((i + 1) * 4)).length = (n - 1) * 4 := by rw [List.length_append, l1, l2, e5]
  refine clear_vv cUnSess cApSess (fun z hz => by rw [cZcSess] at hz; cases hz; rfl) (by omega) (upd_same' _ _ _) (by rw [over_size, hcs]; omega) (fun hz => by omega) fun cs hcs' => ?_
  rw [upd_upd]
  refine hk _ _ ⟨ext_upd hg0 r.ex, ⟨e10, .inr ⟨g, cap, _, rfl, upd_same' _ _ _, by omega, hcm, by simp [over_size, hcs], ?_⟩⟩, fun b hb => by simp [rowOf] at hb; subst hb; exact hg0, fun u hu => ?_⟩
  · rw [over_list (by rw [over_size, hcs, hcs']; omega), e9]
    unfold spl
    rw [List.append_assoc ((xs.take (i * 4) ++ xs.drop ((i + 1) * 4) ++ _).take _), List.take_append_of_le_length (by rw [List.length_take]; simp only [List.length_append, List.length_drop, l1, l2, cl]; omega), List.take_take, Nat.min_self]
    exact List.take_left' e10
  · simp only [List.mem_append] at hu
    rcases hu with hu | hu
    · exact r.one u (List.mem_of_mem_take hu)
    · exact r.one u (List.mem_of_mem_drop hu)
theorem cUnStr : P.underlying ty_Sl_string = some (.slice ty_string) := by kernel_rfl
theorem cApStr : apC P ty_string = some (1, 16, 1) := by kernel_rfl
theorem cBsStr : bsI P ty_Sl_string = some (ty_string, 1, #[.string ⟨#[]⟩]) := by kernel_rfl
theorem cZcStr : zc P ty_string = some #[.string ⟨#[]⟩] := by kernel_rfl
theorem cloneEStr {v : Value} {n : Nat} {xs : List Value} {h : Heap} (x : SlC 1 h v n xs) (s : Sn v) (h1 : ∀ u ∈ xs, u.oneCell' = true) (hn : n < 10000000) {K : Value → Heap → Prop}
    (hk : ∀ v' h', Rf 1 ty_string h h' v' n xs → K v' h') : callM P fn_slices_Clone_string_string #[v] h K := by
  apply e_slices_Clone_string_string
  unfold d_slices_Clone_string_string
  rcases x.nil_or s with ⟨rfl, rfl, rfl⟩ | ⟨a, c, rfl⟩
  · have e : binV .eql 7 true (.slice none 0 0) (.slice none 0 0) = some (.bool true) := rfl
    simp only [e, ov_s, cd_b, true_implies]
    exact ⟨hk _ _ (Rf.nil (Ext.refl h)), fun h => (by cases h)⟩
  · have e : binV .eql 7 true (.slice (some a) n c) (.slice none 0 0) = some (.bool false) := rfl
    simp only [e, ov_s, cd_b, true_implies]
    refine ⟨fun h => (by cases h), ?_⟩

    refine bs_none cBsStr fun v2 h2 e2 r2 _ f2 => ?_
    have r : Rf 1 ty_string h h2 v2 0 [] := ⟨e2, r2, f2, by simp⟩
    have x2 : SlC 1 h2 (.slice (some a) n c) n xs := by
      rcases x with ⟨h1, h2, h3⟩ | ⟨b, o, cap, h1, h2⟩
      · exact .inl ⟨h1, h2, h3⟩
      · exact .inr ⟨b, o, cap, h1, cels_ext e2 h2⟩
    refine r.app cUnStr cApStr (by omega) x2 h1 (by unfold maxLen; omega) (by omega) fun v' h' r' _ => hk v' h' ?_
    simpa using r'
theorem insEStr {v : Value} {n i a : Nat} {xs : List Value} {x : Array Value} {ex : TypeId} {h0 h : Heap} (r : Rf 1 ty_string h0 h v n xs) (hx : x.size = 1) (ha : h a = some (.cells x ex (0, 0))) (hra : rowOf v ≠ some a) (hi : i ≤ n) (hn : n < 10000000) (h1 : ∀ u ∈ x.toList, u.oneCell' = true) {K : Value → Heap → Prop}
    (hk : ∀ v' h', Rf 1 ty_string h0 h' v' (n + 1) (xs.take (i * 1) ++ x.toList ++ xs.drop (i * 1)) → (∀ b o, h b = some o → rowOf v ≠ some b → h' b = some o) → K v' h') : callM P fn_slices_Insert_string_string #[v, .int .i64 i, .slice (some ⟨a, 0, none⟩) 1 1] h K := by
  apply e_slices_Insert_string_string
  unfold d_slices_Insert_string_string d_slices_Insert_string_string_1
  have hlen : lnV 7 v = some (.int .i64 n) := by rcases r.row.2 with ⟨rfl, rfl⟩ | ⟨_, _, _, rfl, _⟩ <;> rfl
  have hsl : ∃ y, slV (some (none, 1)) v (some (.int .i64 i)) none = some y := by
    have : 0 ≤ (i : Int) ∧ (i : Int) ≤ n := by omega
    rcases r.row.2 with ⟨rfl, rfl⟩ | ⟨_, _, _, rfl, _⟩ <;> simp only [slV, bnd, this, and_self, if_true] <;> exact ⟨_, rfl⟩
  obtain ⟨y, hsl⟩ := hsl
  have e1 : lnV 7 (.slice (some ⟨a, 0, none⟩) 1 1) = some (.int .i64 (1 : Nat)) := rfl
  have e2 : binV .eql 2 true (.int .i64 (1 : Nat)) (.int .i64 0) = some (.bool false) := rfl
  simp only [hsl, hlen, e1, e2, ov_s, cd_b, true_implies]
  refine ⟨fun h => (by cases h), ?_⟩
  have e3 : binV .eql 2 false (.int .i64 (i : Int)) (.int .i64 (n : Int)) = some (.bool (decide (i = n))) := by
    simp [Int.natCast_inj]
  simp only [e3, ov_s, cd_b]
  refine ⟨fun hin => ?_, fun hin => ?_⟩
  · have hin : i = n := by simpa using hin
    subst hin
    refine r.app cUnStr cApStr (by omega) (slc_one ha hx) h1 (by unfold maxLen; omega) (by omega) fun v' h' r' kb' => hk v' h' ?_ kb'
    have hl : xs.length = i * 1 := r.row.1
    rw [List.take_of_length_le (by omega), List.drop_eq_nil_of_le (by omega), List.append_nil]
    exact r'
  have hin : i < n := by have : ¬ i = n := by simpa using hin
                         omega
  obtain ⟨g, cap, cur, rfl, hg0, hg, hcap, hcm, hcs, hct⟩ := r.own (by omega)
  have hga : g ≠ a := fun e => hra (by simp [rowOf, e])
  unfold d_slices_Insert_string_string_2
  have w1 : IntKind.i64.wrap ((n : Int) + (1 : Nat)) = (n + 1 : Nat) := by rw [wrap64_id (by omega) (by omega)]; omega
  have hl : xs.length = n * 1 := r.row.1
  have hmul : n * 1 ≤ cap * 1 := Nat.mul_le_mul_right _ hcap
  simp only [bin_add, w1, ov_s]
  refine cap_vv cUnStr ?_
  unfold d_slices_Insert_string_string_3
  simp only [bin_gtr, ov_s, cd_b]
  have celx : ∀ o m, o + m ≤ n * 1 → cels h g o m = some ((xs.drop o).take m) := fun o m hom => r.row.cels rfl hom
  have one_take : ∀ o m, ∀ u ∈ (xs.drop o).take m, u.oneCell' = true := fun o m u hu => r.one u (List.mem_of_mem_drop (List.mem_of_mem_take hu))
  refine ⟨fun hgr => ?_, fun hgr => ?_⟩
  · -- there is no room
    have hgr : cap < n + 1 := by have : ((cap : Int) < (n + 1 : Nat)) := by simpa using hgr
                                 omega
    have s1 : slV (some (none, 1)) (.slice (some ⟨g, 0, none⟩) n cap) none (some (.int .i64 i)) = some (.slice (some ⟨g, 0, none⟩) i cap) := by
      have : (i : Int) ≤ cap := by omega
      simp [slV, bnd, this, Addr.add_lit, show ¬ cap = 0 by omega]
    have w2 : IntKind.i64.wrap (((n + 1 : Nat) : Int) - i) = (n + 1 - i : Nat) := by rw [wrap64_id (by omega) (by omega)]; omega
    unfold d_slices_Insert_string_string_4
    simp only [s1, bin_sub, bin_add, w1, w2, ov_s]
    have hii : i * 1 ≤ n * 1 := Nat.mul_le_mul_right _ (by omega)
    refine app_zeros (olds := xs.take (i * 1)) cUnStr (show P.underlying ty_int = some (.int .i64) by kernel_rfl) cApStr (by omega) (by have := celx 0 (i * 1) (by omega); simpa using this) (by omega) (by omega) (by unfold maxLen; omega) (by omega) fun b' cap' cur' hb' hc1 hc2 hc3 hc4 => ?_
    have ei : i + (n + 1 - i) = n + 1 := by omega
    rw [ei] at hc1 ⊢
    have hmul' : (n + 1) * 1 ≤ cap' * 1 := Nat.mul_le_mul_right _ hc1
    have hi1 : (i + 1) * 1 ≤ n * 1 := Nat.mul_le_mul_right _ hin
    have s2 : ∀ j : Nat, j ≤ n → slV (some (none, 1)) (.slice (some ⟨b', 0, none⟩) (n + 1) cap') (some (.int .i64 j)) none = some (.slice (some ⟨b', j * 1, none⟩) (n + 1 - j) (cap' - j)) := fun j hj => by
      have : (j : Int) ≤ (n + 1 : Nat) := by omega
      have h2 : ¬ cap' = j := by omega
      have h3 : (j : Int) ≤ (n : Int) + 1 := by omega
      simp [slV, bnd, h3, h2, Addr.add_lit]
    have s3 : slV (some (none, 1)) (.slice (some ⟨g, 0, none⟩) n cap) (some (.int .i64 i)) none = some (.slice (some ⟨g, i * 1, none⟩) (n - i) (cap - i)) := by
      have : (i : Int) ≤ n := by omega
      simp [slV, bnd, this, show ¬ cap = i by omega, Addr.add_lit]
    unfold d_slices_Insert_string_string_5
    simp only [s2 i (by omega), ov_s]
    have hb'a : a ≠ b' := fun e => by subst e; rw [hb'] at ha; cases ha
    have hb'g : g ≠ b' := fun e => by subst e; rw [hb'] at hg; cases hg
    have m1 : min 1 (n + 1 - i) = 1 := by omega
    refine copy_vv cUnStr cApStr (cs := x.toList) (upd_same' _ _ _) ?_ (by rw [m1, hc3]; omega) h1 ?_
    · rw [m1, cels_skip hb'a]
      exact cels_of ha (by rw [List.drop_zero, List.take_of_length_le (by rw [Array.length_toList, hx]; omega)]) (by simpa using hx)
    unfold d_slices_Insert_string_string_6
    have w3 : IntKind.i64.wrap ((i : Int) + (1 : Nat)) = (i + 1 : Nat) := by rw [wrap64_id (by omega) (by omega)]; omega
    simp only [bin_add, w3, s2 (i + 1) (by omega), s3, ov_s, upd_upd]
    have m2 : min (n - i) (n + 1 - (i + 1)) = n - i := by omega
    have e5 : i * 1 + (n - i) * 1 = n * 1 := by rw [← Nat.add_mul]; congr 1; omega
    have e6 : (i + 1) * 1 + (n - i) * 1 = (n + 1) * 1 := by rw [← Nat.add_mul]; congr 1; omega
    refine copy_vv cUnStr cApStr (cs := (xs.drop (i * 1)).take ((n - i) * 1)) (upd_same' _ _ _) ?_ (by rw [m2, over_size, hc3]; omega) (one_take _ _) ?_
    · rw [m2, cels_skip hb'g]
      exact celx _ _ (by omega)
    rw [upd_upd]
    have hb0 : h0 b' = none := fresh_of r.ex hb'
    have hdl : (xs.drop (i * 1)).take ((n - i) * 1) = xs.drop (i * 1) := List.take_of_length_le (by simp [hl] <;> omega)
    refine hk _ _ ⟨ext_upd hb0 r.ex, ⟨by simp [hl, hx] <;> omega, .inr ⟨b', cap', _, rfl, upd_same' _ _ _, hc1, hc2, by simp [over_size, hc3], ?_⟩⟩, fun b hb => by simp [rowOf] at hb; subst hb; exact hb0, fun u hu => ?_⟩ fun b o hb _ => by rw [upd_ne (fun hh => by rw [hh, hb'] at hb; cases hb)]; exact hb
    · rw [hdl]
      have l1 : (xs.drop (i * 1)).length = (n - i) * 1 := by simp [hl] <;> omega
      have cl : cur'.toList.length = cap' * 1 := by simpa using hc3
      rw [over_list (by rw [over_size, hc3, l1]; omega), over_list (by rw [hc3, Array.length_toList, hx]; omega)]
      have x1 : x.toList.length = 1 := by simpa using hx
      have e7 : spl cur'.toList (i * 1) x.toList = xs.take (i * 1) ++ x.toList ++ cur'.toList.drop (i * 1 + 1) := by
        unfold spl; rw [hc4, x1]
      have e8 : (i + 1) * 1 = (xs.take (i * 1) ++ x.toList).length := by simp [hl, hx] <;> omega
      have e9 : (xs.take (i * 1) ++ x.toList ++ xs.drop (i * 1)).length = (n + 1) * 1 := by simp [hl, hx] <;> omega
      rw [e7]
      unfold spl
      rw [e8, List.take_left, List.take_left' e9]
    · simp only [List.mem_append] at hu
      rcases hu with (hu | hu) | hu
      · exact r.one u (List.mem_of_mem_take hu)
      · exact h1 u hu
      · exact r.one u (List.mem_of_mem_drop hu)
  · -- there is room
    have hgr : n + 1 ≤ cap := by have : ¬ ((cap : Int) < (n + 1 : Nat)) := by simpa using hgr
                                 omega
    have hmul' : (n + 1) * 1 ≤ cap * 1 := Nat.mul_le_mul_right _ hgr
    have hi1 : (i + 1) * 1 ≤ n * 1 := Nat.mul_le_mul_right _ hin
    have s1 : slV (some (none, 1)) (.slice (some ⟨g, 0, none⟩) n cap) none (some (.int .i64 (n + 1 : Nat))) = some (.slice (some ⟨g, 0, none⟩) (n + 1) cap) := by
      have : ((n + 1 : Nat) : Int) ≤ cap := by omega
      have h3 : 0 ≤ (n : Int) + 1 ∧ (n : Int) + 1 ≤ cap := by omega
      simp [slV, bnd, h3, Addr.add_lit, show ¬ cap = 0 by omega]
    have w3 : IntKind.i64.wrap ((i : Int) + (1 : Nat)) = (i + 1 : Nat) := by rw [wrap64_id (by omega) (by omega)]; omega
    have s2 : ∀ j : Nat, j ≤ n → slV (some (none, 1)) (.slice (some ⟨g, 0, none⟩) (n + 1) cap) (some (.int .i64 j)) none = some (.slice (some ⟨g, j * 1, none⟩) (n + 1 - j) (cap - j)) := fun j hj => by
      have h2 : ¬ cap = j := by omega
      have h3 : (j : Int) ≤ (n : Int) + 1 := by omega
      simp [slV, bnd, h3, h2, Addr.add_lit]
    unfold d_slices_Insert_string_string_7
    simp only [bin_add, w1, w3, s1, s2 (i + 1) (by omega), ov_s]
    refine overlaps_nx (tS := ty_Sl_string) (tR := ty_bool) (f := fn_slices_overlaps_string) (by kernel_rfl) (by kernel_rfl) (by kernel_rfl) (by kernel_rfl) cUnStr cApStr (Ne.symm hga) ha hg (by rw [hcs]; omega) ?_
    unfold d_slices_Insert_string_string_8
    simp only [unV_n, ov_s, cd_b, Bool.not_false, true_implies]
    refine ⟨?_, fun h => (by cases h)⟩
    unfold d_slices_Insert_string_string_9
    simp only [bin_add, w3, s2 (i + 1) (by omega), s2 i (by omega), ov_s]
    have m2 : min (n + 1 - i) (n + 1 - (i + 1)) = n - i := by omega
    have e5 : i * 1 + (n - i) * 1 = n * 1 := by rw [← Nat.add_mul]; congr 1; omega
    have e6 : (i + 1) * 1 + (n - i) * 1 = (n + 1) * 1 := by rw [← Nat.add_mul]; congr 1; omega
    refine copy_vv cUnStr cApStr (cs := (xs.drop (i * 1)).take ((n - i) * 1)) hg ?_ (by rw [m2, hcs]; omega) (one_take _ _) ?_
    · rw [m2]; exact celx _ _ (by omega)
    try unfold d_slices_Insert_string_string_10
    try simp only [s2 i (by omega), ov_s]
    have m1 : min 1 (n + 1 - i) = 1 := by omega
    refine copy_vv cUnStr cApStr (cs := x.toList) (upd_same' _ _ _) ?_ (by rw [m1, over_size, hcs]; omega) h1 ?_
    · rw [m1, cels_skip (Ne.symm hga)]
      exact cels_of ha (by rw [List.drop_zero, List.take_of_length_le (by rw [Array.length_toList, hx]; omega)]) (by simpa using hx)
    rw [upd_upd]
    have hdl : (xs.drop (i * 1)).take ((n - i) * 1) = xs.drop (i * 1) := List.take_of_length_le (by simp [hl] <;> omega)
    refine hk _ _ ⟨ext_upd hg0 r.ex, ⟨by simp [hl, hx] <;> omega, .inr ⟨g, cap, _, rfl, upd_same' _ _ _, hgr, hcm, by simp [over_size, hcs], ?_⟩⟩, fun b hb => by simp [rowOf] at hb; subst hb; exact hg0, fun u hu => ?_⟩ fun b o hb hn => by rw [upd_ne (fun hh => hn (by rw [hh]; rfl))]; exact hb
    · rw [hdl]
      have l1 : (xs.drop (i * 1)).length = (n - i) * 1 := by simp [hl] <;> omega
      have cl : cur.toList.length = cap * 1 := by simpa using hcs
      have x1 : x.toList.length = 1 := by simpa using hx
      rw [over_list (by rw [over_size, hcs, x1]; omega), over_list (by rw [hcs, l1]; omega)]
      have e10 : cur.toList.take (i * 1) = xs.take (i * 1) := by rw [← hct, List.take_take, Nat.min_eq_left (by omega)]
      exact spl_ins e10 (by rw [x1]; omega) (by omega) (by rw [l1]; omega) (by omega)
    · simp only [List.mem_append] at hu
      rcases hu with (hu | hu) | hu
      · exact r.one u (List.mem_of_mem_take hu)
      · exact h1 u hu
      · exact r.one u (List.mem_of_mem_drop hu)
theorem delEStr {v : Value} {n i : Nat} {xs : List Value} {h0 h : Heap} (r : Rf 1 ty_string h0 h v n xs) (hi : i < n) (hn : n < 10000000) {K : Value → Heap → Prop}
    (hk : ∀ v' h', Rf 1 ty_string h0 h' v' (n - 1) (xs.take (i * 1) ++ xs.drop ((i + 1) * 1)) → K v' h') : callM P fn_slices_Delete_string_string #[v, .int .i64 i, .int .i64 (i + 1 : Nat)] h K := by
  apply e_slices_Delete_string_string
  unfold d_slices_Delete_string_string
  obtain ⟨g, cap, cur, rfl, hg0, hg, hcap, hcm, hcs, hct⟩ := r.own (by omega)
  have hl : xs.length = n * 1 := r.row.1
  have hmul : n * 1 ≤ cap * 1 := Nat.mul_le_mul_right _ hcap
  have hi1 : (i + 1) * 1 ≤ n * 1 := Nat.mul_le_mul_right _ hi
  have hlen : lnV 7 (.slice (some ⟨g, 0, none⟩) n cap) = some (.int .i64 n) := rfl
  have s0 : ∃ y, sl3V (some (none, 1)) (.slice (some ⟨g, 0, none⟩) n cap) (some (.int .i64 i)) (.int .i64 (i + 1 : Nat)) (.int .i64 n) = some y := by
    have h1 : (n : Int) ≤ cap := by omega
    have h2 : (0 : Int) ≤ (i : Int) + 1 ∧ (i : Int) + 1 ≤ n := by omega
    have h3 : (i : Int) ≤ (i : Int) + 1 := by omega
    have h4 : i ≤ ((i : Int) + 1).toNat := by omega
    simp [sl3V, bnd, h1, h2, h3]
  obtain ⟨y, s0⟩ := s0
  have e3 : binV .eql 2 false (.int .i64 (i : Int)) (.int .i64 (i + 1 : Nat)) = some (.bool false) := by
    have : ¬ (i : Int) = (i + 1 : Nat) := by omega
    simp [-Int.natCast_add, this]
  simp only [hlen, s0, e3, ov_s, cd_b, true_implies]
  refine ⟨fun h => (by cases h), ?_⟩
  unfold d_slices_Delete_string_string_1
  have s1 : slV (some (none, 1)) (.slice (some ⟨g, 0, none⟩) n cap) none (some (.int .i64 i)) = some (.slice (some ⟨g, 0, none⟩) i cap) := by
    have : (i : Int) ≤ cap := by omega
    simp [slV, bnd, this, Addr.add_lit, show ¬ cap = 0 by omega]
  have s2 : ∃ q, slV (some (none, 1)) (.slice (some ⟨g, 0, none⟩) n cap) (some (.int .i64 (i + 1 : Nat))) none = some (.slice (some ⟨g, q, none⟩) (n - (i + 1)) (cap - (i + 1))) ∧ cels h g q ((n - (i + 1)) * 1) = some (xs.drop ((i + 1) * 1)) := by
    have h3 : (0 : Int) ≤ (i : Int) + 1 ∧ (i : Int) + 1 ≤ n := by omega
    have h4 : ((i : Int) + 1).toNat = i + 1 := by omega
    by_cases hc : cap = i + 1
    · refine ⟨0, by simp [slV, bnd, h3, h4, hc, show n = i + 1 by omega], ?_⟩
      have : n - (i + 1) = 0 := by omega
      rw [this, List.drop_eq_nil_of_le (by rw [hl]; have : n = i + 1 := by omega
                                           subst this; omega)]
      simp [cels]
    · refine ⟨(i + 1) * 1, by simp [slV, bnd, h3, h4, hc, Addr.add_lit], ?_⟩
      have e5 : (i + 1) * 1 + (n - (i + 1)) * 1 = n * 1 := by rw [← Nat.add_mul]; congr 1; omega
      rw [r.row.cels (g := g) rfl (by omega), List.take_of_length_le (by simp [hl] <;> omega)]
  obtain ⟨q, s2, s3⟩ := s2
  simp only [hlen, s1, s2, ov_s]
  have e5 : i * 1 + (n - (i + 1)) * 1 = (n - 1) * 1 := by rw [← Nat.add_mul]; congr 1; omega
  have e6 : (n - 1) * 1 ≤ n * 1 := Nat.mul_le_mul_right _ (by omega)
  refine app_fit cUnStr cApStr hg s3 (by rw [hcs]; omega) (by omega) (fun u hu => r.one u (List.mem_of_mem_drop hu)) ?_
  unfold d_slices_Delete_string_string_2
  have e7 : i + (n - (i + 1)) = n - 1 := by omega
  rw [e7]
  have s4 : slV (some (none, 1)) (.slice (some ⟨g, 0, none⟩) (n - 1) cap) (some (.int .i64 (n - 1 : Nat))) (some (.int .i64 n)) = some (.slice (some ⟨g, (n - 1) * 1, none⟩) (n - (n - 1)) (cap - (n - 1))) := by
    have h1 : (n : Int) ≤ cap := by omega
    have h2 : ((n - 1 : Nat) : Int) ≤ n := by omega
    simp [slV, bnd, h1, h2, show ¬ cap = n - 1 by omega, Addr.add_lit]
  have hlen2 : lnV 7 (.slice (some ⟨g, 0, none⟩) (n - 1) cap) = some (.int .i64 (n - 1 : Nat)) := rfl
  simp only [hlen2, s4, ov_s]
  have l1 : (xs.drop ((i + 1) * 1)).length = (n - (i + 1)) * 1 := by rw [List.length_drop, hl, ← Nat.sub_mul]
  have l2 : (xs.take (i * 1)).length = i * 1 := by rw [List.length_take, hl]; omega
  have e8 : (n - 1) * 1 + (n - (n - 1)) * 1 = n * 1 := by rw [← Nat.add_mul]; congr 1; omega
  have cl : cur.toList.length = cap * 1 := by simpa using hcs
  have e9 : (over cur (0 + i * 1) (xs.drop ((i + 1) * 1))).toList = xs.take (i * 1) ++ xs.drop ((i + 1) * 1) ++ cur.toList.drop (0 + i * 1 + (n - (i + 1)) * 1) := by
    rw [over_list (by rw [hcs, l1]; omega)]
    unfold spl
    rw [l1]
    congr 2
    rw [← hct, List.take_take, Nat.min_eq_left (by omega), Nat.zero_add]
  have e10 : (xs.take (i * 1) ++ xs.drop ((i + 1) * 1)).length = (n - 1) * 1 := by rw [List.length_append, l1, l2, e5]
  refine clear_vv cUnStr cApStr (fun z hz => by rw [cZcStr] at hz; cases hz; rfl) (by omega) (upd_same' _ _ _) (by rw [over_size, hcs]; omega) (fun hz => by omega) fun cs hcs' => ?_
  rw [upd_upd]
  refine hk _ _ ⟨ext_upd hg0 r.ex, ⟨e10, .inr ⟨g, cap, _, rfl, upd_same' _ _ _, by omega, hcm, by simp [over_size, hcs], ?_⟩⟩, fun b hb => by simp [rowOf] at hb; subst hb; exact hg0, fun u hu => ?_⟩
  · rw [over_list (by rw [over_size, hcs, hcs']; omega), e9]
    unfold spl
    rw [List.append_assoc ((xs.take (i * 1) ++ xs.drop ((i + 1) * 1) ++ _).take _), List.take_append_of_le_length (by rw [List.length_take]; simp only [List.length_append, List.length_drop, l1, l2, cl]; omega), List.take_take, Nat.min_self]
    exact List.take_left' e10
  · simp only [List.mem_append] at hu
    rcases hu with hu | hu
    · exact r.one u (List.mem_of_mem_take hu)
    · exact r.one u (List.mem_of_mem_drop hu)
theorem cUnEnt : P.underlying ty_Sl_book_Entry = some (.slice ty_book_Entry) := by kernel_rfl
theorem cApEnt : apC P ty_book_Entry = some (4, 48, 4) := by kernel_rfl
theorem cBsEnt : bsI P ty_Sl_book_Entry = some (ty_book_Entry, 4, #[.slice none 0 0, .int .i64 0, .int .i64 0, .int .i64 0]) := by kernel_rfl
theorem cZcEnt : zc P ty_book_Entry = some #[.slice none 0 0, .int .i64 0, .int .i64 0, .int .i64 0] := by kernel_rfl
theorem cloneEEnt {v : Value} {n : Nat} {xs : List Value} {h : Heap} (x : SlC 4 h v n xs) (s : Sn v) (h1 : ∀ u ∈ xs, u.oneCell' = true) (hn : n < 10000000) {K : Value → Heap → Prop}
    (hk : ∀ v' h', Rf 4 ty_book_Entry h h' v' n xs → K v' h') : callM P fn_slices_Clone_book_Entry_book_Entry #[v] h K := by
  apply e_slices_Clone_book_Entry_book_Entry
  unfold d_slices_Clone_book_Entry_book_Entry
  rcases x.nil_or s with ⟨rfl, rfl, rfl⟩ | ⟨a, c, rfl⟩
  · have e : binV .eql 7 true (.slice none 0 0) (.slice none 0 0) = some (.bool true) := rfl
    simp only [e, ov_s, cd_b, true_implies]
    exact ⟨hk _ _ (Rf.nil (Ext.refl h)), fun h => (by cases h)⟩
  · have e : binV .eql 7 true (.slice (some a) n c) (.slice none 0 0) = some (.bool false) := rfl
    simp only [e, ov_s, cd_b, true_implies]
    refine ⟨fun h => (by cases h), ?_⟩
    unfold d_slices_Clone_book_Entry_book_Entry_1
    refine bs_none cBsEnt fun v2 h2 e2 r2 _ f2 => ?_
    have r : Rf 4 ty_book_Entry h h2 v2 0 [] := ⟨e2, r2, f2, by simp⟩
    have x2 : SlC 4 h2 (.slice (some a) n c) n xs := by
      rcases x with ⟨h1, h2, h3⟩ | ⟨b, o, cap, h1, h2⟩
      · exact .inl ⟨h1, h2, h3⟩
      · exact .inr ⟨b, o, cap, h1, cels_ext e2 h2⟩
    refine r.app cUnEnt cApEnt (by omega) x2 h1 (by unfold maxLen; omega) (by omega) fun v' h' r' _ => hk v' h' ?_
    simpa using r'
theorem insEEnt {v : Value} {n i a : Nat} {xs : List Value} {x : Array Value} {ex : TypeId} {h0 h : Heap} (r : Rf 4 ty_book_Entry h0 h v n xs) (hx : x.size = 4) (ha : h a = some (.cells x ex (0, 0))) (hra : rowOf v ≠ some a) (hi : i ≤ n) (hn : n < 10000000) (h1 : ∀ u ∈ x.toList, u.oneCell' = true) {K : Value → Heap → Prop}
    (hk : ∀ v' h', Rf 4 ty_book_Entry h0 h' v' (n + 1) (xs.take (i * 4) ++ x.toList ++ xs.drop (i * 4)) → (∀ b o, h b = some o → rowOf v ≠ some b → h' b = some o) → K v' h') : callM P fn_slices_Insert_book_Entry_book_Entry #[v, .int .i64 i, .slice (some ⟨a, 0, none⟩) 1 1] h K := by
  apply e_slices_Insert_book_Entry_book_Entry
  unfold d_slices_Insert_book_Entry_book_Entry d_slices_Insert_book_Entry_book_Entry_1
  have hlen : lnV 7 v = some (.int .i64 n) := by rcases r.row.2 with ⟨rfl, rfl⟩ | ⟨_, _, _, rfl, _⟩ <;> rfl
  have hsl : ∃ y, slV (some (none, 4)) v (some (.int .i64 i)) none = some y := by
    have : 0 ≤ (i : Int) ∧ (i : Int) ≤ n := by omega
    rcases r.row.2 with ⟨rfl, rfl⟩ | ⟨_, _, _, rfl, _⟩ <;> simp only [slV, bnd, this, and_self, if_true] <;> exact ⟨_, rfl⟩
  obtain ⟨y, hsl⟩ := hsl
  have e1 : lnV 7 (.slice (some ⟨a, 0, none⟩) 1 1) = some (.int .i64 (1 : Nat)) := rfl
  have e2 : binV .eql 2 true (.int .i64 (1 : Nat)) (.int .i64 0) = some (.bool false) := rfl
  simp only [hsl, hlen, e1, e2, ov_s, cd_b, true_implies]
  refine ⟨fun h => (by cases h), ?_⟩
  have e3 : binV .eql 2 false (.int .i64 (i : Int)) (.int .i64 (n : Int)) = some (.bool (decide (i = n))) := by
    simp [Int.natCast_inj]
  simp only [e3, ov_s, cd_b]
  refine ⟨fun hin => ?_, fun hin => ?_⟩
  · have hin : i = n := by simpa using hin
    subst hin
    refine r.app cUnEnt cApEnt (by omega) (slc_one ha hx) h1 (by unfold maxLen; omega) (by omega) fun v' h' r' kb' => hk v' h' ?_ kb'
    have hl : xs.length = i * 4 := r.row.1
    rw [List.take_of_length_le (by omega), List.drop_eq_nil_of_le (by omega), List.append_nil]
    exact r'
  have hin : i < n := by have : ¬ i = n := by simpa using hin
                         omega
  obtain ⟨g, cap, cur, rfl, hg0, hg, hcap, hcm, hcs, hct⟩ := r.own (by omega)
  have hga : g ≠ a := fun e => hra (by simp [rowOf, e])
  unfold d_slices_Insert_book_Entry_book_Entry_2
  have w1 : IntKind.i64.wrap ((n : Int) + (1 : Nat)) = (n + 1 : Nat) := by rw [wrap64_id (by omega) (by omega)]; omega
  have hl : xs.length = n * 4 := r.row.1
  have hmul : n * 4 ≤ cap * 4 := Nat.mul_le_mul_right _ hcap
  simp only [bin_add, w1, ov_s]
  refine cap_vv cUnEnt ?_
  unfold d_slices_Insert_book_Entry_book_Entry_3
  simp only [bin_gtr, ov_s, cd_b]
  have celx : ∀ o m, o + m ≤ n * 4 → cels h g o m = some ((xs.drop o).take m) := fun o m hom => r.row.cels rfl hom
  have one_take : ∀ o m, ∀ u ∈ (xs.drop o).take m, u.oneCell' = true := fun o m u hu => r.one u (List.mem_of_mem_drop (List.mem_of_mem_take hu))
  refine ⟨fun hgr => ?_, fun hgr => ?_⟩
  · -- there is no room
    have hgr : cap < n + 1 := by have : ((cap : Int) < (n + 1 : Nat)) := by simpa using hgr
                                 omega
    have s1 : slV (some (none, 4)) (.slice (some ⟨g, 0, none⟩) n cap) none (some (.int .i64 i)) = some (.slice (some ⟨g, 0, none⟩) i cap) := by
      have : (i : Int) ≤ cap := by omega
      simp [slV, bnd, this, Addr.add_lit, show ¬ cap = 0 by omega]
    have w2 : IntKind.i64.wrap (((n + 1 : Nat) : Int) - i) = (n + 1 - i : Nat) := by rw [wrap64_id (by omega) (by omega)]; omega
    unfold d_slices_Insert_book_Entry_book_Entry_4
    simp only [s1, bin_sub, bin_add, w1, w2, ov_s]
    have hii : i * 4 ≤ n * 4 := Nat.mul_le_mul_right _ (by omega)
    refine app_zeros (olds := xs.take (i * 4)) cUnEnt (show P.underlying ty_int = some (.int .i64) by kernel_rfl) cApEnt (by omega) (by have := celx 0 (i * 4) (by omega); simpa using this) (by omega) (by omega) (by unfold maxLen; omega) (by omega) fun b' cap' cur' hb' hc1 hc2 hc3 hc4 => ?_
    have ei : i + (n + 1 - i) = n + 1 := by omega
    rw [ei] at hc1 ⊢
    have hmul' : (n + 1) * 4 ≤ cap' * 4 := Nat.mul_le_mul_right _ hc1
    have hi1 : (i + 1) * 4 ≤ n * 4 := Nat.mul_le_mul_right _ hin
    have s2 : ∀ j : Nat, j ≤ n → slV (some (none, 4)) (.slice (some ⟨b', 0, none⟩) (n + 1) cap') (some (.int .i64 j)) none = some (.slice (some ⟨b', j * 4, none⟩) (n + 1 - j) (cap' - j)) := fun j hj => by
      have : (j : Int) ≤ (n + 1 : Nat) := by omega
      have h2 : ¬ cap' = j := by omega
      have h3 : (j : Int) ≤ (n : Int) + 1 := by omega
      simp [slV, bnd, h3, h2, Addr.add_lit]
    have s3 : slV (some (none, 4)) (.slice (some ⟨g, 0, none⟩) n cap) (some (.int .i64 i)) none = some (.slice (some ⟨g, i * 4, none⟩) (n - i) (cap - i)) := by
      have : (i : Int) ≤ n := by omega
      simp [slV, bnd, this, show ¬ cap = i by omega, Addr.add_lit]
    unfold d_slices_Insert_book_Entry_book_Entry_5
    simp only [s2 i (by omega), ov_s]
    have hb'a : a ≠ b' := fun e => by subst e; rw [hb'] at ha; cases ha
    have hb'g : g ≠ b' := fun e => by subst e; rw [hb'] at hg; cases hg
    have m1 : min 1 (n + 1 - i) = 1 := by omega
    refine copy_vv cUnEnt cApEnt (cs := x.toList) (upd_same' _ _ _) ?_ (by rw [m1, hc3]; omega) h1 ?_
    · rw [m1, cels_skip hb'a]
      exact cels_of ha (by rw [List.drop_zero, List.take_of_length_le (by rw [Array.length_toList, hx]; omega)]) (by simpa using hx)
    unfold d_slices_Insert_book_Entry_book_Entry_6
    have w3 : IntKind.i64.wrap ((i : Int) + (1 : Nat)) = (i + 1 : Nat) := by rw [wrap64_id (by omega) (by omega)]; omega
    simp only [bin_add, w3, s2 (i + 1) (by omega), s3, ov_s, upd_upd]
    have m2 : min (n - i) (n + 1 - (i + 1)) = n - i := by omega
    have e5 : i * 4 + (n - i) * 4 = n * 4 := by rw [← Nat.add_mul]; congr 1; omega
    have e6 : (i + 1) * 4 + (n - i) * 4 = (n + 1) * 4 := by rw [← Nat.add_mul]; congr 1; omega
    refine copy_vv cUnEnt cApEnt (cs := (xs.drop (i * 4)).take ((n - i) * 4)) (upd_same' _ _ _) ?_ (by rw [m2, over_size, hc3]; omega) (one_take _ _) ?_
    · rw [m2, cels_skip hb'g]
      exact celx _ _ (by omega)
    rw [upd_upd]
    have hb0 : h0 b' = none := fresh_of r.ex hb'
    have hdl : (xs.drop (i * 4)).take ((n - i) * 4) = xs.drop (i * 4) := List.take_of_length_le (by simp [hl] <;> omega)
    refine hk _ _ ⟨ext_upd hb0 r.ex, ⟨by simp [hl, hx] <;> omega, .inr ⟨b', cap', _, rfl, upd_same' _ _ _, hc1, hc2, by simp [over_size, hc3], ?_⟩⟩, fun b hb => by simp [rowOf] at hb; subst hb; exact hb0, fun u hu => ?_⟩ fun b o hb _ => by rw [upd_ne (fun hh => by rw [hh, hb'] at hb; cases hb)]; exact hb
    · rw [hdl]
      have l1 : (xs.drop (i * 4)).length = (n - i) * 4 := by simp [hl] <;> omega
      have cl : cur'.toList.length = cap' * 4 := by simpa using hc3
      rw [over_list (by rw [over_size, hc3, l1]; omega), over_list (by rw [hc3, Array.length_toList, hx]; omega)]
      have x1 : x.toList.length = 4 := by simpa using hx
      have e7 : spl cur'.toList (i * 4) x.toList = xs.take (i * 4) ++ x.toList ++ cur'.toList.drop (i * 4 + 4) := by
        unfold spl; rw [hc4, x1]
      have e8 : (i + 1) * 4 = (xs.take (i * 4) ++ x.toList).length := by simp [hl, hx] <;> omega
      have e9 : (xs.take (i * 4) ++ x.toList ++ xs.drop (i * 4)).length = (n + 1) * 4 := by simp [hl, hx] <;> omega
      rw [e7]
      unfold spl
      rw [e8, List.take_left, List.take_left' e9]
    · simp only [List.mem_append] at hu
      rcases hu with (hu | hu) | hu
      · exact r.one u (List.mem_of_mem_take hu)
      · exact h1 u hu
      · exact r.one u (List.mem_of_mem_drop hu)
  · -- there is room
    have hgr : n + 1 ≤ cap := by have : ¬ ((cap : Int) < (n + 1 : Nat)) := by simpa using hgr
                                 omega
    have hmul' : (n + 1) * 4 ≤ cap * 4 := Nat.mul_le_mul_right _ hgr
    have hi1 : (i + 1) * 4 ≤ n * 4 := Nat.mul_le_mul_right _ hin
    have s1 : slV (some (none, 4)) (.slice (some ⟨g, 0, none⟩) n cap) none (some (.int .i64 (n + 1 : Nat))) = some (.slice (some ⟨g, 0, none⟩) (n + 1) cap) := by
      have : ((n + 1 : Nat) : Int) ≤ cap := by omega
      have h3 : 0 ≤ (n : Int) + 1 ∧ (n : Int) + 1 ≤ cap := by omega
      simp [slV, bnd, h3, Addr.add_lit, show ¬ cap = 0 by omega]
    have w3 : IntKind.i64.wrap ((i : Int) + (1 : Nat)) = (i + 1 : Nat) := by rw [wrap64_id (by omega) (by omega)]; omega
    have s2 : ∀ j : Nat, j ≤ n → slV (some (none, 4)) (.slice (some ⟨g, 0, none⟩) (n + 1) cap) (some (.int .i64 j)) none = some (.slice (some ⟨g, j * 4, none⟩) (n + 1 - j) (cap - j)) := fun j hj => by
      have h2 : ¬ cap = j := by omega
      have h3 : (j : Int) ≤ (n : Int) + 1 := by omega
      simp [slV, bnd, h3, h2, Addr.add_lit]
    unfold d_slices_Insert_book_Entry_book_Entry_7
    simp only [bin_add, w1, w3, s1, s2 (i + 1) (by omega), ov_s]
    refine overlaps_nx (tS := ty_Sl_book_Entry) (tR := ty_bool) (f := fn_slices_overlaps_book_Entry) (by kernel_rfl) (by kernel_rfl) (by kernel_rfl) (by kernel_rfl) cUnEnt cApEnt (Ne.symm hga) ha hg (by rw [hcs]; omega) ?_
    unfold d_slices_Insert_book_Entry_book_Entry_8
    simp only [unV_n, ov_s, cd_b, Bool.not_false, true_implies]
    refine ⟨?_, fun h => (by cases h)⟩
    unfold d_slices_Insert_book_Entry_book_Entry_9
    simp only [bin_add, w3, s2 (i + 1) (by omega), s2 i (by omega), ov_s]
    have m2 : min (n + 1 - i) (n + 1 - (i + 1)) = n - i := by omega
    have e5 : i * 4 + (n - i) * 4 = n * 4 := by rw [← Nat.add_mul]; congr 1; omega
    have e6 : (i + 1) * 4 + (n - i) * 4 = (n + 1) * 4 := by rw [← Nat.add_mul]; congr 1; omega
    refine copy_vv cUnEnt cApEnt (cs := (xs.drop (i * 4)).take ((n - i) * 4)) hg ?_ (by rw [m2, hcs]; omega) (one_take _ _) ?_
    · rw [m2]; exact celx _ _ (by omega)
    try unfold d_slices_Insert_book_Entry_book_Entry_10
    try simp only [s2 i (by omega), ov_s]
    have m1 : min 1 (n + 1 - i) = 1 := by omega
    refine copy_vv cUnEnt cApEnt (cs := x.toList) (upd_same' _ _ _) ?_ (by rw [m1, over_size, hcs]; omega) h1 ?_
    · rw [m1, cels_skip (Ne.symm hga)]
      exact cels_of ha (by rw [List.drop_zero, List.take_of_length_le (by rw [Array.length_toList, hx]; omega)]) (by simpa using hx)
    rw [upd_upd]
    have hdl : (xs.drop (i * 4)).take ((n - i) * 4) = xs.drop (i * 4) := List.take_of_length_le (by simp [hl] <;> omega)
    refine hk _ _ ⟨ext_upd hg0 r.ex, ⟨by simp [hl, hx] <;> omega, .inr ⟨g, cap, _, rfl, upd_same' _ _ _, hgr, hcm, by simp [over_size, hcs], ?_⟩⟩, fun b hb => by simp [rowOf] at hb; subst hb; exact hg0, fun u hu => ?_⟩ fun b o hb hn => by rw [upd_ne (fun hh => hn (by rw [hh]; rfl))]; exact hb
    · rw [hdl]
      have l1 : (xs.drop (i * 4)).length = (n - i) * 4 := by simp [hl] <;> omega
      have cl : cur.toList.length = cap * 4 := by simpa using hcs
      have x1 : x.toList.length = 4 := by simpa using hx
      rw [over_list (by rw [over_size, hcs, x1]; omega), over_list (by rw [hcs, l1]; omega)]
      have e10 : cur.toList.take (i * 4) = xs.take (i * 4) := by rw [← hct, List.take_take, Nat.min_eq_left (by omega)]
      exact spl_ins e10 (by rw [x1]; omega) (by omega) (by rw [l1]; omega) (by omega)
    · simp only [List.mem_append] at hu
      rcases hu with (hu | hu) | hu
      · exact r.one u (List.mem_of_mem_take hu)
      · exact h1 u hu
      · exact r.one u (List.mem_of_mem_drop hu)
theorem delEEnt {v : Value} {n i : Nat} {xs : List Value} {h0 h : Heap} (r : Rf 4 ty_book_Entry h0 h v n xs) (hi : i < n) (hn : n < 10000000) {K : Value → Heap → Prop}
    (hk : ∀ v' h', Rf 4 ty_book_Entry h0 h' v' (n - 1) (xs.take (i * 4) ++ xs.drop ((i + 1) * 4)) → K v' h') : callM P fn_slices_Delete_book_Entry_book_Entry #[v, .int .i64 i, .int .i64 (i + 1 : Nat)] h K := by
  apply e_slices_Delete_book_Entry_book_Entry
  unfold d_slices_Delete_book_Entry_book_Entry
  obtain ⟨g, cap, cur, rfl, hg0, hg, hcap, hcm, hcs, hct⟩ := r.own (by omega)
  have hl : xs.length = n * 4 := r.row.1
  have hmul : n * 4 ≤ cap * 4 := Nat.mul_le_mul_right _ hcap
  have hi1 : (i + 1) * 4 ≤ n * 4 := Nat.mul_le_mul_right _ hi
  have hlen : lnV 7 (.slice (some ⟨g, 0, none⟩) n cap) = some (.int .i64 n) := rfl
  have s0 : ∃ y, sl3V (some (none, 4)) (.slice (some ⟨g, 0, none⟩) n cap) (some (.int .i64 i)) (.int .i64 (i + 1 : Nat)) (.int .i64 n) = some y := by
    have h1 : (n : Int) ≤ cap := by omega
    have h2 : (0 : Int) ≤ (i : Int) + 1 ∧ (i : Int) + 1 ≤ n := by omega
    have h3 : (i : Int) ≤ (i : Int) + 1 := by omega
    have h4 : i ≤ ((i : Int) + 1).toNat := by omega
    simp [sl3V, bnd, h1, h2, h3]
  obtain ⟨y, s0⟩ := s0
  have e3 : binV .eql 2 false (.int .i64 (i : Int)) (.int .i64 (i + 1 : Nat)) = some (.bool false) := by
    have : ¬ (i : Int) = (i + 1 : Nat) := by omega
    simp [-Int.natCast_add, this]
  simp only [hlen, s0, e3, ov_s, cd_b, true_implies]
  refine ⟨fun h => (by cases h), ?_⟩
  unfold d_slices_Delete_book_Entry_book_Entry_1
  have s1 : slV (some (none, 4)) (.slice (some ⟨g, 0, none⟩) n cap) none (some (.int .i64 i)) = some (.slice (some ⟨g, 0, none⟩) i cap) := by
    have : (i : Int) ≤ cap := by omega
    simp [slV, bnd, this, Addr.add_lit, show ¬ cap = 0 by omega]
  have s2 : ∃ q, slV (some (none, 4)) (.slice (some ⟨g, 0, none⟩) n cap) (some (.int .i64 (i + 1 : Nat))) none = some (.slice (some ⟨g, q, none⟩) (n - (i + 1)) (cap - (i + 1))) ∧ cels h g q ((n - (i + 1)) * 4) = some (xs.drop ((i + 1) * 4)) := by
    have h3 : (0 : Int) ≤ (i : Int) + 1 ∧ (i : Int) + 1 ≤ n := by omega
    have h4 : ((i : Int) + 1).toNat = i + 1 := by omega
    by_cases hc : cap = i + 1
    · refine ⟨0, by simp [slV, bnd, h3, h4, hc, show n = i + 1 by omega], ?_⟩
      have : n - (i + 1) = 0 := by omega
      rw [this, List.drop_eq_nil_of_le (by rw [hl]; have : n = i + 1 := by omega
                                           subst this; omega)]
      simp [cels]
    · refine ⟨(i + 1) * 4, by simp [slV, bnd, h3, h4, hc, Addr.add_lit], ?_⟩
      have e5 : (i + 1) * 4 + (n - (i + 1)) * 4 = n * 4 := by rw [← Nat.add_mul]; congr 1; omega
      rw [r.row.cels (g := g) rfl (by omega), List.take_of_length_le (by simp [hl] <;> omega)]
  obtain ⟨q, s2, s3⟩ := s2
  simp only [hlen, s1, s2, ov_s]
  have e5 : i * 4 + (n - (i + 1)) * 4 = (n - 1) * 4 := by rw [← Nat.add_mul]; congr 1; omega
  have e6 : (n - 1) * 4 ≤ n * 4 := Nat.mul_le_mul_right _ (by omega)
  refine app_fit cUnEnt cApEnt hg s3 (by rw [hcs]; omega) (by omega) (fun u hu => r.one u (List.mem_of_mem_drop hu)) ?_
  unfold d_slices_Delete_book_Entry_book_Entry_2
  have e7 : i + (n - (i + 1)) = n - 1 := by omega
  rw [e7]
  have s4 : slV (some (none, 4)) (.slice (some ⟨g, 0, none⟩) (n - 1) cap) (some (.int .i64 (n - 1 : Nat))) (some (.int .i64 n)) = some (.slice (some ⟨g, (n - 1) * 4, none⟩) (n - (n - 1)) (cap - (n - 1))) := by
    have h1 : (n : Int) ≤ cap := by omega
    have h2 : ((n - 1 : Nat) : Int) ≤ n := by omega
    simp [slV, bnd, h1, h2, show ¬ cap = n - 1 by omega, Addr.add_lit]
  have hlen2 : lnV 7 (.slice (some ⟨g, 0, none⟩) (n - 1) cap) = some (.int .i64 (n - 1 : Nat)) := rfl
  simp only [hlen2, s4, ov_s]
  have l1 : (xs.drop ((i + 1) * 4)).length = (n - (i + 1)) * 4 := by rw [List.length_drop, hl, ← Nat.sub_mul]
  have l2 : (xs.take (i * 4)).length = i * 4 := by rw [List.length_take, hl]; omega
  have e8 : (n - 1) * 4 + (n - (n - 1)) * 4 = n * 4 := by rw [← Nat.add_mul]; congr 1; omega
  have cl : cur.toList.length = cap * 4 := by simpa using hcs
  have e9 : (over cur (0 + i * 4) (xs.drop ((i + 1) * 4))).toList = xs.take (i * 4) ++ xs.drop ((i + 1) * 4) ++ cur.toList.drop (0 + i * 4 + (n - (i + 1)) * 4) := by
    rw [over_list (by rw [hcs, l1]; omega)]
    unfold spl
    rw [l1]
    congr 2
    rw [← hct, List.take_take, Nat.min_eq_left (by omega), Nat.zero_add]
  have e10 : (xs.take (i * 4) ++ xs.drop ((i + 1) * 4)).length = (n - 1) * 4 := by rw [List.length_append, l1, l2, e5]
  refine clear_vv cUnEnt cApEnt (fun z hz => by rw [cZcEnt] at hz; cases hz; rfl) (by omega) (upd_same' _ _ _) (by rw [over_size, hcs]; omega) (fun hz => by omega) fun cs hcs' => ?_
  rw [upd_upd]
  refine hk _ _ ⟨ext_upd hg0 r.ex, ⟨e10, .inr ⟨g, cap, _, rfl, upd_same' _ _ _, by omega, hcm, by simp [over_size, hcs], ?_⟩⟩, fun b hb => by simp [rowOf] at hb; subst hb; exact hg0, fun u hu => ?_⟩
  · rw [over_list (by rw [over_size, hcs, hcs']; omega), e9]
    unfold spl
    rw [List.append_assoc ((xs.take (i * 4) ++ xs.drop ((i + 1) * 4) ++ _).take _), List.take_append_of_le_length (by rw [List.length_take]; simp only [List.length_append, List.length_drop, l1, l2, cl]; omega), List.take_take, Nat.min_self]
    exact List.take_left' e10
  · simp only [List.mem_append] at hu
    rcases hu with hu | hu
    · exact r.one u (List.mem_of_mem_take hu)
    · exact r.one u (List.mem_of_mem_drop hu)
end Go.Proofs.YtcnphhhcknhhaaaGreat
namespace Go.Den
open Go
set_option linter.unusedVariables false
set_option linter.unusedSimpArgs false
structure El {α : Type} (sz : Nat) (R : Heap → List Value → α → Prop) (h : Heap) (L : List (List Value)) (ys : List α) : Prop where
  len : L.length = ys.length
  size : ∀ c ∈ L, c.length = sz
  one : ∀ c ∈ L, ∀ u ∈ c, u.oneCell' = true
  el : ∀ i (h1 : i < L.length) (h2 : i < ys.length), R h L[i] ys[i]
section
variable {α : Type} {sz : Nat} {R : Heap → List Value → α → Prop} {h h' : Heap} {L M : List (List Value)} {ys zs : List α}
theorem El.nil : El sz R h [] ([] : List α) := ⟨rfl, by simp, by simp, fun i h => by simp at h⟩
theorem El.ext (hR : ∀ {h h' c x}, Ext h h' → R h c x → R h' c x) (e : Ext h h') (x : El sz R h L ys) : El sz R h' L ys := ⟨x.len, x.size, x.one, fun i h1 h2 => hR e (x.el i h1 h2)⟩
theorem El.take (x : El sz R h L ys) (i : Nat) : El sz R h (L.take i) (ys.take i) :=
  ⟨by simp [x.len], fun c hc => x.size c (List.mem_of_mem_take hc), fun c hc => x.one c (List.mem_of_mem_take hc), fun k h1 h2 => by
    rw [List.getElem_take, List.getElem_take]; exact x.el k _ _⟩
theorem El.drop (x : El sz R h L ys) (i : Nat) : El sz R h (L.drop i) (ys.drop i) :=
  ⟨by simp [x.len], fun c hc => x.size c (List.mem_of_mem_drop hc), fun c hc => x.one c (List.mem_of_mem_drop hc), fun k h1 h2 => by
    rw [List.getElem_drop, List.getElem_drop]; exact x.el _ _ _⟩
theorem El.app (x : El sz R h L ys) (y : El sz R h M zs) : El sz R h (L ++ M) (ys ++ zs) := by
  refine ⟨by simp [x.len, y.len], fun c hc => ?_, fun c hc => ?_, fun i h1 h2 => ?_⟩
  · rcases List.mem_append.1 hc with hc | hc
    · exact x.size c hc
    · exact y.size c hc
  · rcases List.mem_append.1 hc with hc | hc
    · exact x.one c hc
    · exact y.one c hc
  · by_cases hi : i < L.length
    · have hi' : i < ys.length := by rw [← x.len]; exact hi
      rw [List.getElem_append_left hi, List.getElem_append_left hi']; exact x.el i hi hi'
    · have hi' : ¬ i < ys.length := by rw [← x.len]; exact hi
      rw [List.getElem_append_right (by omega), List.getElem_append_right (by omega)]
      have hl := x.len
      simp only [← hl]
      exact y.el (i - L.length) (by simp at h1; omega) (by simp at h2; omega)
theorem El.sing {c : List Value} {y : α} (h1 : c.length = sz) (h2 : ∀ u ∈ c, u.oneCell' = true) (h3 : R h c y) : El sz R h [c] [y] :=
  ⟨rfl, by simpa using h1, by simpa using h2, fun i (k1 : i < 1) k2 => by
    have : i = 0 := by omega
    subst this; exact h3⟩
theorem El.enc {enc : α → List Value} (hl : ∀ y, (enc y).length = sz) (h1 : ∀ y, ∀ u ∈ enc y, u.oneCell' = true) (hR : ∀ h y, R h (enc y) y) : El sz R h (ys.map enc) ys :=
  ⟨by simp, fun c hc => by obtain ⟨y, _, rfl⟩ := List.mem_map.1 hc; exact hl y, fun c hc => by obtain ⟨y, _, rfl⟩ := List.mem_map.1 hc; exact h1 y, fun i k1 k2 => by simp only [List.getElem_map]; exact hR h _⟩
theorem El.fone (x : El sz R h L ys) : ∀ u ∈ L.flatten, u.oneCell' = true := fun u hu => by
  obtain ⟨c, hc, hu⟩ := List.mem_flatten.1 hu
  exact x.one c hc u hu
theorem El.ftake (x : El sz R h L ys) (i : Nat) : L.flatten.take (i * sz) = (L.take i).flatten := flat_take x.size
theorem El.fdrop (x : El sz R h L ys) (i : Nat) : L.flatten.drop (i * sz) = (L.drop i).flatten := flat_drop x.size
theorem Sl.els {v : Value} (x : Sl sz R h v ys) (h1 : ∀ c y, R h c y → ∀ u ∈ c, u.oneCell' = true) : ∃ L, SlC sz h v ys.length L.flatten ∧ El sz R h L ys := by
  obtain ⟨L, q1, q2, q3, q4⟩ := x.slc
  refine ⟨L, q1, q2, q3, fun c hc => ?_, q4⟩
  obtain ⟨i, hi, rfl⟩ := List.getElem_of_mem hc
  exact h1 _ _ (q4 i hi (by omega))
theorem SlC.ext {v : Value} {n : Nat} {xs : List Value} (e : Ext h h') (x : SlC sz h v n xs) : SlC sz h' v n xs := by
  rcases x with ⟨h1, h2, h3⟩ | ⟨b, o, cap, h1, h2⟩
  · exact .inl ⟨h1, h2, h3⟩
  · exact .inr ⟨b, o, cap, h1, cels_ext e h2⟩
theorem Rf.sl {T : Tags} {e : TypeId} {h0 : Heap} {v : Value} {n : Nat} (r : Rf sz e h0 h v n L.flatten) (w : Wf T h0) (hn : n = ys.length) (x : El sz R (fz T h) L ys) : Sl sz R (fz T h) v ys :=
  (r.row.fz w r.new).slL hn x.len x.size x.el
end
theorem StrR.one {h : Heap} : ∀ c y, StrR h c y → ∀ u ∈ c, u.oneCell' = true := fun c y r u hu => by
  have : c = [.string y] := r.1
  subst this; simp at hu; subst hu; rfl
theorem SessR.one {h : Heap} : ∀ c y, SessR h c y → ∀ u ∈ c, u.oneCell' = true := fun c y r u hu => by
  have : c = sessC y := r
  subst this; simp [sessC] at hu; rcases hu with rfl | rfl | rfl | rfl <;> rfl
theorem MaskR.one {h : Heap} : ∀ c y, MaskR h c y → ∀ u ∈ c, u.oneCell' = true := fun c y r u hu => by
  have : c = [.int .u32 y] := r
  subst this; simp at hu; subst hu; rfl
theorem EntR.one {h : Heap} : ∀ c y, EntR h c y → ∀ u ∈ c, u.oneCell' = true := fun c y r u hu => by
  obtain ⟨v, rfl, h1, h2⟩ := r
  simp [presC] at hu; rcases hu with rfl | rfl | rfl | rfl
  · exact h1.one.1
  · rfl
  · rfl
  · rfl
theorem EvR.one {h : Heap} : ∀ c y, EvR h c y → ∀ u ∈ c, u.oneCell' = true := fun c y r u hu => by
  have : c = evC y := r
  subst this; simp [evC, presC] at hu; rcases hu with rfl | rfl | rfl | rfl | rfl | rfl | rfl | rfl <;> rfl
def putB {α : Type} : List (ByteArray × α) → ByteArray → α → List (ByteArray × α)
  | [], u, e => [(u, e)]
  | (k, x) :: r, u, e => if ltS k u then (k, x) :: putB r u e else if k = u then (u, e) :: r else (u, e) :: (k, x) :: r
def delB {α : Type} (b : List (ByteArray × α)) (u : ByteArray) : List (ByteArray × α) := b.filter fun x => !decide (x.1 = u)
def keysL {α : Type} (b : List (ByteArray × α)) : List ByteArray := b.map (·.1)
def hasL {α : Type} (b : List (ByteArray × α)) (u : ByteArray) : Bool := (keysL b).any fun k => decide (k = u)
theorem hasL_iff {α : Type} {b : List (ByteArray × α)} {u : ByteArray} : hasL b u = true ↔ u ∈ keysL b := by simp [hasL]
theorem pos_cons_lt {k u : ByteArray} {l : List ByteArray} (h : ltS k u = true) : pos (k :: l) u = pos l u + 1 := by simp [pos, List.takeWhile_cons, h]
theorem pos_cons_ge {k u : ByteArray} {l : List ByteArray} (h : ltS k u = false) : pos (k :: l) u = 0 := by simp [pos, List.takeWhile_cons, h]
theorem putB_has {α : Type} {u : ByteArray} {e : α} : ∀ {b : List (ByteArray × α)}, SrtK (keysL b) → u ∈ keysL b → putB b u e = b.take (pos (keysL b) u) ++ [(u, e)] ++ b.drop (pos (keysL b) u + 1)
  | [], _, h => by simp [keysL] at h
  | (k, x) :: r, s, h => by
    have s' : SrtK (keysL r) := (List.pairwise_cons.1 s).2
    simp only [putB]
    cases hk : ltS k u with
    | true =>
      have : u ∈ keysL r := by
        simp only [keysL, List.map_cons, List.mem_cons] at h
        rcases h with rfl | h
        · rw [ltS_irrefl] at hk; cases hk
        · exact h
      have e1 : pos (keysL ((k, x) :: r)) u = pos (keysL r) u + 1 := pos_cons_lt hk
      rw [e1, if_pos rfl, putB_has s' this]
      rfl
    | false =>
      have hku : k = u := by
        simp only [keysL, List.map_cons, List.mem_cons] at h
        rcases h with rfl | h
        · rfl
        · have := (List.pairwise_cons.1 s).1 u h
          rw [hk] at this; cases this
      have e1 : pos (keysL ((k, x) :: r)) u = 0 := pos_cons_ge hk
      rw [e1]
      simp [hku]
theorem putB_new {α : Type} {u : ByteArray} {e : α} : ∀ {b : List (ByteArray × α)}, SrtK (keysL b) → u ∉ keysL b → putB b u e = b.take (pos (keysL b) u) ++ [(u, e)] ++ b.drop (pos (keysL b) u)
  | [], _, h => by simp [putB]
  | (k, x) :: r, s, h => by
    have s' : SrtK (keysL r) := (List.pairwise_cons.1 s).2
    simp only [keysL, List.map_cons, List.mem_cons, not_or] at h
    simp only [putB]
    cases hk : ltS k u with
    | true =>
      have e1 : pos (keysL ((k, x) :: r)) u = pos (keysL r) u + 1 := pos_cons_lt hk
      rw [e1, if_pos rfl, putB_new s' h.2]
      rfl
    | false =>
      have e1 : pos (keysL ((k, x) :: r)) u = 0 := pos_cons_ge hk
      rw [e1]
      simp [Ne.symm h.1]
theorem delB_none {α : Type} {u : ByteArray} {b : List (ByteArray × α)} (h : u ∉ keysL b) : delB b u = b := by
  refine List.filter_eq_self.2 fun x hx => ?_
  have : x.1 ≠ u := fun e => h (e ▸ List.mem_map_of_mem hx)
  simp [this]
theorem delB_has {α : Type} {u : ByteArray} : ∀ {b : List (ByteArray × α)}, SrtK (keysL b) → u ∈ keysL b → delB b u = b.take (pos (keysL b) u) ++ b.drop (pos (keysL b) u + 1)
  | [], _, h => by simp [keysL] at h
  | (k, x) :: r, s, h => by
    have s' : SrtK (keysL r) := (List.pairwise_cons.1 s).2
    cases hk : ltS k u with
    | true =>
      have hne : k ≠ u := fun e => by rw [e, ltS_irrefl] at hk; cases hk
      have : u ∈ keysL r := by
        simp only [keysL, List.map_cons, List.mem_cons] at h
        exact h.resolve_left (Ne.symm hne)
      have e1 : pos (keysL ((k, x) :: r)) u = pos (keysL r) u + 1 := pos_cons_lt hk
      rw [e1]
      have := delB_has s' this
      unfold delB at this ⊢
      simp [hne, this]
    | false =>
      have hku : k = u := by
        simp only [keysL, List.map_cons, List.mem_cons] at h
        rcases h with rfl | h
        · rfl
        · have := (List.pairwise_cons.1 s).1 u h
          rw [hk] at this; cases this
      have e1 : pos (keysL ((k, x) :: r)) u = 0 := pos_cons_ge hk
      have hn : u ∉ keysL r := fun h => by
        have := (List.pairwise_cons.1 s).1 u h
        rw [hk] at this; cases this
      rw [e1]
      have := delB_none hn
      unfold delB at this ⊢
      simp [hku, this]
theorem keys_putB {α : Type} {u : ByteArray} {e : α} : ∀ {b : List (ByteArray × α)} {k : ByteArray}, k ∈ keysL (putB b u e) → k = u ∨ k ∈ keysL b
  | [], k, h => by simp [putB, keysL] at h; exact .inl h
  | (k', x) :: r, k, h => by
    simp only [putB] at h
    split at h
    · simp only [keysL, List.map_cons, List.mem_cons] at h ⊢
      rcases h with h | h
      · exact .inr (.inl h)
      · rcases keys_putB h with h | h
        · exact .inl h
        · exact .inr (.inr h)
    · split at h
      · simp only [keysL, List.map_cons, List.mem_cons] at h ⊢
        rcases h with h | h
        · exact .inl h
        · exact .inr (.inr h)
      · simp only [keysL, List.map_cons, List.mem_cons] at h ⊢
        exact h
theorem putB_srt {α : Type} {u : ByteArray} {e : α} : ∀ {b : List (ByteArray × α)}, SrtK (keysL b) → SrtK (keysL (putB b u e))
  | [], _ => by simp [putB, keysL, SrtK]
  | (k, x) :: r, s => by
    obtain ⟨s1, s2⟩ := List.pairwise_cons.1 s
    simp only [putB]
    cases hk : ltS k u with
    | true =>
      rw [if_pos rfl]
      refine List.pairwise_cons.2 ⟨fun j hj => ?_, putB_srt s2⟩
      rcases keys_putB hj with rfl | hj
      · exact hk
      · exact s1 j hj
    | false =>
      simp only [Bool.false_eq_true, if_false]
      by_cases hku : k = u
      · rw [if_pos hku]; subst hku; exact List.pairwise_cons.2 ⟨s1, s2⟩
      · rw [if_neg hku]
        have huk : ltS u k = true := by
          cases h : ltS u k with
          | true => rfl
          | false => exact absurd (ltS_total hk h) hku
        refine List.pairwise_cons.2 ⟨fun j hj => ?_, s⟩
        simp only [List.map_cons, List.mem_cons] at hj
        rcases hj with rfl | hj
        · exact huk
        · exact ltS_trans huk (s1 j hj)
theorem delB_srt {α : Type} {u : ByteArray} {b : List (ByteArray × α)} (s : SrtK (keysL b)) : SrtK (keysL (delB b u)) := by
  unfold SrtK keysL delB at *
  exact s.sublist ((List.filter_sublist).map _)
theorem putB_len {α : Type} {u : ByteArray} {e : α} : ∀ {b : List (ByteArray × α)}, (putB b u e).length ≤ b.length + 1
  | [] => by simp [putB]
  | (k, x) :: r => by
    have := putB_len (u := u) (e := e) (b := r)
    simp only [putB]; split
    · simp; omega
    · split <;> simp
theorem delB_len {α : Type} {u : ByteArray} {b : List (ByteArray × α)} : (delB b u).length ≤ b.length := List.length_filter_le _ _
end Go.Den
namespace Go.Den
open Go
set_option linter.unusedVariables false
theorem flat_spl {sz : Nat} {L : List (List Value)} {i : Nat} {c : List Value} (hL : ∀ c ∈ L, c.length = sz) (hi : i < L.length) (hc : c.length = sz) : spl L.flatten (i * sz) c = (L.take i ++ [c] ++ L.drop (i + 1)).flatten := by
  unfold spl
  rw [hc, show i * sz + sz = (i + 1) * sz by rw [Nat.add_mul]; omega, flat_take hL, flat_drop hL]
  simp
/-- An element of one's own new row is written. -/
theorem Rf.st {sz : Nat} {e : TypeId} {h0 h : Heap} {v : Value} {n : Nat} {L : List (List Value)} (r : Rf sz e h0 h v n L.flatten) (hL : ∀ c ∈ L, c.length = sz) (hn : L.length = n) {i : Nat} (hi : i < n) {c : Value} (hc : c.cells.size = sz) (h1 : ∀ u ∈ c.cells.toList, u.oneCell' = true) {k : IntKind} :
    ∃ g, rowOf v = some g ∧ iaV (some (none, sz)) v (.int k i) = some (.pointer (some ⟨g, i * sz, none⟩)) ∧ h0 g = none ∧ (∃ o, h g = some o) ∧
      ∀ K : Heap → Prop, (∀ o', Rf sz e h0 (upd h g o') v n (L.take i ++ [c.cells.toList] ++ L.drop (i + 1)).flatten → K (upd h g o')) → stM (some sz) (.pointer (some ⟨g, i * sz, none⟩)) c h K := by
  obtain ⟨g, h2, h3⟩ := r.row.ia (k := k) hi
  obtain ⟨o, ho⟩ := r.row.lt g h2
  refine ⟨g, h2, h3, r.new g h2, ⟨o, ho⟩, fun K hK => ?_⟩
  refine r.row.st h2 hc (by have : (i + 1) * sz ≤ n * sz := Nat.mul_le_mul_right _ hi
                            rw [Nat.add_mul] at this; omega) h1 fun h' hk hr => ?_
  obtain ⟨o', ho'⟩ := hr.lt g h2
  have e1 : h' = upd h g o' := upd_of hk ho'
  rw [flat_spl hL (by omega) (by simpa using hc)] at hr
  subst e1
  refine hK o' ⟨ext_upd (r.new g h2) r.ex, hr, r.new, fun u hu => ?_⟩
  simp only [List.flatten_append, List.mem_append, List.flatten_cons, List.flatten_nil, List.append_nil] at hu
  rcases hu with (hu | hu) | hu
  · obtain ⟨d, hd, hu⟩ := List.mem_flatten.1 hu
    exact r.one u (List.mem_flatten.2 ⟨d, List.mem_of_mem_take hd, hu⟩)
  · exact h1 u hu
  · obtain ⟨d, hd, hu⟩ := List.mem_flatten.1 hu
    exact r.one u (List.mem_flatten.2 ⟨d, List.mem_of_mem_drop hd, hu⟩)
theorem keys_put_has {α : Type} {u : ByteArray} {e : α} : ∀ {b : List (ByteArray × α)}, SrtK (keysL b) → u ∈ keysL b → keysL (putB b u e) = keysL b
  | [], _, h => by simp [keysL] at h
  | (k, x) :: r, s, h => by
    have s' : SrtK (keysL r) := (List.pairwise_cons.1 s).2
    simp only [putB]
    cases hk : ltS k u with
    | true =>
      have : u ∈ keysL r := by
        simp only [keysL, List.map_cons, List.mem_cons] at h
        rcases h with rfl | h
        · rw [ltS_irrefl] at hk; cases hk
        · exact h
      have ih := keys_put_has (e := e) s' this
      rw [if_pos rfl]
      simp only [keysL, List.map_cons] at ih ⊢
      rw [ih]
    | false =>
      have hku : k = u := by
        simp only [keysL, List.map_cons, List.mem_cons] at h
        rcases h with rfl | h
        · rfl
        · have := (List.pairwise_cons.1 s).1 u h
          rw [hk] at this; cases this
      simp [hku, keysL]
theorem Rf.skip {sz : Nat} {e : TypeId} {h0 h : Heap} {v : Value} {n : Nat} {xs : List Value} {b : Nat} {o : Obj} (r : Rf sz e h0 h v n xs) (hb : h0 b = none) (hv : rowOf v ≠ some b) : Rf sz e h0 (upd h b o) v n xs :=
  ⟨ext_upd hb r.ex, r.row.of_at fun g hg => by rw [upd_ne (fun hh => hv (by rw [hg, hh]))], r.new, r.one⟩
theorem Rf.ne_old {sz : Nat} {e : TypeId} {h0 h : Heap} {v : Value} {n : Nat} {xs : List Value} {b : Nat} {o : Obj} (r : Rf sz e h0 h v n xs) (hb : h0 b = some o) : rowOf v ≠ some b := fun hh => by rw [r.new b hh] at hb; cases hb
theorem Rf.ne_new {sz : Nat} {e : TypeId} {h0 h : Heap} {v : Value} {n : Nat} {xs : List Value} {b : Nat} (r : Rf sz e h0 h v n xs) (hb : h b = none) : rowOf v ≠ some b := fun hh => by obtain ⟨o, ho⟩ := r.row.lt b hh; rw [hb] at ho; cases ho
end Go.Den
namespace Go.Den
open Go
theorem cels_sub {h : Heap} {b o n : Nat} {l : List Value} (hc : cels h b o n = some l) {j m : Nat} (hj : j + m ≤ n) : cels h b (o + j) m = some ((l.drop j).take m) := by
  obtain ⟨h1, h2⟩ := cels_get hc
  have : ∀ (m o : Nat) (l' : List Value), l'.length = m → (∀ i (hi : i < m), cel h b (o + i) = l'[i]?) → cels h b o m = some l' := by
    intro m
    induction m with
    | zero => intro o l' hl _; simp [List.eq_nil_of_length_eq_zero hl, cels]
    | succ m ih =>
      intro o l' hl hi
      cases l' with
      | nil => simp at hl
      | cons x l' =>
        have e0 := hi 0 (by omega)
        simp only [Nat.add_zero, List.getElem?_cons_zero] at e0
        have e1 := ih (o + 1) l' (by simpa using hl) fun i hi' => by
          have := hi (i + 1) (by omega)
          rw [List.getElem?_cons_succ] at this
          rw [← this]; congr 1; omega
        simp only [cels, e0, e1]
  refine this m (o + j) _ (by simp; omega) fun i hi => ?_
  have := h2 (j + i) (by omega)
  rw [show o + j + i = o + (j + i) by omega, this, List.getElem?_take_of_lt hi, List.getElem?_drop]
  exact (List.getElem?_eq_getElem _).symm
end Go.Den
namespace Go.Den
open Go
def valL {α : Type} (d : α) : List (ByteArray × α) → ByteArray → α
  | [], _ => d
  | (k, e) :: r, u => if k = u then e else valL d r u
theorem valL_mem {α : Type} {d : α} {b : List (ByteArray × α)} (s : SrtK (keysL b)) {i : Nat} (hi : i < b.length) : valL d b b[i].1 = b[i].2 := by
  induction b generalizing i with
  | nil => simp at hi
  | cons x b ih =>
    obtain ⟨k, e⟩ := x
    have s' : SrtK (keysL b) := (List.pairwise_cons.1 s).2
    cases i with
    | zero => simp [valL]
    | succ i =>
      have hi' : i < b.length := by simpa using hi
      have hne : ¬ k = b[i].1 := fun h => by
        have := (List.pairwise_cons.1 s).1 b[i].1 (List.mem_map_of_mem (List.getElem_mem _))
        rw [h, ltS_irrefl] at this; cases this
      simp only [List.getElem_cons_succ, valL, if_neg hne]
      exact ih s' hi'
theorem valL_none {α : Type} {d : α} {b : List (ByteArray × α)} {u : ByteArray} (h : u ∉ keysL b) : valL d b u = d := by
  induction b with
  | nil => rfl
  | cons x b ih =>
    obtain ⟨k, e⟩ := x
    simp only [keysL, List.map_cons, List.mem_cons, not_or] at h
    simp only [valL, if_neg (Ne.symm h.1)]
    exact ih h.2
end Go.Den
