/- Contract of the law RaceFinds. No condition beyond the hypotheses that each theorem states. -/
import Derived.Test.YtfeglbniahebaaaRaceC
set_option linter.unusedSimpArgs false
set_option linter.unusedVariables false
namespace Go.Proofs.Ytfeglbniahebaaa
open Go Go.Den
set_option maxRecDepth 100000
set_option linter.unusedVariables false
def d_doormanlaw22_RaceFinds_14 (q140 : Post) (m : List Nat) (s135 : Env) (v138 : Value) (v139 : Value) (v143 : Value) (v144 : Value) (v145 : Value) (v146 : Value) (v147 : Value) (v150 : Value) (v153 : Value) (v157 : Value) (v161 : Value) (v165 : Value) (v169 : Value) (v170 : Value) (v171 : Value) (v172 : Value) (v173 : Value) (h166 : Heap) : Prop := q140 .ret m (puts s135 [(73, (s135 9)), (74, (s135 0)), (75, v138), (76, v139), (79, (s135 0)), (80, (s135 9)), (81, v143), (82, v144), (83, v145), (84, v146), (85, v146), (86, v147), (87, v150), (88, v153), (89, v157), (90, v161), (91, v165), (92, v169), (93, (s135 8)), (94, (s135 9)), (95, v170), (96, v171), (97, v172), (98, v173), (2, (Go.Value.bool false))]) h166
def d_doormanlaw22_RaceFinds_15 (q140 : Post) (m : List Nat) (s135 : Env) (v138 : Value) (v139 : Value) (v143 : Value) (v144 : Value) (v145 : Value) (v146 : Value) (v147 : Value) (v150 : Value) (v153 : Value) (v157 : Value) (v161 : Value) (v165 : Value) (v169 : Value) (v170 : Value) (v171 : Value) (v172 : Value) (v173 : Value) (h166 : Heap) : Prop := q140 .normal m (puts s135 [(73, (s135 9)), (74, (s135 0)), (75, v138), (76, v139), (79, (s135 0)), (80, (s135 9)), (81, v143), (82, v144), (83, v145), (84, v146), (85, v146), (86, v147), (87, v150), (88, v153), (89, v157), (90, v161), (91, v165), (92, v169), (93, (s135 8)), (94, (s135 9)), (95, v170), (96, v171), (97, v172), (98, v173)]) h166
def d_doormanlaw22_RaceFinds_13 (s135 : Env) (h166 : Heap) (q140 : Post) (m : List Nat) (v138 : Value) (v139 : Value) (v143 : Value) (v144 : Value) (v145 : Value) (v146 : Value) (v147 : Value) (v150 : Value) (v153 : Value) (v157 : Value) (v161 : Value) (v165 : Value) (v169 : Value) : Prop := ov (iaV (some (none, 1)) (s135 8) (s135 9)) fun v170 => ov (ldV (some none) v170 h166) fun v171 => ov (lnV 7 v171) fun v172 => ov (binV Go.BinOp.neq 2 true v172 (Go.Value.int Go.IntKind.i64 0)) fun v173 => cdM v173 (d_doormanlaw22_RaceFinds_14 q140 m s135 v138 v139 v143 v144 v145 v146 v147 v150 v153 v157 v161 v165 v169 v170 v171 v172 v173 h166) (d_doormanlaw22_RaceFinds_15 q140 m s135 v138 v139 v143 v144 v145 v146 v147 v150 v153 v157 v161 v165 v169 v170 v171 v172 v173 h166)
def d_doormanlaw22_RaceFinds_17 (q140 : Post) (m : List Nat) (s135 : Env) (v138 : Value) (v139 : Value) (v143 : Value) (v144 : Value) (v145 : Value) (v146 : Value) (v147 : Value) (v150 : Value) (v153 : Value) (v157 : Value) (v161 : Value) (v165 : Value) (v169 : Value) (v174 : Value) (v175 : Value) (v176 : Value) (v177 : Value) (h166 : Heap) : Prop := q140 .ret m (puts s135 [(73, (s135 9)), (74, (s135 0)), (75, v138), (76, v139), (79, (s135 0)), (80, (s135 9)), (81, v143), (82, v144), (83, v145), (84, v146), (85, v146), (86, v147), (87, v150), (88, v153), (89, v157), (90, v161), (91, v165), (92, v169), (99, (s135 8)), (100, (s135 9)), (101, v174), (102, v175), (103, v176), (104, v177), (2, (Go.Value.bool false))]) h166
def d_doormanlaw22_RaceFinds_23 (s188 : Env) (h189 : Heap) (q192 : Post) (m : List Nat) (v191 : Value) (v195 : Value) (v196 : Value) (v197 : Value) (v198 : Value) : Prop := ov (iaV (some (none, 3)) (s188 0) (s188 11)) fun v199 => ov (faV (some 0) v199) fun v200 => ov (ldV (some none) v200 h189) fun v201 => ov (iaV (some (some 10, 1)) (s188 10) v201) fun v202 => ov (ldV (some none) v202 h189) fun v203 => ov (binV Go.BinOp.add 2 true v203 (Go.Value.int Go.IntKind.i64 1)) fun v204 => ov (iaV (some (some 10, 1)) (s188 10) v201) fun v205 => stM (some 1) v205 v204 h189 fun h206 => q192 .normal m (puts s188 [(111, (s188 11)), (112, (s188 9)), (113, v191), (116, (s188 7)), (117, (s188 9)), (118, v195), (119, v196), (120, (s188 11)), (121, v197), (122, v198), (123, (s188 0)), (124, (s188 11)), (125, v199), (126, v200), (127, v201), (128, v202), (129, v203), (130, v204), (131, v205)]) h206
def d_doormanlaw22_RaceFinds_24 (q192 : Post) (m : List Nat) (s188 : Env) (v191 : Value) (v195 : Value) (v196 : Value) (v197 : Value) (v198 : Value) (h189 : Heap) : Prop := q192 .normal m (puts s188 [(111, (s188 11)), (112, (s188 9)), (113, v191), (116, (s188 7)), (117, (s188 9)), (118, v195), (119, v196), (120, (s188 11)), (121, v197), (122, v198)]) h189
def d_doormanlaw22_RaceFinds_22 (s188 : Env) (h189 : Heap) (q192 : Post) (m : List Nat) (v191 : Value) : Prop := ov (iaV (some (none, 1)) (s188 7) (s188 9)) fun v195 => ov (ldV (some none) v195 h189) fun v196 => ov (iaV (some (none, 1)) v196 (s188 11)) fun v197 => ov (ldV (some none) v197 h189) fun v198 => cdM v198 (d_doormanlaw22_RaceFinds_23 s188 h189 q192 m v191 v195 v196 v197 v198) (d_doormanlaw22_RaceFinds_24 q192 m s188 v191 v195 v196 v197 v198 h189)
def d_doormanlaw22_RaceFinds_21 (s188 : Env) (h189 : Heap) (m : List Nat) (v191 : Value) (q190 : Post) : Prop := seqM (fun q192 => d_doormanlaw22_RaceFinds_22 s188 h189 q192 m v191) (fun m s193 h194 => ov (binV Go.BinOp.add 2 true (s193 11) (Go.Value.int Go.IntKind.i64 1)) fun v207 => q190 .normal m (puts s193 [(114, (s193 11)), (115, v207), (11, v207)]) h194) q190
def d_doormanlaw22_RaceFinds_20 (s188 : Env) (h189 : Heap) (m : List Nat) (q190 : Post) : Prop := ov (binV Go.BinOp.lss 2 false (s188 11) (s188 9)) fun v191 => cdM v191 (d_doormanlaw22_RaceFinds_21 s188 h189 m v191 q190) (q190 (.exit 2) m (puts s188 [(111, (s188 11)), (112, (s188 9)), (113, v191)]) h189)
def d_doormanlaw22_RaceFinds_19 (m : List Nat) (s135 : Env) (v138 : Value) (v139 : Value) (v143 : Value) (v144 : Value) (v145 : Value) (v146 : Value) (v147 : Value) (v150 : Value) (v153 : Value) (v157 : Value) (v161 : Value) (v165 : Value) (v169 : Value) (v174 : Value) (v175 : Value) (v176 : Value) (v177 : Value) (v178 : Value) (v180 : Value) (v181 : Value) (v182 : Value) (v183 : Value) (h184 : Heap) (q185 : Post) : Prop := loopM (fun m s188 h189 q190 => d_doormanlaw22_RaceFinds_20 s188 h189 m q190) m (puts s135 [(73, (s135 9)), (74, (s135 0)), (75, v138), (76, v139), (79, (s135 0)), (80, (s135 9)), (81, v143), (82, v144), (83, v145), (84, v146), (85, v146), (86, v147), (87, v150), (88, v153), (89, v157), (90, v161), (91, v165), (92, v169), (99, (s135 8)), (100, (s135 9)), (101, v174), (102, v175), (103, v176), (104, v177), (10, v178), (105, (s135 0)), (106, (s135 9)), (107, v180), (108, v181), (109, v182), (110, v183), (11, (Go.Value.int Go.IntKind.i64 0))]) h184 (blkM 2 q185)
def d_doormanlaw22_RaceFinds_28 (q210 : Post) (m : List Nat) (s208 : Env) (v211 : Value) (v212 : Value) (v213 : Value) (v214 : Value) (v215 : Value) (v216 : Value) (v217 : Value) (v218 : Value) (h209 : Heap) : Prop := q210 .ret m (puts s208 [(132, (s208 12)), (133, v211), (136, (s208 8)), (137, (s208 9)), (138, v212), (139, v213), (140, (s208 12)), (141, v214), (142, v215), (143, (s208 12)), (144, v216), (145, v217), (146, v218), (2, (Go.Value.bool false))]) h209
def d_doormanlaw22_RaceFinds_29 (s208 : Env) (q210 : Post) (m : List Nat) (v211 : Value) (v212 : Value) (v213 : Value) (v214 : Value) (v215 : Value) (v216 : Value) (v217 : Value) (v218 : Value) (h209 : Heap) : Prop := ov (binV Go.BinOp.add 2 true (s208 12) (Go.Value.int Go.IntKind.i64 1)) fun v219 => q210 .normal m (puts s208 [(132, (s208 12)), (133, v211), (136, (s208 8)), (137, (s208 9)), (138, v212), (139, v213), (140, (s208 12)), (141, v214), (142, v215), (143, (s208 12)), (144, v216), (145, v217), (146, v218), (134, (s208 12)), (135, v219), (12, v219)]) h209
def d_doormanlaw22_RaceFinds_27 (s208 : Env) (h209 : Heap) (q210 : Post) (m : List Nat) (v211 : Value) : Prop := ov (iaV (some (none, 1)) (s208 8) (s208 9)) fun v212 => ov (ldV (some none) v212 h209) fun v213 => ov (iaV (some (none, 1)) v213 (s208 12)) fun v214 => ov (ldV (some none) v214 h209) fun v215 => ov (iaV (some (some 10, 1)) (s208 10) (s208 12)) fun v216 => ov (ldV (some none) v216 h209) fun v217 => ov (binV Go.BinOp.neq 2 false v215 v217) fun v218 => cdM v218 (d_doormanlaw22_RaceFinds_28 q210 m s208 v211 v212 v213 v214 v215 v216 v217 v218 h209) (d_doormanlaw22_RaceFinds_29 s208 q210 m v211 v212 v213 v214 v215 v216 v217 v218 h209)
def d_doormanlaw22_RaceFinds_26 (s208 : Env) (h209 : Heap) (q210 : Post) (m : List Nat) : Prop := ov (binV Go.BinOp.lss 2 true (s208 12) (Go.Value.int Go.IntKind.i64 10)) fun v211 => cdM v211 (d_doormanlaw22_RaceFinds_27 s208 h209 q210 m v211) (q210 (.exit 4) m (puts s208 [(132, (s208 12)), (133, v211)]) h209)
def d_doormanlaw22_RaceFinds_25 (m : List Nat) (s186 : Env) (h187 : Heap) (q140 : Post) : Prop := loopM (fun m s208 h209 q210 => d_doormanlaw22_RaceFinds_26 s208 h209 q210 m) m (puts s186 [(12, (Go.Value.int Go.IntKind.i64 0))]) h187 (blkM 4 (blkM 1 q140))
def d_doormanlaw22_RaceFinds_18 (h166 : Heap) (s135 : Env) (m : List Nat) (v138 : Value) (v139 : Value) (v143 : Value) (v144 : Value) (v145 : Value) (v146 : Value) (v147 : Value) (v150 : Value) (v153 : Value) (v157 : Value) (v161 : Value) (v165 : Value) (v169 : Value) (v174 : Value) (v175 : Value) (v176 : Value) (v177 : Value) (q140 : Post) : Prop := nwM (zc P ty_10_int) ty_10_int h166 fun v178 h179 => ov (iaV (some (none, 3)) (s135 0) (s135 9)) fun v180 => ov (faV (some 0) v180) fun v181 => ov (ldV (some none) v181 h179) fun v182 => ov (iaV (some (some 10, 1)) v178 v182) fun v183 => stM (some 1) v183 (Go.Value.int Go.IntKind.i64 1) h179 fun h184 => seqM (fun q185 => d_doormanlaw22_RaceFinds_19 m s135 v138 v139 v143 v144 v145 v146 v147 v150 v153 v157 v161 v165 v169 v174 v175 v176 v177 v178 v180 v181 v182 v183 h184 q185) (fun m s186 h187 => d_doormanlaw22_RaceFinds_25 m s186 h187 q140) (blkM 1 q140)
def d_doormanlaw22_RaceFinds_16 (s135 : Env) (h166 : Heap) (q140 : Post) (m : List Nat) (v138 : Value) (v139 : Value) (v143 : Value) (v144 : Value) (v145 : Value) (v146 : Value) (v147 : Value) (v150 : Value) (v153 : Value) (v157 : Value) (v161 : Value) (v165 : Value) (v169 : Value) : Prop := ov (iaV (some (none, 1)) (s135 8) (s135 9)) fun v174 => ov (ldV (some none) v174 h166) fun v175 => ov (lnV 7 v175) fun v176 => ov (binV Go.BinOp.neq 2 true v176 (Go.Value.int Go.IntKind.i64 10)) fun v177 => cdM v177 (d_doormanlaw22_RaceFinds_17 q140 m s135 v138 v139 v143 v144 v145 v146 v147 v150 v153 v157 v161 v165 v169 v174 v175 v176 v177 h166) (d_doormanlaw22_RaceFinds_18 h166 s135 m v138 v139 v143 v144 v145 v146 v147 v150 v153 v157 v161 v165 v169 v174 v175 v176 v177 q140)
def d_doormanlaw22_RaceFinds_12 (s135 : Env) (h136 : Heap) (q140 : Post) (m : List Nat) (v138 : Value) (v139 : Value) : Prop := ov (iaV (some (none, 3)) (s135 0) (s135 9)) fun v143 => ov (faV (some 0) v143) fun v144 => ov (ldV (some none) v144 h136) fun v145 => ov (binV Go.BinOp.lss 2 true v145 (Go.Value.int Go.IntKind.i64 0)) fun v146 => gM (isB v146 false) (fun k149 => k149 (s135 0) h136) h136 fun v147 h148 => gM (isB v146 false) (fun k152 => k152 (s135 9) h148) h148 fun v150 h151 => gM (isB v146 false) (fun k155 => ov (iaV (some (none, 3)) v147 v150) fun v156 => k155 v156 h151) h151 fun v153 h154 => gM (isB v146 false) (fun k159 => ov (faV (some 0) v153) fun v160 => k159 v160 h154) h154 fun v157 h158 => gM (isB v146 false) (fun k163 => ov (ldV (some none) v157 h158) fun v164 => k163 v164 h158) h158 fun v161 h162 => gM (isB v146 false) (fun k167 => ov (binV Go.BinOp.gtr 2 true v161 (Go.Value.int Go.IntKind.i64 9)) fun v168 => k167 v168 h162) h162 fun v165 h166 => ov (pkV v146 (Go.Value.bool true) v165) fun v169 => cdM v169 (d_doormanlaw22_RaceFinds_13 s135 h166 q140 m v138 v139 v143 v144 v145 v146 v147 v150 v153 v157 v161 v165 v169) (d_doormanlaw22_RaceFinds_16 s135 h166 q140 m v138 v139 v143 v144 v145 v146 v147 v150 v153 v157 v161 v165 v169)
def d_doormanlaw22_RaceFinds_11 (s135 : Env) (h136 : Heap) (m : List Nat) (v138 : Value) (v139 : Value) (q137 : Post) : Prop := seqM (fun q140 => d_doormanlaw22_RaceFinds_12 s135 h136 q140 m v138 v139) (fun m s141 h142 => ov (binV Go.BinOp.add 2 true (s141 9) (Go.Value.int Go.IntKind.i64 1)) fun v220 => q137 .normal m (puts s141 [(77, (s141 9)), (78, v220), (9, v220)]) h142) q137
def d_doormanlaw22_RaceFinds_10 (s135 : Env) (h136 : Heap) (m : List Nat) (q137 : Post) : Prop := ov (lnV 7 (s135 0)) fun v138 => ov (binV Go.BinOp.lss 2 false (s135 9) v138) fun v139 => cdM v139 (d_doormanlaw22_RaceFinds_11 s135 h136 m v138 v139 q137) (q137 (.exit 0) m (puts s135 [(73, (s135 9)), (74, (s135 0)), (75, v138), (76, v139)]) h136)
def d_doormanlaw22_RaceFinds_9 (x0 : Value) (v1 : Value) (v3 : Value) (v4 : Value) (v7 : Value) (v11 : Value) (v15 : Value) (v18 : Value) (v20 : Value) (v21 : Value) (v22 : Value) (v25 : Value) (v27 : Value) (v28 : Value) (v29 : Value) (v30 : Value) (v31 : Value) (v34 : Value) (v37 : Value) (v41 : Value) (v45 : Value) (v48 : Value) (v52 : Value) (v55 : Value) (v59 : Value) (v63 : Value) (v66 : Value) (v70 : Value) (v74 : Value) (v78 : Value) (v79 : Value) (v82 : Value) (v86 : Value) (v89 : Value) (v93 : Value) (v97 : Value) (v101 : Value) (v104 : Value) (v108 : Value) (v112 : Value) (v116 : Value) (v120 : Value) (v124 : Value) (v125 : Value) (v127 : Value) (v129 : Value) (v130 : Value) (v131 : Value) (h128 : Heap) (q132 : Post) : Prop := loopM (fun m s135 h136 q137 => d_doormanlaw22_RaceFinds_10 s135 h136 m q137) [] (puts (envOf [x0]) [(2, (Go.Value.bool false)), (13, v1), (14, v3), (15, v3), (16, v4), (17, v7), (18, v11), (19, v15), (22, x0), (23, v18), (21, v18), (24, v20), (25, v21), (3, v22), (4, v21), (27, x0), (28, v25), (26, v25), (29, v27), (30, v28), (5, v27), (6, v28), (31, v21), (32, v27), (33, v29), (34, v30), (35, v30), (36, v31), (37, v34), (38, v37), (39, v41), (40, v45), (41, v48), (42, v52), (43, v55), (44, v59), (45, v63), (46, v66), (47, v70), (48, v74), (49, v78), (50, v78), (51, v79), (52, v82), (53, v86), (54, v89), (55, v93), (56, v97), (57, v101), (58, v104), (59, v108), (60, v112), (61, v116), (62, v120), (63, v124), (64, x0), (65, v125), (7, v125), (66, x0), (67, v127), (8, v127), (68, v127), (69, v129), (70, x0), (71, v130), (72, v131), (9, (Go.Value.int Go.IntKind.i64 0))]) h128 (blkM 0 q132)
def d_doormanlaw22_RaceFinds_8 (x0 : Value) (v1 : Value) (v3 : Value) (v4 : Value) (v7 : Value) (v11 : Value) (v15 : Value) (v18 : Value) (v20 : Value) (v21 : Value) (v22 : Value) (v25 : Value) (v27 : Value) (v28 : Value) (v29 : Value) (v30 : Value) (v31 : Value) (v34 : Value) (v37 : Value) (v41 : Value) (v45 : Value) (v48 : Value) (v52 : Value) (v55 : Value) (v59 : Value) (v63 : Value) (v66 : Value) (v70 : Value) (v74 : Value) (v78 : Value) (v79 : Value) (v82 : Value) (v86 : Value) (v89 : Value) (v93 : Value) (v97 : Value) (v101 : Value) (v104 : Value) (v108 : Value) (v112 : Value) (v116 : Value) (v120 : Value) (v124 : Value) (v125 : Value) (v127 : Value) (v129 : Value) (v130 : Value) (v131 : Value) (h128 : Heap) (K : Value → Heap → Prop) : Prop := seqM (fun q132 => d_doormanlaw22_RaceFinds_9 x0 v1 v3 v4 v7 v11 v15 v18 v20 v21 v22 v25 v27 v28 v29 v30 v31 v34 v37 v41 v45 v48 v52 v55 v59 v63 v66 v70 v74 v78 v79 v82 v86 v89 v93 v97 v101 v104 v108 v112 v116 v120 v124 v125 v127 v129 v130 v131 h128 q132) (fun m s133 h134 => (retM P [.tmp 2] K) .ret m (puts s133 [(2, (Go.Value.bool true))]) h134) (retM P [.tmp 2] K)
def d_doormanlaw22_RaceFinds_7 (v127 : Value) (x0 : Value) (K : Value → Heap → Prop) (h128 : Heap) (v1 : Value) (v3 : Value) (v4 : Value) (v7 : Value) (v11 : Value) (v15 : Value) (v18 : Value) (v20 : Value) (v21 : Value) (v22 : Value) (v25 : Value) (v27 : Value) (v28 : Value) (v29 : Value) (v30 : Value) (v31 : Value) (v34 : Value) (v37 : Value) (v41 : Value) (v45 : Value) (v48 : Value) (v52 : Value) (v55 : Value) (v59 : Value) (v63 : Value) (v66 : Value) (v70 : Value) (v74 : Value) (v78 : Value) (v79 : Value) (v82 : Value) (v86 : Value) (v89 : Value) (v93 : Value) (v97 : Value) (v101 : Value) (v104 : Value) (v108 : Value) (v112 : Value) (v116 : Value) (v120 : Value) (v124 : Value) (v125 : Value) : Prop := ov (lnV 7 v127) fun v129 => ov (lnV 7 x0) fun v130 => ov (binV Go.BinOp.neq 2 false v129 v130) fun v131 => cdM v131 (K (Go.Value.bool false) h128) (d_doormanlaw22_RaceFinds_8 x0 v1 v3 v4 v7 v11 v15 v18 v20 v21 v22 v25 v27 v28 v29 v30 v31 v34 v37 v41 v45 v48 v52 v55 v59 v63 v66 v70 v74 v78 v79 v82 v86 v89 v93 v97 v101 v104 v108 v112 v116 v120 v124 v125 v127 v129 v130 v131 h128 K)
def d_doormanlaw22_RaceFinds_6 (x0 : Value) (h126 : Heap) (K : Value → Heap → Prop) (v1 : Value) (v3 : Value) (v4 : Value) (v7 : Value) (v11 : Value) (v15 : Value) (v18 : Value) (v20 : Value) (v21 : Value) (v22 : Value) (v25 : Value) (v27 : Value) (v28 : Value) (v29 : Value) (v30 : Value) (v31 : Value) (v34 : Value) (v37 : Value) (v41 : Value) (v45 : Value) (v48 : Value) (v52 : Value) (v55 : Value) (v59 : Value) (v63 : Value) (v66 : Value) (v70 : Value) (v74 : Value) (v78 : Value) (v79 : Value) (v82 : Value) (v86 : Value) (v89 : Value) (v93 : Value) (v97 : Value) (v101 : Value) (v104 : Value) (v108 : Value) (v112 : Value) (v116 : Value) (v120 : Value) (v124 : Value) (v125 : Value) : Prop := callM P fn_race_Known #[x0] h126 fun v127 h128 => d_doormanlaw22_RaceFinds_7 v127 x0 K h128 v1 v3 v4 v7 v11 v15 v18 v20 v21 v22 v25 v27 v28 v29 v30 v31 v34 v37 v41 v45 v48 v52 v55 v59 v63 v66 v70 v74 v78 v79 v82 v86 v89 v93 v97 v101 v104 v108 v112 v116 v120 v124 v125
def d_doormanlaw22_RaceFinds_5 (x0 : Value) (h121 : Heap) (K : Value → Heap → Prop) (v1 : Value) (v3 : Value) (v4 : Value) (v7 : Value) (v11 : Value) (v15 : Value) (v18 : Value) (v20 : Value) (v21 : Value) (v22 : Value) (v25 : Value) (v27 : Value) (v28 : Value) (v29 : Value) (v30 : Value) (v31 : Value) (v34 : Value) (v37 : Value) (v41 : Value) (v45 : Value) (v48 : Value) (v52 : Value) (v55 : Value) (v59 : Value) (v63 : Value) (v66 : Value) (v70 : Value) (v74 : Value) (v78 : Value) (v79 : Value) (v82 : Value) (v86 : Value) (v89 : Value) (v93 : Value) (v97 : Value) (v101 : Value) (v104 : Value) (v108 : Value) (v112 : Value) (v116 : Value) (v120 : Value) (v124 : Value) : Prop := callM P fn_doormanref22_Ahead #[x0] h121 fun v125 h126 => d_doormanlaw22_RaceFinds_6 x0 h126 K v1 v3 v4 v7 v11 v15 v18 v20 v21 v22 v25 v27 v28 v29 v30 v31 v34 v37 v41 v45 v48 v52 v55 v59 v63 v66 v70 v74 v78 v79 v82 v86 v89 v93 v97 v101 v104 v108 v112 v116 v120 v124 v125
def d_doormanlaw22_RaceFinds_4 (v25 : Value) (v21 : Value) (h26 : Heap) (v22 : Value) (K : Value → Heap → Prop) (x0 : Value) (v1 : Value) (v3 : Value) (v4 : Value) (v7 : Value) (v11 : Value) (v15 : Value) (v18 : Value) (v20 : Value) : Prop := ov (exV v25 0) fun v27 => ov (exV v25 1) fun v28 => ov (binV Go.BinOp.geq 2 true v27 (Go.Value.int Go.IntKind.i64 0)) fun v29 => ov (binV Go.BinOp.neq 1 false v21 v29) fun v30 => gM (isB v30 false) (fun k33 => k33 v21 h26) h26 fun v31 h32 => gM (isB v30 false) (fun k36 => k36 v31 h32) h32 fun v34 h35 => gM (isB v34 true) (fun k39 => ov (faV (some 0) v22) fun v40 => k39 v40 h35) h35 fun v37 h38 => gM (isB v34 true) (fun k43 => ov (ldV (some none) v37 h38) fun v44 => k43 v44 h38) h38 fun v41 h42 => gM (isB v34 true) (fun k47 => k47 v27 h42) h42 fun v45 h46 => gM (isB v34 true) (fun k50 => ov (binV Go.BinOp.neq 2 false v41 v45) fun v51 => k50 v51 h46) h46 fun v48 h49 => gM (isB v34 true) (fun k54 => k54 v48 h49) h49 fun v52 h53 => gM (isB v52 false) (fun k57 => ov (faV (some 1) v22) fun v58 => k57 v58 h53) h53 fun v55 h56 => gM (isB v52 false) (fun k61 => ov (ldV (some none) v55 h56) fun v62 => k61 v62 h56) h56 fun v59 h60 => gM (isB v52 false) (fun k65 => k65 v28 h60) h60 fun v63 h64 => gM (isB v52 false) (fun k68 => ov (binV Go.BinOp.neq 2 false v59 v63) fun v69 => k68 v69 h64) h64 fun v66 h67 => gM (isB v34 true) (fun k72 => ov (pkV v52 (Go.Value.bool true) v66) fun v73 => k72 v73 h67) h67 fun v70 h71 => gM (isB v30 false) (fun k76 => ov (pkV v34 v70 (Go.Value.bool false)) fun v77 => k76 v77 h71) h71 fun v74 h75 => ov (pkV v30 (Go.Value.bool true) v74) fun v78 => gM (isB v78 false) (fun k81 => k81 v21 h75) h75 fun v79 h80 => gM (isB v78 false) (fun k84 => ov (unV Go.UnOp.not v79) fun v85 => k84 v85 h80) h80 fun v82 h83 => gM (isB v78 false) (fun k88 => k88 v82 h83) h83 fun v86 h87 => gM (isB v86 true) (fun k91 => ov (faV (some 0) v22) fun v92 => k91 v92 h87) h87 fun v89 h90 => gM (isB v86 true) (fun k95 => ov (ldV (some none) v89 h90) fun v96 => k95 v96 h90) h90 fun v93 h94 => gM (isB v86 true) (fun k99 => ov (binV Go.BinOp.neq 2 true v93 (Go.Value.int Go.IntKind.i64 0)) fun v100 => k99 v100 h94) h94 fun v97 h98 => gM (isB v86 true) (fun k103 => k103 v97 h98) h98 fun v101 h102 => gM (isB v101 false) (fun k106 => ov (faV (some 1) v22) fun v107 => k106 v107 h102) h102 fun v104 h105 => gM (isB v101 false) (fun k110 => ov (ldV (some none) v104 h105) fun v111 => k110 v111 h105) h105 fun v108 h109 => gM (isB v101 false) (fun k114 => ov (binV Go.BinOp.neq 2 true v108 (Go.Value.int Go.IntKind.i64 0)) fun v115 => k114 v115 h109) h109 fun v112 h113 => gM (isB v86 true) (fun k118 => ov (pkV v101 (Go.Value.bool true) v112) fun v119 => k118 v119 h113) h113 fun v116 h117 => gM (isB v78 false) (fun k122 => ov (pkV v86 v116 (Go.Value.bool false)) fun v123 => k122 v123 h117) h117 fun v120 h121 => ov (pkV v78 (Go.Value.bool true) v120) fun v124 => cdM v124 (K (Go.Value.bool false) h121) (d_doormanlaw22_RaceFinds_5 x0 h121 K v1 v3 v4 v7 v11 v15 v18 v20 v21 v22 v25 v27 v28 v29 v30 v31 v34 v37 v41 v45 v48 v52 v55 v59 v63 v66 v70 v74 v78 v79 v82 v86 v89 v93 v97 v101 v104 v108 v112 v116 v120 v124)
def d_doormanlaw22_RaceFinds_3 (v18 : Value) (h19 : Heap) (x0 : Value) (K : Value → Heap → Prop) (v1 : Value) (v3 : Value) (v4 : Value) (v7 : Value) (v11 : Value) (v15 : Value) : Prop := ov (exV v18 0) fun v20 => ov (exV v18 1) fun v21 => nwM (zc P ty_race_Pair) ty_race_Pair h19 fun v22 h23 => stM (some 2) v22 v20 h23 fun h24 => callM P fn_doormanref22_Find #[x0] h24 fun v25 h26 => d_doormanlaw22_RaceFinds_4 v25 v21 h26 v22 K x0 v1 v3 v4 v7 v11 v15 v18 v20
def d_doormanlaw22_RaceFinds_2 (x0 : Value) (h12 : Heap) (K : Value → Heap → Prop) (v1 : Value) (v3 : Value) (v4 : Value) (v7 : Value) (v11 : Value) (v15 : Value) : Prop := callM P fn_race_Find #[x0] h12 fun v18 h19 => d_doormanlaw22_RaceFinds_3 v18 h19 x0 K v1 v3 v4 v7 v11 v15
def d_doormanlaw22_RaceFinds_1 (v1 : Value) (x0 : Value) (h2 : Heap) (K : Value → Heap → Prop) : Prop := ov (unV Go.UnOp.not v1) fun v3 => gM (isB v3 false) (fun k6 => k6 x0 h2) h2 fun v4 h5 => gM (isB v3 false) (fun k9 => ov (lnV 7 v4) fun v10 => k9 v10 h5) h5 fun v7 h8 => gM (isB v3 false) (fun k13 => ov (binV Go.BinOp.gtr 2 true v7 (Go.Value.int Go.IntKind.i64 120)) fun v14 => k13 v14 h8) h8 fun v11 h12 => ov (pkV v3 (Go.Value.bool true) v11) fun v15 => cdM v15 (callM P fn_doormanlaw22_awake #[] h12 fun v16 h17 => K v16 h17) (d_doormanlaw22_RaceFinds_2 x0 h12 K v1 v3 v4 v7 v11 v15)
def d_doormanlaw22_RaceFinds (x0 : Value) (h : Heap) (K : Value → Heap → Prop) : Prop := callM P fn_doormanlaw22_awake #[] h fun v1 h2 => d_doormanlaw22_RaceFinds_1 v1 x0 h2 K
theorem e_doormanlaw22_RaceFinds {x0 : Value} {h : Heap} {K : Value → Heap → Prop} (hd : d_doormanlaw22_RaceFinds x0 h K) : callM P fn_doormanlaw22_RaceFinds #[x0] h K :=
  call_of good mixed (fn := Try.f6) (args := [x0]) Try.func6 rfl (by kernel_rfl) (of_decide_eq_true rfl) (B := d_doormanlaw22_RaceFinds x0 h K) (by kernel_rfl) hd

end Go.Proofs.Ytfeglbniahebaaa

namespace Go.Proofs.Ytfeglbniahebaaa
open Go Go.Den Go.MapKept
set_option linter.unusedSimpArgs false
set_option linter.unusedVariables false
/-- How many of the first m acts are of a process, and come ahead of an act. -/
def wantN (xs : List Act) (n v : Nat) : Nat → Int
  | 0 => if (act xs n).who.toNat = v then 1 else 0
  | m + 1 => wantN xs n v m + (if rowR xs n m = true ∧ (act xs m).who.toNat = v then 1 else 0)
theorem wantN_eq {xs : List Act} {n v : Nat} (hn : n < 1000) (hc : cntB (act xs n) = true) (hv : v < 10) : ∀ m, m ≤ n → wantN xs n v m = min (cOf xs m v) (KN xs n v) + (if (act xs n).who.toNat = v then 1 else 0) - (if (act xs n).who.toNat = v ∧ cOf xs n v < cOf xs m v then 1 else 0)
  | 0, _ => by
    have hr := who_rng hc
    have h1 := ((VI.all xs (n + 1) (by omega)).lo (act xs n).who.toNat (by omega) v hv).1
    have h2 := cOf_nn xs v n
    have h3 : ¬ cOf xs n v < cOf xs 0 v := by simp only [cOf]; omega
    simp only [wantN, h3, and_false, if_false, cOf, KN]
    omega
  | m + 1, hm => by
    have hr := who_rng hc
    have ih := wantN_eq hn hc hv m (by omega)
    have e1 : ¬ cOf xs n v < cOf xs m v := by have := cOf_mono xs v (show m ≤ n by omega); omega
    have e2 : ¬ cOf xs n v < cOf xs (m + 1) v := by have := cOf_mono xs v hm; omega
    simp only [e1, e2, and_false, if_false] at ih ⊢
    rw [wantN, ih]
    by_cases hcm : cntB (act xs m) = true
    · have hrm := who_rng hcm
      by_cases hwv : (act xs m).who.toNat = v
      · have hwv' : (act xs m).who = v := by omega
        have hri := row_iff hn (show m < n by omega) hc hcm
        rw [ownAt_eq (by omega) hcm, hwv] at hri
        unfold ownO at hri
        rw [hwv'] at hri
        have hcs : cOf xs (m + 1) v = cOf xs m v + 1 := by simp [cOf, hcm, hwv']
        rw [hcs]
        by_cases hh : rowR xs n m = true
        · have := hri.1 hh
          simp only [hh, hwv, and_self, if_true]
          omega
        · have : ¬ (cOf xs m v + 1 ≤ KN xs n v) := fun h => hh (hri.2 h)
          simp only [hh, Bool.false_eq_true, false_and, if_false]
          omega
      · have hwv' : ¬ (act xs m).who = v := by omega
        have hcs : cOf xs (m + 1) v = cOf xs m v := by simp [cOf, hwv']
        rw [hcs]; simp [hwv]
    · have hcs : cOf xs (m + 1) v = cOf xs m v := by simp [cOf, hcm]
      have hh : ¬ rowR xs n m = true := fun h => hcm (rowR_cnt h).1
      rw [hcs]; simp [hh]
theorem wantN_kn {xs : List Act} {n v : Nat} (hn : n < 1000) (hc : cntB (act xs n) = true) (hv : v < 10) : wantN xs n v n = KN xs n v := by
  have hr := who_rng hc
  have hV := VI.all xs (n + 1) (by omega)
  have h1 := hV.lo (act xs n).who.toNat (by omega) v hv
  have h2 := hV.me (act xs n).who.toNat (by omega)
  rw [wantN_eq hn hc hv n (Nat.le_refl _)]
  simp only [Int.lt_irrefl, and_false, if_false]
  unfold KN
  by_cases e : (act xs n).who.toNat = v
  · subst e
    have hcs : cOf xs (n + 1) ((act xs n).who.toNat : Nat) = cOf xs n ((act xs n).who.toNat : Nat) + 1 := by
      rw [cOf_s, if_pos ⟨hc, by omega⟩]
    simp only [if_true]
    omega
  · have hcs : cOf xs (n + 1) (v : Int) = cOf xs n v := by rw [cOf_s, if_neg (fun h => e (by omega))]; omega
    simp only [e, if_false]
    omega
theorem wantN_rng {xs : List Act} {n v : Nat} : ∀ m, 0 ≤ wantN xs n v m ∧ wantN xs n v m ≤ m + 1
  | 0 => by simp only [wantN]; split <;> omega
  | m + 1 => by have := wantN_rng (xs := xs) (n := n) (v := v) m; simp only [wantN]; split <;> omega
theorem pair_box' {o : Option (Nat × Nat)} {h : Heap} {K : Value → Value → Value → Heap → Prop}
    (hk : ∀ a b h', h b = none → Ext h h' → h' b = some (.cells #[.int .i64 (match o with | some p => p.1 | none => 0), .int .i64 (match o with | some p => p.2 | none => 0)] ty_race_Pair (0, 0)) → K a (.bool o.isSome) (.pointer (some ⟨b, 0, none⟩)) h') :
    ov (exV (oPair o) 0) fun v => ov (exV (oPair o) 1) fun u => nwM (zc P ty_race_Pair) ty_race_Pair h fun p h' => stM (some 2) p v h' fun h'' => K v u p h'' := by
  rw [zcPair]
  cases o with
  | none => simp only [oPair, exV_0, exV_1, ov_s]; exact nw_st rfl rfl (by simp [Value.cells, Value.oneCell']) fun b h' h1 h2 h3 => hk _ b h' h1 h2 h3
  | some p => obtain ⟨i, j⟩ := p; simp only [oPair, exV_0, exV_1, ov_s]; exact nw_st rfl rfl (by simp [Value.cells, Value.oneCell']) fun b h' h1 h2 h3 => hk _ b h' h1 h2 h3
theorem pair_gen (o : Option (Nat × Nat)) : ∃ fi se f0 s0 : Int, pairV o = .tuple #[.int .i64 fi, .int .i64 se] ∧ (match o with | some p => (p.1 : Int) | none => 0) = f0 ∧ (match o with | some p => (p.2 : Int) | none => 0) = s0 ∧
    decide (0 ≤ fi) = o.isSome ∧ (o.isSome = true → f0 = fi ∧ s0 = se) ∧ (o.isSome = false → f0 = 0 ∧ s0 = 0) := by
  cases o with
  | none => exact ⟨-1, -1, 0, 0, rfl, rfl, rfl, by simp, by simp, by simp⟩
  | some p => obtain ⟨i, j⟩ := p; exact ⟨i, j, i, j, rfl, rfl, rfl, by simp, by simp, by simp⟩
set_option maxHeartbeats 4000000 in
theorem finds_ok (xs : List Act) {h : Heap} {v : Value} (x : Sl 3 ActR h v xs) {K : Value → Heap → Prop} (hk : ∀ h', Ext h h' → K (.bool true) h') : callM P fn_doormanlaw22_RaceFinds #[v] h K := by
  apply e_doormanlaw22_RaceFinds
  unfold d_doormanlaw22_RaceFinds
  refine awake_ok fun h1 he1 => ?_
  unfold d_doormanlaw22_RaceFinds_1
  have hlen := x.len
  refine guard_len hlen (fun hbig => awake_ok fun h2 he2 => hk _ (he1.trans he2)) fun hsm => ?_
  have hl : xs.length ≤ 120 := by omega
  have mono : ∀ {h' zs w}, Ext h h' → Sl 3 ActR h w zs → Sl 3 ActR h' w zs := fun e z => Sl.ext (R := ActR) (fun _ r => r) e z
  unfold d_doormanlaw22_RaceFinds_2
  refine find_ok xs (by omega) (mono he1 x) fun h2 o he2 ho => ?_
  unfold d_doormanlaw22_RaceFinds_3
  refine pair_box' fun pv bp h3 hbp he3 hc3 => ?_
  have hx3 := he1.trans (he2.trans he3)
  refine refFind_ok xs (by omega) (mono hx3 x) fun h4 o' he4 ho' => ?_
  have hoo : o' = o := ho'.uniq (ho.congr fun j hj i hi => findR_ref (by omega) hi hj)
  subst hoo
  have c4 := he4 _ _ hc3
  have hx4 := hx3.trans he4
  obtain ⟨fi, se, f0, s0, e1, e2, e3, e4, e5, e6⟩ := pair_gen o'
  rw [e1]
  rw [e2, e3] at c4
  generalize o'.isSome = bb at *
  clear e1 e2 e3 hc3 ho' ho
  unfold d_doormanlaw22_RaceFinds_4
  simp only [exV_0, exV_1, ov_s, bin_geq, bin_bool_ne, e4]
  cases bb
  all_goals
    first | (obtain ⟨rfl, rfl⟩ := e6 rfl) | (obtain ⟨rfl, rfl⟩ := e5 rfl)
    simp +contextual -implicitDefEqProofs [cel_of c4]
    unfold d_doormanlaw22_RaceFinds_5
    refine ahead_ok xs (by omega) (mono hx4 x) fun h5 av he5 hta => ?_
    unfold d_doormanlaw22_RaceFinds_6
    have hx5 := hx4.trans he5
    refine known_ok xs (by omega) (mono hx5 x) fun h6 kw kv he6 hkn => ?_
    unfold d_doormanlaw22_RaceFinds_7
    have hx6 := hx5.trans he6
    have ht6 := hta.ext he6
    simp only [hkn.len, hlen, ov_s, bin_neq, cd_b]
    refine ⟨fun hh => absurd hh (by simp), fun _ => ?_⟩
    unfold d_doormanlaw22_RaceFinds_8 d_doormanlaw22_RaceFinds_9
    rw [seqM_eq]
    refine loop_on [0, 7, 8] (fun s h' => Ext h6 h' ∧ ∃ n : Nat, n ≤ xs.length ∧ s 9 = .int .i64 n) (fun s _ => (xs.length - num (s 9)).toNat) ⟨Ext.refl _, 0, by omega, rfl⟩ ?_
    rintro s h7 hf ⟨he7, n, hn, hs9⟩
    have s0' : s 0 = v := by simpa using hf 0 (by simp)
    have s7' : s 7 = av := by simpa using hf 7 (by simp)
    have s8' : s 8 = kw := by simpa using hf 8 (by simp)
    have hw : IntKind.i64.wrap ((n : Int) + 1) = n + 1 := wrap64_id (by omega) (by omega)
    unfold d_doormanlaw22_RaceFinds_10
    simp only [s0', hlen, ov_s, hs9, bin_lss, cd_b]
    refine ⟨fun hc => ?_, fun hc => ?_⟩
    rotate_left
    · simp; exact hk h7 (hx6.trans he7)
    have hlt : n < xs.length := by have : ((n : Int) < xs.length) := by simpa using hc
                                   omega
    unfold d_doormanlaw22_RaceFinds_11
    refine seq_cut (fun m' s' h' => m' = [] ∧ (∀ k ∈ [0, 7, 8, 9], s' k = s k) ∧ Ext h6 h') (fun J hJ _ _ => ?_) ?_
    rotate_left
    · rintro m' s' h' ⟨rfl, hf', hk'⟩
      simp [hf' 0 (by simp), hf' 7 (by simp), hf' 8 (by simp), hf' 9 (by simp), hs9, hw, s0', s7', s8']
      exact ⟨⟨hk', n + 1, by omega, by simp⟩, by omega⟩
    unfold d_doormanlaw22_RaceFinds_12
    obtain ⟨b1, o1, i1, l1⟩ := rowA_at (k := .i64) x hlt
    obtain ⟨l2, l3, l4⟩ := l1 h7 (hx6.trans he7)
    obtain ⟨g, g1, g2, g3⟩ := row1_at (k := .i64) (hkn.1.ext he7) hlt
    simp only [hlt, if_true] at g3
    simp +contextual -implicitDefEqProofs [i1, l2, s0', hs9]
    have cnt_iff : cntB (act xs n) = (decide (0 ≤ (act xs n).who) && decide ((act xs n).who ≤ 9)) := rfl
    refine ⟨fun hout => ?_, fun hge hle => ?_⟩
    · have hcf : cntB (act xs n) = false := by
        rw [cnt_iff]; simp; omega
      have hkv := (hkn.2 n hlt).2 hcf
      unfold d_doormanlaw22_RaceFinds_13
      simp only [s8', hs9, g2, g3, ov_s, ldV_c, hkv]
      simp
      unfold d_doormanlaw22_RaceFinds_15
      exact hJ _ _ _ ⟨rfl, by simp, he7⟩
    have hct : cntB (act xs n) = true := by rw [cnt_iff]; simp; omega
    obtain ⟨w, hw0⟩ : ∃ w : Nat, (act xs n).who = w := ⟨(act xs n).who.toNat, by omega⟩
    have hwn : (act xs n).who.toNat = w := by omega
    have hw9 : w < 10 := by omega
    have hrow := (hkn.2 n hlt).1 hct
    unfold d_doormanlaw22_RaceFinds_16
    simp only [s8', hs9, g2, g3, ov_s, ldV_c, Row.lnV hrow, bin_neq, cd_b]
    refine ⟨fun hh => absurd hh (by simp), fun _ => ?_⟩
    unfold d_doormanlaw22_RaceFinds_18
    rw [zcTen]
    refine nw_intro fun bw h8 hbw he8 hc8 => ?_
    obtain ⟨m2, _, _⟩ := l1 h8 ((hx6.trans he7).trans he8)
    simp only [s0', hs9, i1, ov_s, faV_p, ldV_c, Nat.add_zero, m2, hw0, ia_nat hw9, Nat.zero_add, Nat.mul_one]
    refine row_st hc8 hw9 fun h9 ho9 hc9 => ?_
    have k9 : Ext h6 h9 := fun q o e => (ho9 q (ne_fresh (he7 _ _ e) hbw)).trans (he8 _ _ (he7 _ _ e))
    rw [seqM_eq]
    unfold d_doormanlaw22_RaceFinds_19
    refine loop_on [0, 7, 8, 9, 10] (fun s' h' => Ext h6 h' ∧ ∃ k : Nat, k ≤ n ∧ s' 11 = .int .i64 k ∧ h' bw = some (.cells (rowI 10 (fun v => wantN xs n v k)).toArray ty_10_int (0, 0))) (fun s' _ => (n - num (s' 11)).toNat)
      ⟨k9, 0, by omega, rfl, ?_⟩ ?_
    · rw [hc9]
      congr 2
      rw [rowI_ext (k' := fun v => wantN xs n v 0) fun q hq => ?_]
      by_cases e : q = w
      · subst e; simp [cset1, wantN, hwn]
      · simp [cset1, e, wantN, hwn, Ne.symm e]
    rintro sa ha hfa ⟨hka, k, hkn', hs11, hca⟩
    have a0 : sa 0 = v := by simpa [s0'] using hfa 0 (by simp)
    have a7 : sa 7 = av := by simpa [s7'] using hfa 7 (by simp)
    have a8 : sa 8 = kw := by simpa [s8'] using hfa 8 (by simp)
    have a9 : sa 9 = .int .i64 n := by simpa [hs9] using hfa 9 (by simp)
    have a10 : sa 10 = .pointer (some ⟨bw, 0, none⟩) := by simpa using hfa 10 (by simp)
    have hwk : IntKind.i64.wrap ((k : Int) + 1) = k + 1 := wrap64_id (by omega) (by omega)
    unfold d_doormanlaw22_RaceFinds_20
    simp only [hs11, a9, bin_lss, ov_s, cd_b]
    refine ⟨fun hck => ?_, fun hck => ?_⟩
    rotate_left
    · have hc' : ¬ ((k : Int) < n) := by simpa using hck
      have : k = n := by omega
      subst this
      simp
      unfold d_doormanlaw22_RaceFinds_25
      refine loop_on [0, 7, 8, 9, 10] (fun s' h' => h' = ha ∧ ∃ q : Nat, q ≤ 10 ∧ s' 12 = .int .i64 q) (fun s' _ => (10 - num (s' 12)).toNat) ⟨rfl, 0, by omega, rfl⟩ ?_
      rintro sb hb' hfb ⟨rfl, q, hq10, hs12⟩
      have b0 : sb 0 = v := by simpa [a0] using hfb 0 (by simp)
      have b7 : sb 7 = av := by simpa [a7] using hfb 7 (by simp)
      have b8 : sb 8 = kw := by simpa [a8] using hfb 8 (by simp)
      have b9 : sb 9 = .int .i64 k := by simpa [a9] using hfb 9 (by simp)
      have b10 : sb 10 = .pointer (some ⟨bw, 0, none⟩) := by simpa [a10] using hfb 10 (by simp)
      unfold d_doormanlaw22_RaceFinds_26
      simp only [hs12, bin_lss, ov_s, cd_b]
      refine ⟨fun hcq => ?_, fun hcq => ?_⟩
      rotate_left
      · simp
        exact hJ _ _ _ ⟨rfl, by simp [b0, b7, b8, b9, s0', s7', s8', hs9], hka⟩
      have hq : q < 10 := by have : ((q : Int) < 10) := by simpa using hcq
                             omega
      have hwq : IntKind.i64.wrap ((q : Int) + 1) = q + 1 := wrap64_id (by omega) (by omega)
      obtain ⟨g', g1', g2', g3'⟩ := row1_at (k := .i64) (hkn.1.ext hka) hlt
      simp only [hlt, if_true] at g3'
      obtain ⟨g4, g5, g6, g7⟩ := row1_at (k := .i64) (hrow.ext hka) hq
      have hwant := wantN_kn (xs := xs) (n := k) (v := q) (by omega) hct hq
      have hcr := cel_row hca hq
      rw [hwant] at hcr
      unfold d_doormanlaw22_RaceFinds_27
      simp only [b8, b9, hs12, g2', g3', ov_s, ldV_c, g6, g7, b10, ia_nat hq, Nat.zero_add, Nat.mul_one, hcr, bin_neq, cd_b]
      refine ⟨fun hh => absurd hh (by simp [KN]), fun _ => ?_⟩
      unfold d_doormanlaw22_RaceFinds_29
      simp [hs12, hwq, b0, b7, b8, b9, b10, a0, a7, a8, a9, a10]
      exact ⟨⟨q + 1, by omega, by simp⟩, by omega⟩
    have hlk : k < n := by have : ((k : Int) < n) := by simpa using hck
                           omega
    unfold d_doormanlaw22_RaceFinds_21
    refine seq_cut (fun m' s' h' => m' = [] ∧ (∀ q ∈ [0, 7, 8, 9, 10, 11], s' q = sa q) ∧ Ext h6 h' ∧ h' bw = some (.cells (rowI 10 (fun v => wantN xs n v (k + 1))).toArray ty_10_int (0, 0))) (fun J2 hJ2 _ _ => ?_) ?_
    rotate_left
    · rintro m' s' h' ⟨rfl, hf', hk', hc'⟩
      simp [hf' 0 (by simp), hf' 7 (by simp), hf' 8 (by simp), hf' 9 (by simp), hf' 10 (by simp), hf' 11 (by simp), hs11, hwk, a0, a7, a8, a9, a10, s0', s7', s8', hs9]
      exact ⟨⟨hk', k + 1, by omega, by simp, hc'⟩, by omega⟩
    obtain ⟨ga, u, gb, t1, t2, t3, t4, t5⟩ := (ht6.ext hka).at (k := .i64) (k' := .i64) (i := n) (j := k) (by omega) (by omega)
    rw [atab_row _ _ _ _ hlt] at t5
    unfold d_doormanlaw22_RaceFinds_22
    simp only [a7, a9, hs11, t1, t2, t4, t5, ov_s, ldV_c, cd_b]
    refine ⟨fun hr => ?_, fun hr => ?_⟩
    rotate_left
    · unfold d_doormanlaw22_RaceFinds_24
      refine hJ2 _ _ _ ⟨rfl, by simp, hka, ?_⟩
      rw [hca]; simp [wantN, hr]
    obtain ⟨bk, ok, ik, lk'⟩ := rowA_at (k := .i64) x (show k < xs.length by omega)
    obtain ⟨n2, _, _⟩ := lk' ha (hx6.trans hka)
    have hck := (rowR_cnt hr).1
    have hrk := who_rng hck
    obtain ⟨u', hu0⟩ : ∃ u : Nat, (act xs k).who = u := ⟨(act xs k).who.toNat, by omega⟩
    have hun : (act xs k).who.toNat = u' := by omega
    have hu9 : u' < 10 := by omega
    have hrg := wantN_rng (xs := xs) (n := n) (v := u') k
    have hwu : IntKind.i64.wrap (wantN xs n u' k + 1) = wantN xs n u' k + 1 := wrap64_id (by omega) (by omega)
    unfold d_doormanlaw22_RaceFinds_23
    simp only [a0, hs11, ik, ov_s, faV_p, ldV_c, Nat.add_zero, n2, hu0, a10, ia_nat hu9, Nat.zero_add, Nat.mul_one, cel_row hca hu9, bin_add, hwu]
    refine row_st hca hu9 fun hb ho' hc' => ?_
    have fbw : h6 bw = none := fresh_of he7 hbw
    refine hJ2 _ _ _ ⟨rfl, by simp, fun q o e => (ho' q (ne_fresh e fbw)).trans (hka _ _ e), ?_⟩
    rw [hc']
    congr 2
    rw [rowI_ext (k' := fun v => wantN xs n v (k + 1)) fun q hq => ?_]
    by_cases e : q = u'
    · subst e; simp [cset1, wantN, hr, hun]
    · simp [cset1, e, wantN, hun, Ne.symm e]
end Go.Proofs.Ytfeglbniahebaaa
