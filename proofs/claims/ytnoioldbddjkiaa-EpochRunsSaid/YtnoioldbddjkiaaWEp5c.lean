/- EpochRuns: the cases of a round. No condition but that the slice can be read and its numbers are of their kinds. -/
import Derived.Test.YtnoioldbddjkiaaEpoL
import Derived.Test.YtnoioldbddjkiaaOrd
import Derived.Deep.RegionWith
import Derived.Deep.DeepCutAuto
import Derived.BigQuiet
import Derived.BigRegion
import Derived.Deep.CutBlock
import Derived.Test.YtnoioldbddjkiaaCode
namespace Go.Proofs.Ytnoioldbddjkiaa
open Go Go.RowKit
set_option linter.unusedVariables false
set_option linter.unusedSimpArgs false
theorem add_field (a : Addr) (n j : Nat) : a.add (n + (j + 1)) = ⟨(a.add n).block, (a.add n).off + (j + 1), none⟩ := by
  unfold Addr.add
  rw [if_neg (by omega)]
  split
  · simp_all
  · simp; omega
/-- The block of the switch. -/
noncomputable def blkRuns : Code := ((Try.f7.body.bind (findBlock 2)).getD .skip)
set_option maxHeartbeats 8000000 in
set_option maxRecDepth 1000000 in
theorem runs_case0 {w W : World} {b1 b2 X k : Nat} {s : Ep} {d on n at_ : Int} {sv : Option Addr} {scv : Nat} (hok : OkEp s k) (hk6 : k ≤ 60) (hd : d % 6 = 0) (o0 : -128 ≤ on) (o1 : on ≤ 127) (n0 : -9223372036854775808 ≤ n) (n1 : n ≤ 9223372036854775807) (t0 : -9223372036854775808 ≤ at_) (t1 : at_ ≤ 9223372036854775807)
    (HW : Heap w W [epoP b1 s, rfoP b2 s, blkP X 45 #[.int .u8 d, .int .i8 on, .int .i64 n, .int .i64 at_]]) (r0 : W.cell? ⟨b2, 0, none⟩ = some (.int .i64 s.now)) (r1 : W.cell? ⟨b2, 1, none⟩ = some (.slice sv s.said.length scv))
    (x0 : W.cell? ⟨X, 0, none⟩ = some (.int .u8 d)) (x1 : W.cell? ⟨X, 1, none⟩ = some (.int .i8 on)) (x2 : W.cell? ⟨X, 2, none⟩ = some (.int .i64 n)) (x3 : W.cell? ⟨X, 3, none⟩ = some (.int .i64 at_)) (nb0 : 0 ≤ s.now) (nb1 : s.now ≤ (k : Int)) (nb2 : s.now ≤ 60)
    (c0 c1 c2 c3 c4 c7 c12 c13 c14 c15 c16 c17 c18 c19 c20 c21 c22 c23 c24 c25 c26 c27 c28 c29 c30 c31 c32 c33 c34 c35 c36 c37 c38 c39 c40 c41 c42 c43 c44 c46 c47 c48 c49 c50 c51 c52 c53 c54 c55 c56 c57 c58 c59 c60 c61 c62 c63 c64 c65 c66 c67 c68 c69 c70 c71 c72 c73 c74 c75 c76 c77 c78 c79 c80 c81 c82 c83 c84 c85 c86 c87 c88 c89 c90 c91 c92 c93 c94 c95 c96 c97 c98 c99 c100 c101 c102 c103 c104 c105 c106 c107 c108 c109 c110 c111 c112 c113 c114 c115 c116 c117 c118 c119 c120 c121 c122 c123 c124 c125 c126 c127 c128 c129 c130 c131 c132 c133 c134 c135 c136 c137 c138 c139 c140 c141 c142 c143 c144 c145 c146 c147 c148 c149 c150 c151 c152 c153 c154 c155 c156 c157 c158 c159 c160 c161 c162 c163 c164 c165 c166 c167 c168 c169 c170 c171 c172 c173 c174 c175 c176 c177 c178 c179 c180 c181 c182 c183 c184 c185 c186 c187 c188 : Value) (Kp : Act → World → Prop) (Q0 : Exit → Act → World → Prop)
    (hK : ∀ (v10 v11 v12 v13 v45 v46 v47 v48 v49 v50 v51 v52 v53 v54 v55 v56 v57 v58 v59 v60 v61 v62 v63 v64 v65 v66 v67 v68 v69 v70 v71 v72 v73 v74 v75 v76 v77 v78 v79 v80 v81 v82 v83 v84 v85 v86 v87 v88 v89 v90 v91 v92 v93 v94 v95 v96 v97 v98 v99 v100 v101 v102 v103 v104 v105 v106 v107 v108 v109 v110 v111 v112 v113 v114 v115 v116 v117 v118 v119 v120 v121 v122 v123 v124 v125 v126 v127 v128 v129 v130 v131 v132 v133 v134 v135 v136 v137 v138 v139 v140 v141 v142 v143 v144 v145 v146 v147 v148 v149 v150 v151 v152 v153 v154 v155 v156 v157 v158 v159 v160 v161 : Value) (w' : World), (v10 = .bool true ∧ ∃ s' : Ep, OkEp s' (k + 1) ∧ Heap w w' [epoP b1 s', rfoP b2 s']) → Kp ⟨#[c0, c1, c2, c3, c4, .pointer (some ⟨b1, 0, none⟩), .pointer (some ⟨b2, 0, none⟩), c7, .pointer (some ⟨X, 0, none⟩), .int .i64 on, v10, v11, v12, v13, c14, c15, c16, c17, c18, c19, c20, c21, c22, c23, c24, c25, c26, c27, c28, c29, c30, c31, c32, c33, c34, c35, c36, c37, c38, c39, c40, c41, c42, c43, c44, v45, v46, v47, v48, v49, v50, v51, v52, v53, v54, v55, v56, v57, v58, v59, v60, v61, v62, v63, v64, v65, v66, v67, v68, v69, v70, v71, v72, v73, v74, v75, v76, v77, v78, v79, v80, v81, v82, v83, v84, v85, v86, v87, v88, v89, v90, v91, v92, v93, v94, v95, v96, v97, v98, v99, v100, v101, v102, v103, v104, v105, v106, v107, v108, v109, v110, v111, v112, v113, v114, v115, v116, v117, v118, v119, v120, v121, v122, v123, v124, v125, v126, v127, v128, v129, v130, v131, v132, v133, v134, v135, v136, v137, v138, v139, v140, v141, v142, v143, v144, v145, v146, v147, v148, v149, v150, v151, v152, v153, v154, v155, v156, v157, v158, v159, v160, v161, c162, c163, c164, c165, c166, c167, c168, c169, c170, c171, c172, c173, c174, c175, c176, c177, c178, c179, c180, c181, c182, c183, c184, c185, c186, c187, c188], []⟩ w') :
    Code.wp Try.prog blkRuns (Exit.then Kp Q0) ⟨#[c0, c1, c2, c3, c4, .pointer (some ⟨b1, 0, none⟩), .pointer (some ⟨b2, 0, none⟩), c7, .pointer (some ⟨X, 0, none⟩), .int .i64 on, .bool true, .bool (isT on s.said.length), c12, c13, c14, c15, c16, c17, c18, c19, c20, c21, c22, c23, c24, c25, c26, c27, c28, c29, c30, c31, c32, c33, c34, c35, c36, c37, c38, c39, c40, c41, c42, c43, c44, .int .u8 (d % 6), c46, c47, c48, c49, c50, c51, c52, c53, c54, c55, c56, c57, c58, c59, c60, c61, c62, c63, c64, c65, c66, c67, c68, c69, c70, c71, c72, c73, c74, c75, c76, c77, c78, c79, c80, c81, c82, c83, c84, c85, c86, c87, c88, c89, c90, c91, c92, c93, c94, c95, c96, c97, c98, c99, c100, c101, c102, c103, c104, c105, c106, c107, c108, c109, c110, c111, c112, c113, c114, c115, c116, c117, c118, c119, c120, c121, c122, c123, c124, c125, c126, c127, c128, c129, c130, c131, c132, c133, c134, c135, c136, c137, c138, c139, c140, c141, c142, c143, c144, c145, c146, c147, c148, c149, c150, c151, c152, c153, c154, c155, c156, c157, c158, c159, c160, c161, c162, c163, c164, c165, c166, c167, c168, c169, c170, c171, c172, c173, c174, c175, c176, c177, c178, c179, c180, c181, c182, c183, c184, c185, c186, c187, c188], []⟩ W := by
  have HKK := Lib.hid hK
  clear hK
  conv => arg 2; whnf
  have key : ∀ old : Int, (old = s.now ∨ (old == s.now) = false) → ∀ w5, Heap w w5 [epoP b1 (swapEp old s), rfoP b2 s, blkP X 45 #[.int .u8 d, .int .i8 on, .int .i64 n, .int .i64 at_]] → (old = s.now → Heap w (w5.setCell ⟨b2, 0, none⟩ (.int .i64 (s.now + 1))) [epoP b1 (swapEp old s), rfoP b2 (swapEp old s)]) ∧ (old ≠ s.now → Heap w w5 [epoP b1 (swapEp old s), rfoP b2 (swapEp old s)]) := fun old _ w5 h5 => by
    refine ⟨fun e => ?_, fun e => ?_⟩
    · have := Heap.first2 (rfo_now h5 1 rfl (s.now + 1))
      have e1 : swapEp old s = { s with now := s.now + 1 } := by unfold swapEp; rw [if_pos e.symm]
      rw [e1] at this ⊢
      exact this
    · have e1 : swapEp old s = s := by unfold swapEp; rw [if_neg (fun x => e x.symm)]
      rw [e1] at h5 ⊢
      exact h5.first2
  have KEY := Lib.hid key
  clear key
  by_cases ho : on < 0
  · by_cases hn : n = s.now
    · subst hn
      have C := Swap_h HW.drew 0 rfl s.now ⟨nb0, by omega⟩
      rw [decide_eq_true rfl] at C
      have CC := Lib.hid C
      clear C
      go_wp2_with fail
      go_region_held3 (fun w' => w'.cell? ⟨b2, 0, none⟩ = some (.int .i64 s.now)) (first | go_keep | exact y0) ((go_at_call 15; refine CC.out.mono ?_; rintro e w5 ⟨rfl, H5⟩; obtain ⟨_, _, _, _, hb⟩ := rfo_cells H5 1 rfl; have y0 : w5.cell? ⟨b2, 0, none⟩ = some (.int .i64 s.now) := hb.cell 0; have z0 := hb.froz 0; clear hb))
      all_goals
        go_wp2_with fail
        refine HKK.out _ _ _ _ _ _ _ _ _ _ _ _ _ _ _ _ _ _ _ _ _ _ _ _ _ _ _ _ _ _ _ _ _ _ _ _ _ _ _ _ _ _ _ _ _ _ _ _ _ _ _ _ _ _ _ _ _ _ _ _ _ _ _ _ _ _ _ _ _ _ _ _ _ _ _ _ _ _ _ _ _ _ _ _ _ _ _ _ _ _ _ _ _ _ _ _ _ _ _ _ _ _ _ _ _ _ _ _ _ _ _ _ _ _ _ _ _ _ _ _ _ _ ?_
        exact ⟨rfl, swapEp s.now s, hok.swap _, (KEY.out _ (.inl rfl) _ H5).1 rfl⟩
    · have C := Swap_h HW.drew 0 rfl n ⟨nb0, by omega⟩
      rw [decide_eq_false (fun x => hn x.symm)] at C
      have CC := Lib.hid C
      have hb1 : (n == s.now) = false := by simpa using hn
      have HN1 := Lib.hid hn
      clear C hn
      go_wp2_with fail
      go_region_held3 (fun w' => w'.cell? ⟨b2, 0, none⟩ = some (.int .i64 s.now)) (first | go_keep | exact y0) ((go_at_call 15; refine CC.out.mono ?_; rintro e w5 ⟨rfl, H5⟩; obtain ⟨_, _, _, _, hb⟩ := rfo_cells H5 1 rfl; have y0 : w5.cell? ⟨b2, 0, none⟩ = some (.int .i64 s.now) := hb.cell 0; have z0 := hb.froz 0; clear hb))
      all_goals
        go_wp2_with fail
        refine HKK.out _ _ _ _ _ _ _ _ _ _ _ _ _ _ _ _ _ _ _ _ _ _ _ _ _ _ _ _ _ _ _ _ _ _ _ _ _ _ _ _ _ _ _ _ _ _ _ _ _ _ _ _ _ _ _ _ _ _ _ _ _ _ _ _ _ _ _ _ _ _ _ _ _ _ _ _ _ _ _ _ _ _ _ _ _ _ _ _ _ _ _ _ _ _ _ _ _ _ _ _ _ _ _ _ _ _ _ _ _ _ _ _ _ _ _ _ _ _ _ _ _ _ ?_
        exact ⟨rfl, swapEp n s, hok.swap _, (KEY.out _ (.inr hb1) _ H5).2 HN1.out⟩
  · have C := Swap_h HW.drew 0 rfl s.now ⟨nb0, by omega⟩
    rw [decide_eq_true rfl] at C
    have CC := Lib.hid C
    clear C
    go_wp2_with fail
    go_region_held3 (fun w' => w'.cell? ⟨b2, 0, none⟩ = some (.int .i64 s.now)) (first | go_keep | exact y0) ((go_at_call 15; refine CC.out.mono ?_; rintro e w5 ⟨rfl, H5⟩; obtain ⟨_, _, _, _, hb⟩ := rfo_cells H5 1 rfl; have y0 : w5.cell? ⟨b2, 0, none⟩ = some (.int .i64 s.now) := hb.cell 0; have z0 := hb.froz 0; clear hb))
    all_goals
      go_wp2_with fail
      refine HKK.out _ _ _ _ _ _ _ _ _ _ _ _ _ _ _ _ _ _ _ _ _ _ _ _ _ _ _ _ _ _ _ _ _ _ _ _ _ _ _ _ _ _ _ _ _ _ _ _ _ _ _ _ _ _ _ _ _ _ _ _ _ _ _ _ _ _ _ _ _ _ _ _ _ _ _ _ _ _ _ _ _ _ _ _ _ _ _ _ _ _ _ _ _ _ _ _ _ _ _ _ _ _ _ _ _ _ _ _ _ _ _ _ _ _ _ _ _ _ _ _ _ _ ?_
      exact ⟨rfl, swapEp s.now s, hok.swap _, (KEY.out _ (.inl rfl) _ H5).1 rfl⟩
set_option maxHeartbeats 8000000 in
set_option maxRecDepth 1000000 in
theorem runs_case1 {w W : World} {b1 b2 X k : Nat} {s : Ep} {d on n at_ : Int} {sv : Option Addr} {scv : Nat} (hok : OkEp s k) (hk6 : k ≤ 60) (hd : d % 6 = 1) (o0 : -128 ≤ on) (o1 : on ≤ 127) (n0 : -9223372036854775808 ≤ n) (n1 : n ≤ 9223372036854775807) (t0 : -9223372036854775808 ≤ at_) (t1 : at_ ≤ 9223372036854775807)
    (HW : Heap w W [epoP b1 s, rfoP b2 s, blkP X 45 #[.int .u8 d, .int .i8 on, .int .i64 n, .int .i64 at_]]) (r0 : W.cell? ⟨b2, 0, none⟩ = some (.int .i64 s.now)) (r1 : W.cell? ⟨b2, 1, none⟩ = some (.slice sv s.said.length scv))
    (x0 : W.cell? ⟨X, 0, none⟩ = some (.int .u8 d)) (x1 : W.cell? ⟨X, 1, none⟩ = some (.int .i8 on)) (x2 : W.cell? ⟨X, 2, none⟩ = some (.int .i64 n)) (x3 : W.cell? ⟨X, 3, none⟩ = some (.int .i64 at_)) (nb0 : 0 ≤ s.now) (nb1 : s.now ≤ (k : Int)) (nb2 : s.now ≤ 60)
    (c0 c1 c2 c3 c4 c7 c12 c13 c14 c15 c16 c17 c18 c19 c20 c21 c22 c23 c24 c25 c26 c27 c28 c29 c30 c31 c32 c33 c34 c35 c36 c37 c38 c39 c40 c41 c42 c43 c44 c46 c47 c48 c49 c50 c51 c52 c53 c54 c55 c56 c57 c58 c59 c60 c61 c62 c63 c64 c65 c66 c67 c68 c69 c70 c71 c72 c73 c74 c75 c76 c77 c78 c79 c80 c81 c82 c83 c84 c85 c86 c87 c88 c89 c90 c91 c92 c93 c94 c95 c96 c97 c98 c99 c100 c101 c102 c103 c104 c105 c106 c107 c108 c109 c110 c111 c112 c113 c114 c115 c116 c117 c118 c119 c120 c121 c122 c123 c124 c125 c126 c127 c128 c129 c130 c131 c132 c133 c134 c135 c136 c137 c138 c139 c140 c141 c142 c143 c144 c145 c146 c147 c148 c149 c150 c151 c152 c153 c154 c155 c156 c157 c158 c159 c160 c161 c162 c163 c164 c165 c166 c167 c168 c169 c170 c171 c172 c173 c174 c175 c176 c177 c178 c179 c180 c181 c182 c183 c184 c185 c186 c187 c188 : Value) (Kp : Act → World → Prop) (Q0 : Exit → Act → World → Prop)
    (hK : ∀ (v10 v11 v12 v13 v45 v46 v47 v48 v49 v50 v51 v52 v53 v54 v55 v56 v57 v58 v59 v60 v61 v62 v63 v64 v65 v66 v67 v68 v69 v70 v71 v72 v73 v74 v75 v76 v77 v78 v79 v80 v81 v82 v83 v84 v85 v86 v87 v88 v89 v90 v91 v92 v93 v94 v95 v96 v97 v98 v99 v100 v101 v102 v103 v104 v105 v106 v107 v108 v109 v110 v111 v112 v113 v114 v115 v116 v117 v118 v119 v120 v121 v122 v123 v124 v125 v126 v127 v128 v129 v130 v131 v132 v133 v134 v135 v136 v137 v138 v139 v140 v141 v142 v143 v144 v145 v146 v147 v148 v149 v150 v151 v152 v153 v154 v155 v156 v157 v158 v159 v160 v161 : Value) (w' : World), (v10 = .bool true ∧ ∃ s' : Ep, OkEp s' (k + 1) ∧ Heap w w' [epoP b1 s', rfoP b2 s']) → Kp ⟨#[c0, c1, c2, c3, c4, .pointer (some ⟨b1, 0, none⟩), .pointer (some ⟨b2, 0, none⟩), c7, .pointer (some ⟨X, 0, none⟩), .int .i64 on, v10, v11, v12, v13, c14, c15, c16, c17, c18, c19, c20, c21, c22, c23, c24, c25, c26, c27, c28, c29, c30, c31, c32, c33, c34, c35, c36, c37, c38, c39, c40, c41, c42, c43, c44, v45, v46, v47, v48, v49, v50, v51, v52, v53, v54, v55, v56, v57, v58, v59, v60, v61, v62, v63, v64, v65, v66, v67, v68, v69, v70, v71, v72, v73, v74, v75, v76, v77, v78, v79, v80, v81, v82, v83, v84, v85, v86, v87, v88, v89, v90, v91, v92, v93, v94, v95, v96, v97, v98, v99, v100, v101, v102, v103, v104, v105, v106, v107, v108, v109, v110, v111, v112, v113, v114, v115, v116, v117, v118, v119, v120, v121, v122, v123, v124, v125, v126, v127, v128, v129, v130, v131, v132, v133, v134, v135, v136, v137, v138, v139, v140, v141, v142, v143, v144, v145, v146, v147, v148, v149, v150, v151, v152, v153, v154, v155, v156, v157, v158, v159, v160, v161, c162, c163, c164, c165, c166, c167, c168, c169, c170, c171, c172, c173, c174, c175, c176, c177, c178, c179, c180, c181, c182, c183, c184, c185, c186, c187, c188], []⟩ w') :
    Code.wp Try.prog blkRuns (Exit.then Kp Q0) ⟨#[c0, c1, c2, c3, c4, .pointer (some ⟨b1, 0, none⟩), .pointer (some ⟨b2, 0, none⟩), c7, .pointer (some ⟨X, 0, none⟩), .int .i64 on, .bool true, .bool (isT on s.said.length), c12, c13, c14, c15, c16, c17, c18, c19, c20, c21, c22, c23, c24, c25, c26, c27, c28, c29, c30, c31, c32, c33, c34, c35, c36, c37, c38, c39, c40, c41, c42, c43, c44, .int .u8 (d % 6), c46, c47, c48, c49, c50, c51, c52, c53, c54, c55, c56, c57, c58, c59, c60, c61, c62, c63, c64, c65, c66, c67, c68, c69, c70, c71, c72, c73, c74, c75, c76, c77, c78, c79, c80, c81, c82, c83, c84, c85, c86, c87, c88, c89, c90, c91, c92, c93, c94, c95, c96, c97, c98, c99, c100, c101, c102, c103, c104, c105, c106, c107, c108, c109, c110, c111, c112, c113, c114, c115, c116, c117, c118, c119, c120, c121, c122, c123, c124, c125, c126, c127, c128, c129, c130, c131, c132, c133, c134, c135, c136, c137, c138, c139, c140, c141, c142, c143, c144, c145, c146, c147, c148, c149, c150, c151, c152, c153, c154, c155, c156, c157, c158, c159, c160, c161, c162, c163, c164, c165, c166, c167, c168, c169, c170, c171, c172, c173, c174, c175, c176, c177, c178, c179, c180, c181, c182, c183, c184, c185, c186, c187, c188], []⟩ W := by
  have HKK := Lib.hid hK
  clear hK
  conv => arg 2; whnf
  cases hT : isT on s.said.length with
  | false =>
    have hsn : sayEp on n s = s := by unfold sayEp; rw [if_neg (by rw [hT]; simp)]
    have C := Say_h HW 0 rfl on n
    rw [hsn] at C
    have CC := Lib.hid C
    clear C hsn
    go_wp2_with fail
    refine CC.out.mono ?_
    rintro e w5 ⟨rfl, H5⟩
    go_wp2_with fail
    refine HKK.out _ _ _ _ _ _ _ _ _ _ _ _ _ _ _ _ _ _ _ _ _ _ _ _ _ _ _ _ _ _ _ _ _ _ _ _ _ _ _ _ _ _ _ _ _ _ _ _ _ _ _ _ _ _ _ _ _ _ _ _ _ _ _ _ _ _ _ _ _ _ _ _ _ _ _ _ _ _ _ _ _ _ _ _ _ _ _ _ _ _ _ _ _ _ _ _ _ _ _ _ _ _ _ _ _ _ _ _ _ _ _ _ _ _ _ _ _ _ _ _ _ _ ?_
    exact ⟨rfl, s, hok.more (Nat.le_succ _), Heap.first2 H5⟩
  | true =>
    have CC := Lib.hid (Say_h HW 0 rfl on n)
    obtain ⟨t0', t1'⟩ := isT_true hT
    go_wp2_with fail
    refine CC.out.mono ?_
    rintro e w5 ⟨rfl, H5⟩
    have hbX := Heap.blk H5 2 rfl
    have x2' : w5.cell? ⟨X, 2, none⟩ = some (.int .i64 n) := hbX.cell 2
    obtain ⟨g, cv', al', cl', hb, y1, z1, U⟩ := rfo_said H5 1 rfl on hT
    have y0 : w5.cell? ⟨b2, 1, none⟩ = some (.slice (some ⟨g, 0, none⟩) s.said.length cv') := hb.cell 1
    have UU := Lib.hid (U n)
    clear U hb hbX
    go_wp2_with fail
    go_region
    all_goals
      go_wp2_with fail
      refine HKK.out _ _ _ _ _ _ _ _ _ _ _ _ _ _ _ _ _ _ _ _ _ _ _ _ _ _ _ _ _ _ _ _ _ _ _ _ _ _ _ _ _ _ _ _ _ _ _ _ _ _ _ _ _ _ _ _ _ _ _ _ _ _ _ _ _ _ _ _ _ _ _ _ _ _ _ _ _ _ _ _ _ _ _ _ _ _ _ _ _ _ _ _ _ _ _ _ _ _ _ _ _ _ _ _ _ _ _ _ _ _ _ _ _ _ _ _ _ _ _ _ _ _ ?_
      exact ⟨rfl, sayEp on n s, (hok.more (Nat.le_succ _)).say on n |>.1, Heap.first2 UU.out.drew⟩
set_option maxHeartbeats 8000000 in
set_option maxRecDepth 1000000 in
theorem runs_case2 {w W : World} {b1 b2 X k : Nat} {s : Ep} {d on n at_ : Int} {sv : Option Addr} {scv : Nat} (hok : OkEp s k) (hk6 : k ≤ 60) (hd : d % 6 = 2) (o0 : -128 ≤ on) (o1 : on ≤ 127) (n0 : -9223372036854775808 ≤ n) (n1 : n ≤ 9223372036854775807) (t0 : -9223372036854775808 ≤ at_) (t1 : at_ ≤ 9223372036854775807)
    (HW : Heap w W [epoP b1 s, rfoP b2 s, blkP X 45 #[.int .u8 d, .int .i8 on, .int .i64 n, .int .i64 at_]]) (r0 : W.cell? ⟨b2, 0, none⟩ = some (.int .i64 s.now)) (r1 : W.cell? ⟨b2, 1, none⟩ = some (.slice sv s.said.length scv))
    (x0 : W.cell? ⟨X, 0, none⟩ = some (.int .u8 d)) (x1 : W.cell? ⟨X, 1, none⟩ = some (.int .i8 on)) (x2 : W.cell? ⟨X, 2, none⟩ = some (.int .i64 n)) (x3 : W.cell? ⟨X, 3, none⟩ = some (.int .i64 at_)) (nb0 : 0 ≤ s.now) (nb1 : s.now ≤ (k : Int)) (nb2 : s.now ≤ 60)
    (c0 c1 c2 c3 c4 c7 c12 c13 c14 c15 c16 c17 c18 c19 c20 c21 c22 c23 c24 c25 c26 c27 c28 c29 c30 c31 c32 c33 c34 c35 c36 c37 c38 c39 c40 c41 c42 c43 c44 c46 c47 c48 c49 c50 c51 c52 c53 c54 c55 c56 c57 c58 c59 c60 c61 c62 c63 c64 c65 c66 c67 c68 c69 c70 c71 c72 c73 c74 c75 c76 c77 c78 c79 c80 c81 c82 c83 c84 c85 c86 c87 c88 c89 c90 c91 c92 c93 c94 c95 c96 c97 c98 c99 c100 c101 c102 c103 c104 c105 c106 c107 c108 c109 c110 c111 c112 c113 c114 c115 c116 c117 c118 c119 c120 c121 c122 c123 c124 c125 c126 c127 c128 c129 c130 c131 c132 c133 c134 c135 c136 c137 c138 c139 c140 c141 c142 c143 c144 c145 c146 c147 c148 c149 c150 c151 c152 c153 c154 c155 c156 c157 c158 c159 c160 c161 c162 c163 c164 c165 c166 c167 c168 c169 c170 c171 c172 c173 c174 c175 c176 c177 c178 c179 c180 c181 c182 c183 c184 c185 c186 c187 c188 : Value) (Kp : Act → World → Prop) (Q0 : Exit → Act → World → Prop)
    (hK : ∀ (v10 v11 v12 v13 v45 v46 v47 v48 v49 v50 v51 v52 v53 v54 v55 v56 v57 v58 v59 v60 v61 v62 v63 v64 v65 v66 v67 v68 v69 v70 v71 v72 v73 v74 v75 v76 v77 v78 v79 v80 v81 v82 v83 v84 v85 v86 v87 v88 v89 v90 v91 v92 v93 v94 v95 v96 v97 v98 v99 v100 v101 v102 v103 v104 v105 v106 v107 v108 v109 v110 v111 v112 v113 v114 v115 v116 v117 v118 v119 v120 v121 v122 v123 v124 v125 v126 v127 v128 v129 v130 v131 v132 v133 v134 v135 v136 v137 v138 v139 v140 v141 v142 v143 v144 v145 v146 v147 v148 v149 v150 v151 v152 v153 v154 v155 v156 v157 v158 v159 v160 v161 : Value) (w' : World), (v10 = .bool true ∧ ∃ s' : Ep, OkEp s' (k + 1) ∧ Heap w w' [epoP b1 s', rfoP b2 s']) → Kp ⟨#[c0, c1, c2, c3, c4, .pointer (some ⟨b1, 0, none⟩), .pointer (some ⟨b2, 0, none⟩), c7, .pointer (some ⟨X, 0, none⟩), .int .i64 on, v10, v11, v12, v13, c14, c15, c16, c17, c18, c19, c20, c21, c22, c23, c24, c25, c26, c27, c28, c29, c30, c31, c32, c33, c34, c35, c36, c37, c38, c39, c40, c41, c42, c43, c44, v45, v46, v47, v48, v49, v50, v51, v52, v53, v54, v55, v56, v57, v58, v59, v60, v61, v62, v63, v64, v65, v66, v67, v68, v69, v70, v71, v72, v73, v74, v75, v76, v77, v78, v79, v80, v81, v82, v83, v84, v85, v86, v87, v88, v89, v90, v91, v92, v93, v94, v95, v96, v97, v98, v99, v100, v101, v102, v103, v104, v105, v106, v107, v108, v109, v110, v111, v112, v113, v114, v115, v116, v117, v118, v119, v120, v121, v122, v123, v124, v125, v126, v127, v128, v129, v130, v131, v132, v133, v134, v135, v136, v137, v138, v139, v140, v141, v142, v143, v144, v145, v146, v147, v148, v149, v150, v151, v152, v153, v154, v155, v156, v157, v158, v159, v160, v161, c162, c163, c164, c165, c166, c167, c168, c169, c170, c171, c172, c173, c174, c175, c176, c177, c178, c179, c180, c181, c182, c183, c184, c185, c186, c187, c188], []⟩ w') :
    Code.wp Try.prog blkRuns (Exit.then Kp Q0) ⟨#[c0, c1, c2, c3, c4, .pointer (some ⟨b1, 0, none⟩), .pointer (some ⟨b2, 0, none⟩), c7, .pointer (some ⟨X, 0, none⟩), .int .i64 on, .bool true, .bool (isT on s.said.length), c12, c13, c14, c15, c16, c17, c18, c19, c20, c21, c22, c23, c24, c25, c26, c27, c28, c29, c30, c31, c32, c33, c34, c35, c36, c37, c38, c39, c40, c41, c42, c43, c44, .int .u8 (d % 6), c46, c47, c48, c49, c50, c51, c52, c53, c54, c55, c56, c57, c58, c59, c60, c61, c62, c63, c64, c65, c66, c67, c68, c69, c70, c71, c72, c73, c74, c75, c76, c77, c78, c79, c80, c81, c82, c83, c84, c85, c86, c87, c88, c89, c90, c91, c92, c93, c94, c95, c96, c97, c98, c99, c100, c101, c102, c103, c104, c105, c106, c107, c108, c109, c110, c111, c112, c113, c114, c115, c116, c117, c118, c119, c120, c121, c122, c123, c124, c125, c126, c127, c128, c129, c130, c131, c132, c133, c134, c135, c136, c137, c138, c139, c140, c141, c142, c143, c144, c145, c146, c147, c148, c149, c150, c151, c152, c153, c154, c155, c156, c157, c158, c159, c160, c161, c162, c163, c164, c165, c166, c167, c168, c169, c170, c171, c172, c173, c174, c175, c176, c177, c178, c179, c180, c181, c182, c183, c184, c185, c186, c187, c188], []⟩ W := by
  have HKK := Lib.hid hK
  clear hK
  conv => arg 2; whnf
  cases hT : isT on s.said.length with
  | false =>
    have hsn : saidEp on s = -1 := by unfold saidEp; rw [if_neg (by rw [hT]; simp)]
    have C := Said_h HW 0 rfl on
    rw [hsn] at C
    have CC := Lib.hid C
    clear C hsn
    go_wp2_with fail
    refine CC.out.mono ?_
    rintro e w5 ⟨rfl, hw⟩
    have hw := hw.symm
    subst hw
    go_wp2_with fail
    refine HKK.out _ _ _ _ _ _ _ _ _ _ _ _ _ _ _ _ _ _ _ _ _ _ _ _ _ _ _ _ _ _ _ _ _ _ _ _ _ _ _ _ _ _ _ _ _ _ _ _ _ _ _ _ _ _ _ _ _ _ _ _ _ _ _ _ _ _ _ _ _ _ _ _ _ _ _ _ _ _ _ _ _ _ _ _ _ _ _ _ _ _ _ _ _ _ _ _ _ _ _ _ _ _ _ _ _ _ _ _ _ _ _ _ _ _ _ _ _ _ _ _ _ _ ?_
    exact ⟨rfl, s, hok.more (Nat.le_succ _), HW.first2⟩
  | true =>
    have hsn : saidEp on s = s.said.getD on.toNat 0 := by unfold saidEp; rw [if_pos hT]
    have C := Said_h HW 0 rfl on
    rw [hsn] at C
    have CC := Lib.hid C
    clear C hsn
    obtain ⟨t0', t1'⟩ := isT_true hT
    clear r1
    obtain ⟨g, cv', al', cl', hb, y1, z1, U⟩ := rfo_said HW 1 rfl on hT
    have y0 : W.cell? ⟨b2, 1, none⟩ = some (.slice (some ⟨g, 0, none⟩) s.said.length cv') := hb.cell 1
    clear U hb
    generalize s.said.getD on.toNat 0 = y at *
    go_wp2_with fail
    refine CC.out.mono ?_
    rintro e w5 ⟨rfl, hw⟩
    have hw := hw.symm
    subst hw
    go_wp2_with fail
    refine HKK.out _ _ _ _ _ _ _ _ _ _ _ _ _ _ _ _ _ _ _ _ _ _ _ _ _ _ _ _ _ _ _ _ _ _ _ _ _ _ _ _ _ _ _ _ _ _ _ _ _ _ _ _ _ _ _ _ _ _ _ _ _ _ _ _ _ _ _ _ _ _ _ _ _ _ _ _ _ _ _ _ _ _ _ _ _ _ _ _ _ _ _ _ _ _ _ _ _ _ _ _ _ _ _ _ _ _ _ _ _ _ _ _ _ _ _ _ _ _ _ _ _ _ ?_
    exact ⟨by simp, s, hok.more (Nat.le_succ _), HW.first2⟩
set_option maxHeartbeats 8000000 in
set_option maxRecDepth 1000000 in
theorem runs_case3 {w W : World} {b1 b2 X k : Nat} {s : Ep} {d on n at_ : Int} {sv : Option Addr} {scv : Nat} (hok : OkEp s k) (hk6 : k ≤ 60) (hd : d % 6 = 3) (o0 : -128 ≤ on) (o1 : on ≤ 127) (n0 : -9223372036854775808 ≤ n) (n1 : n ≤ 9223372036854775807) (t0 : -9223372036854775808 ≤ at_) (t1 : at_ ≤ 9223372036854775807)
    (HW : Heap w W [epoP b1 s, rfoP b2 s, blkP X 45 #[.int .u8 d, .int .i8 on, .int .i64 n, .int .i64 at_]]) (r0 : W.cell? ⟨b2, 0, none⟩ = some (.int .i64 s.now)) (r1 : W.cell? ⟨b2, 1, none⟩ = some (.slice sv s.said.length scv))
    (x0 : W.cell? ⟨X, 0, none⟩ = some (.int .u8 d)) (x1 : W.cell? ⟨X, 1, none⟩ = some (.int .i8 on)) (x2 : W.cell? ⟨X, 2, none⟩ = some (.int .i64 n)) (x3 : W.cell? ⟨X, 3, none⟩ = some (.int .i64 at_)) (nb0 : 0 ≤ s.now) (nb1 : s.now ≤ (k : Int)) (nb2 : s.now ≤ 60)
    (c0 c1 c2 c3 c4 c7 c12 c13 c14 c15 c16 c17 c18 c19 c20 c21 c22 c23 c24 c25 c26 c27 c28 c29 c30 c31 c32 c33 c34 c35 c36 c37 c38 c39 c40 c41 c42 c43 c44 c46 c47 c48 c49 c50 c51 c52 c53 c54 c55 c56 c57 c58 c59 c60 c61 c62 c63 c64 c65 c66 c67 c68 c69 c70 c71 c72 c73 c74 c75 c76 c77 c78 c79 c80 c81 c82 c83 c84 c85 c86 c87 c88 c89 c90 c91 c92 c93 c94 c95 c96 c97 c98 c99 c100 c101 c102 c103 c104 c105 c106 c107 c108 c109 c110 c111 c112 c113 c114 c115 c116 c117 c118 c119 c120 c121 c122 c123 c124 c125 c126 c127 c128 c129 c130 c131 c132 c133 c134 c135 c136 c137 c138 c139 c140 c141 c142 c143 c144 c145 c146 c147 c148 c149 c150 c151 c152 c153 c154 c155 c156 c157 c158 c159 c160 c161 c162 c163 c164 c165 c166 c167 c168 c169 c170 c171 c172 c173 c174 c175 c176 c177 c178 c179 c180 c181 c182 c183 c184 c185 c186 c187 c188 : Value) (Kp : Act → World → Prop) (Q0 : Exit → Act → World → Prop)
    (hK : ∀ (v10 v11 v12 v13 v45 v46 v47 v48 v49 v50 v51 v52 v53 v54 v55 v56 v57 v58 v59 v60 v61 v62 v63 v64 v65 v66 v67 v68 v69 v70 v71 v72 v73 v74 v75 v76 v77 v78 v79 v80 v81 v82 v83 v84 v85 v86 v87 v88 v89 v90 v91 v92 v93 v94 v95 v96 v97 v98 v99 v100 v101 v102 v103 v104 v105 v106 v107 v108 v109 v110 v111 v112 v113 v114 v115 v116 v117 v118 v119 v120 v121 v122 v123 v124 v125 v126 v127 v128 v129 v130 v131 v132 v133 v134 v135 v136 v137 v138 v139 v140 v141 v142 v143 v144 v145 v146 v147 v148 v149 v150 v151 v152 v153 v154 v155 v156 v157 v158 v159 v160 v161 : Value) (w' : World), (v10 = .bool true ∧ ∃ s' : Ep, OkEp s' (k + 1) ∧ Heap w w' [epoP b1 s', rfoP b2 s']) → Kp ⟨#[c0, c1, c2, c3, c4, .pointer (some ⟨b1, 0, none⟩), .pointer (some ⟨b2, 0, none⟩), c7, .pointer (some ⟨X, 0, none⟩), .int .i64 on, v10, v11, v12, v13, c14, c15, c16, c17, c18, c19, c20, c21, c22, c23, c24, c25, c26, c27, c28, c29, c30, c31, c32, c33, c34, c35, c36, c37, c38, c39, c40, c41, c42, c43, c44, v45, v46, v47, v48, v49, v50, v51, v52, v53, v54, v55, v56, v57, v58, v59, v60, v61, v62, v63, v64, v65, v66, v67, v68, v69, v70, v71, v72, v73, v74, v75, v76, v77, v78, v79, v80, v81, v82, v83, v84, v85, v86, v87, v88, v89, v90, v91, v92, v93, v94, v95, v96, v97, v98, v99, v100, v101, v102, v103, v104, v105, v106, v107, v108, v109, v110, v111, v112, v113, v114, v115, v116, v117, v118, v119, v120, v121, v122, v123, v124, v125, v126, v127, v128, v129, v130, v131, v132, v133, v134, v135, v136, v137, v138, v139, v140, v141, v142, v143, v144, v145, v146, v147, v148, v149, v150, v151, v152, v153, v154, v155, v156, v157, v158, v159, v160, v161, c162, c163, c164, c165, c166, c167, c168, c169, c170, c171, c172, c173, c174, c175, c176, c177, c178, c179, c180, c181, c182, c183, c184, c185, c186, c187, c188], []⟩ w') :
    Code.wp Try.prog blkRuns (Exit.then Kp Q0) ⟨#[c0, c1, c2, c3, c4, .pointer (some ⟨b1, 0, none⟩), .pointer (some ⟨b2, 0, none⟩), c7, .pointer (some ⟨X, 0, none⟩), .int .i64 on, .bool true, .bool (isT on s.said.length), c12, c13, c14, c15, c16, c17, c18, c19, c20, c21, c22, c23, c24, c25, c26, c27, c28, c29, c30, c31, c32, c33, c34, c35, c36, c37, c38, c39, c40, c41, c42, c43, c44, .int .u8 (d % 6), c46, c47, c48, c49, c50, c51, c52, c53, c54, c55, c56, c57, c58, c59, c60, c61, c62, c63, c64, c65, c66, c67, c68, c69, c70, c71, c72, c73, c74, c75, c76, c77, c78, c79, c80, c81, c82, c83, c84, c85, c86, c87, c88, c89, c90, c91, c92, c93, c94, c95, c96, c97, c98, c99, c100, c101, c102, c103, c104, c105, c106, c107, c108, c109, c110, c111, c112, c113, c114, c115, c116, c117, c118, c119, c120, c121, c122, c123, c124, c125, c126, c127, c128, c129, c130, c131, c132, c133, c134, c135, c136, c137, c138, c139, c140, c141, c142, c143, c144, c145, c146, c147, c148, c149, c150, c151, c152, c153, c154, c155, c156, c157, c158, c159, c160, c161, c162, c163, c164, c165, c166, c167, c168, c169, c170, c171, c172, c173, c174, c175, c176, c177, c178, c179, c180, c181, c182, c183, c184, c185, c186, c187, c188], []⟩ W := by
  have HKK := Lib.hid hK
  clear hK
  conv => arg 2; whnf
  cases hT : isT on s.said.length with
  | false =>
    have hsn : leaveEp on n at_ s = s := by unfold leaveEp; rw [if_neg (by rw [hT]; simp)]
    have C := Leave_h HW 0 rfl hok (by omega) on n at_
    rw [hsn] at C
    have CC := Lib.hid C
    clear C hsn
    go_wp2_with fail
    refine CC.out.mono ?_
    rintro e w5 ⟨rfl, H5⟩
    go_wp2_with fail
    refine HKK.out _ _ _ _ _ _ _ _ _ _ _ _ _ _ _ _ _ _ _ _ _ _ _ _ _ _ _ _ _ _ _ _ _ _ _ _ _ _ _ _ _ _ _ _ _ _ _ _ _ _ _ _ _ _ _ _ _ _ _ _ _ _ _ _ _ _ _ _ _ _ _ _ _ _ _ _ _ _ _ _ _ _ _ _ _ _ _ _ _ _ _ _ _ _ _ _ _ _ _ _ _ _ _ _ _ _ _ _ _ _ _ _ _ _ _ _ _ _ _ _ _ _ ?_
    exact ⟨rfl, s, hok.more (Nat.le_succ _), Heap.first2 H5⟩
  | true =>
    have hsn : leaveEp on n at_ s = { s with limbo := s.limbo.set on.toNat (s.limbo.getD on.toNat [] ++ [(n, at_)]) } := by unfold leaveEp; rw [if_pos hT]
    have HSN := Lib.hid hsn
    have CC := Lib.hid (Leave_h HW 0 rfl hok (by omega) on n at_)
    obtain ⟨t0', t1'⟩ := isT_true hT
    have hsm := hok.same
    have t2' : on < (s.limbo.length : Int) := by omega
    have HT := Lib.hid hT
    clear hsn hsm r1
    obtain ⟨q0, hq0⟩ := isT_get hok hT
    have hlm : (s.limbo.getD on.toNat []).length + 1 ≤ maxLen := by
      have h1 := waits_get s.limbo _ _ hq0
      have h2 := hok.few
      have h3 : s.limbo.getD on.toNat [] = q0 := by simp [List.getD, hq0]
      rw [h3]; unfold maxLen; omega
    have hlb : ((s.limbo.getD on.toNat []).length + 1) * 16 ≤ 140737488355328 := by
      have h1 := waits_get s.limbo _ _ hq0
      have h2 := hok.few
      have h3 : s.limbo.getD on.toNat [] = q0 := by simp [List.getD, hq0]
      rw [h3]; omega
    obtain ⟨i0, hi, hz0, hz1, hz2⟩ := info_parts info_Gone
    clear hq0
    go_wp2_with fail
    refine CC.out.mono ?_
    rintro e w5 ⟨rfl, H5⟩
    have hbX := Heap.blk H5 2 rfl
    have x2' : w5.cell? ⟨X, 2, none⟩ = some (.int .i64 n) := hbX.cell 2
    have x3' : w5.cell? ⟨X, 3, none⟩ = some (.int .i64 at_) := hbX.cell 3
    obtain ⟨g, av', cv', cl', q, hb, y1, z1, Q, qb, qg, qt, ⟨cg, hcg⟩, U⟩ := rfo_limbo H5 1 rfl hok on HT.out
    have n1 : b2 ≠ g := hb.ne hcg (by decide)
    have n2 : X ≠ g := hbX.ne hcg (by decide)
    have n3 : g ≠ b2 := fun x => n1 x.symm
    have n4 : g ≠ X := fun x => n2 x.symm
    clear hcg
    have qX : q.ownBlock ≠ some X := fun hx => by
      obtain ⟨c, hc⟩ := qt X hx
      exact hc.ne hbX (by decide) rfl
    have y0 : w5.cell? ⟨b2, 2, none⟩ = some (.slice (some ⟨g, 0, none⟩) s.limbo.length cl') := hb.cell 2
    have l1 : g < w5.heap.size := cell_lt y1
    have l2 : b2 < w5.heap.size := cell_lt y0
    have l3 : X < w5.heap.size := cell_lt x2'
    obtain ⟨qa, qc, rfl, _, _⟩ := Q.form
    generalize hL : s.limbo.getD on.toNat [] = L at *
    clear hL
    have UU := Lib.hid U
    have QQ := Lib.hid Q
    have QT := Lib.hid (And.intro qb (And.intro qg (And.intro qX qt)))
    clear U Q hb hbX qb qg qX qt
    go_wp2_with fail
    refine wp_region_noPanic ?_
    refine AnyK.start (k := 20) (S := fun w' => w'.cell? ⟨b2, 2, none⟩ = some (.slice (some ⟨g, 0, none⟩) s.limbo.length cl') ∧ w'.cell? ⟨X, 2, none⟩ = some (.int .i64 n) ∧ w'.cell? ⟨X, 3, none⟩ = some (.int .i64 at_) ∧ w'.cell? ⟨g, on.toNat, none⟩ = some (.slice qa L.length qc)) (by kernel_rfl) (by go_keep) (fun hHeld => ?_)
    refine AnyK.take (i := 0) (v := ?_) rfl (by kernel_rfl) (by kernel_rfl) (by kernel_rfl) (by kernel_rfl) (fun _ _ _ h => h) (Or.inl ⟨by rfl, ?_⟩) (by assumption) ?_
    rotate_left
    focus
      intro w9 hSw
      try dsimp only at hSw
      go_simp
      try with_reducible rfl
    try simp only [Act.put, List.setIfInBounds_toArray, List.set_cons_zero, List.set_cons_succ]
    refine AnyK.take (i := 1) (v := ?_) rfl (by kernel_rfl) (by kernel_rfl) (by kernel_rfl) (by kernel_rfl) (fun _ _ _ h => h) (Or.inl ⟨by rfl, ?_⟩) (by assumption) ?_
    rotate_left
    focus
      intro w9 hSw
      try dsimp only at hSw
      go_simp
      try with_reducible rfl
    try simp only [Act.put, List.setIfInBounds_toArray, List.set_cons_zero, List.set_cons_succ]
    refine AnyK.take (i := 2) (v := ?_) rfl (by kernel_rfl) (by kernel_rfl) (by kernel_rfl) (by kernel_rfl) (fun _ _ _ h => h) (Or.inl ⟨by rfl, ?_⟩) (by assumption) ?_
    rotate_left
    focus
      intro w9 hSw
      try dsimp only at hSw
      go_simp
      try with_reducible rfl
    try simp only [Act.put, List.setIfInBounds_toArray, List.set_cons_zero, List.set_cons_succ]
    refine AnyK.take (i := 3) (v := ?_) rfl (by kernel_rfl) (by kernel_rfl) (by kernel_rfl) (by kernel_rfl) (fun _ _ _ h => h) (Or.inl ⟨by rfl, ?_⟩) (by assumption) ?_
    rotate_left
    focus
      intro w9 hSw
      try dsimp only at hSw
      go_simp
      try with_reducible rfl
    try simp only [Act.put, List.setIfInBounds_toArray, List.set_cons_zero, List.set_cons_succ]
    refine AnyK.take (i := 4) (v := ?_) rfl (by kernel_rfl) (by kernel_rfl) (by kernel_rfl) (by kernel_rfl) (fun _ _ _ h => h) (Or.inl ⟨by rfl, ?_⟩) (by assumption) ?_
    rotate_left
    focus
      intro w9 hSw
      try dsimp only at hSw
      go_simp
      try with_reducible rfl
    try simp only [Act.put, List.setIfInBounds_toArray, List.set_cons_zero, List.set_cons_succ]
    refine AnyK.take (i := 5) (v := ?_) rfl (by kernel_rfl) (by kernel_rfl) (by kernel_rfl) (by kernel_rfl) (fun _ _ _ h => h) (Or.inl ⟨by rfl, ?_⟩) (by assumption) ?_
    rotate_left
    focus
      intro w9 hSw
      try dsimp only at hSw
      go_simp
      try with_reducible rfl
    try simp only [Act.put, List.setIfInBounds_toArray, List.set_cons_zero, List.set_cons_succ]
    refine AnyK.take (i := 6) (v := ?_) rfl (by kernel_rfl) (by kernel_rfl) (by kernel_rfl) (by kernel_rfl) (fun _ _ _ h => h) (Or.inl ⟨by rfl, ?_⟩) (by assumption) ?_
    rotate_left
    focus
      intro w9 hSw
      try dsimp only at hSw
      go_simp
      try with_reducible rfl
    try simp only [Act.put, List.setIfInBounds_toArray, List.set_cons_zero, List.set_cons_succ]
    refine AnyK.take (i := 7) (v := ?_) rfl (by kernel_rfl) (by kernel_rfl) (by kernel_rfl) (by kernel_rfl) (fun _ _ _ h => h) (Or.inl ⟨by rfl, ?_⟩) (by assumption) ?_
    rotate_left
    focus
      intro w9 hSw
      try dsimp only at hSw
      go_simp
      try with_reducible rfl
    try simp only [Act.put, List.setIfInBounds_toArray, List.set_cons_zero, List.set_cons_succ]
    refine AnyK.take (i := 8) (v := ?_) rfl (by kernel_rfl) (by kernel_rfl) (by kernel_rfl) (by kernel_rfl) (fun _ _ _ h => h) (Or.inl ⟨by rfl, ?_⟩) (by assumption) ?_
    rotate_left
    focus
      intro w9 hSw
      try dsimp only at hSw
      go_simp
      try with_reducible rfl
    try simp only [Act.put, List.setIfInBounds_toArray, List.set_cons_zero, List.set_cons_succ]
    refine AnyK.take (i := 9) (v := ?_) rfl (by kernel_rfl) (by kernel_rfl) (by kernel_rfl) (by kernel_rfl) (fun _ _ _ h => h) (Or.inl ⟨by rfl, ?_⟩) (by assumption) ?_
    rotate_left
    focus
      intro w9 hSw
      try dsimp only at hSw
      go_simp
      try with_reducible rfl
    try simp only [Act.put, List.setIfInBounds_toArray, List.set_cons_zero, List.set_cons_succ]
    refine AnyK.take (i := 10) (v := ?_) rfl (by kernel_rfl) (by kernel_rfl) (by kernel_rfl) (by kernel_rfl) (fun _ _ _ h => h) (Or.inl ⟨by rfl, ?_⟩) (by assumption) ?_
    rotate_left
    focus
      intro w9 hSw
      try dsimp only at hSw
      go_simp
      try with_reducible rfl
    try simp only [Act.put, List.setIfInBounds_toArray, List.set_cons_zero, List.set_cons_succ]
    refine AnyK.take (i := 11) (v := ?_) rfl (by kernel_rfl) (by kernel_rfl) (by kernel_rfl) (by kernel_rfl) (fun _ _ _ h => h) (Or.inl ⟨by rfl, ?_⟩) (by assumption) ?_
    rotate_left
    focus
      intro w9 hSw
      try dsimp only at hSw
      go_simp
      try with_reducible rfl
    try simp only [Act.put, List.setIfInBounds_toArray, List.set_cons_zero, List.set_cons_succ]
    refine AnyK.take (i := 12) (v := ?_) rfl (by kernel_rfl) (by kernel_rfl) (by kernel_rfl) (by kernel_rfl) (fun _ _ _ h => h) (Or.inl ⟨by rfl, ?_⟩) (by assumption) ?_
    rotate_left
    focus
      intro w9 hSw
      try dsimp only at hSw
      go_simp
      try with_reducible rfl
    try simp only [Act.put, List.setIfInBounds_toArray, List.set_cons_zero, List.set_cons_succ]
    refine AnyK.take (i := 13) (v := ?_) rfl (by kernel_rfl) (by kernel_rfl) (by kernel_rfl) (by kernel_rfl) (fun _ _ _ h => h) (Or.inl ⟨by rfl, ?_⟩) (by assumption) ?_
    rotate_left
    focus
      intro w9 hSw
      try dsimp only at hSw
      go_simp
      try with_reducible rfl
    try simp only [Act.put, List.setIfInBounds_toArray, List.set_cons_zero, List.set_cons_succ]
    refine AnyK.take (i := 14) (v := ?_) rfl (by kernel_rfl) (by kernel_rfl) (by kernel_rfl) (by kernel_rfl) (fun _ _ _ h => h) (Or.inl ⟨by rfl, ?_⟩) (by assumption) ?_
    rotate_left
    focus
      intro w9 hSw
      try dsimp only at hSw
      go_simp
      try with_reducible rfl
    try simp only [Act.put, List.setIfInBounds_toArray, List.set_cons_zero, List.set_cons_succ]
    refine AnyK.take (i := 15) (v := ?_) rfl (by kernel_rfl) (by kernel_rfl) (by kernel_rfl) (by kernel_rfl) (fun _ _ _ h => h) (Or.inl ⟨by rfl, ?_⟩) (by assumption) ?_
    rotate_left
    focus
      intro w9 hSw
      try dsimp only at hSw
      go_simp
      try with_reducible rfl
    try simp only [Act.put, List.setIfInBounds_toArray, List.set_cons_zero, List.set_cons_succ]
    refine AnyK.take (i := 16) (v := ?_) rfl (by kernel_rfl) (by kernel_rfl) (by kernel_rfl) (by kernel_rfl) (fun _ _ _ h => h) (Or.inl ⟨by rfl, ?_⟩) (by assumption) ?_
    rotate_left
    focus
      intro w9 hSw
      try dsimp only at hSw
      go_simp
      try with_reducible rfl
    try simp only [Act.put, List.setIfInBounds_toArray, List.set_cons_zero, List.set_cons_succ]
    refine AnyK.one (i := 17) (by kernel_rfl) rfl (fun K hK => ?_)
    go_simp
    refine hK.out _ _ (fun _ => by go_keep) ?_
    clear hK K
    try simp only [Act.put, List.setIfInBounds_toArray, List.set_cons_zero, List.set_cons_succ]
    refine AnyK.one (i := 18) (by kernel_rfl) rfl (fun K hK => ?_)
    refine step_append_typed _ (by rfl) _ _ _ (by rfl) 51 i0 (.agg #[.int .i64 0, .int .i64 0]) 2 16 Try.underlying49 hi hz0 hz1 hz2 rfl (by decide) (.slice qa L.length qc) L.length (goneC L) (by rfl) (QQ.out.fr (F := nob) (by repeat (first | exact Fr.refl _ _ | apply Fr.drew | apply Fr.alloc)) (fun _ _ _ x => x)) _ 1 [.int .i64 n, .int .i64 at_] (by rfl) (RdV.block (cs := #[.int .i64 n, .int .i64 at_]) (t := 51) (by repeat (first | exact Blk.new' rfl _ _ | apply Blk.drew | apply Blk.alloc)) rfl (by decide)) (by simp [Value.oneCell']) hlm hlb ?_
    intro a2 c2 w7 q7 grow7 hat7
    have f7 : Fr (fun j => (Value.slice qa L.length qc).ownBlock = some j) w5 w7 := Fr.grown (by repeat (first | exact Fr.refl _ _ | apply Fr.drew | apply Fr.alloc)) grow7 (fun k hk => .inl hk)
    have v0 := f7.cell' y0 (fun x => QT.out.1 x)
    have v1 := f7.cell' y1 (fun x => QT.out.2.1 x)
    have v2 := f7.froz' y1 z1 (fun x => QT.out.2.1 x)
    have v3 := f7.cell' x2' (fun x => QT.out.2.2.1 x)
    have v4 := f7.cell' x3' (fun x => QT.out.2.2.1 x)
    have v5 := f7.cell' y1 (fun x => QT.out.2.1 x)
    refine hK.out _ _ (fun _ => ⟨v0, v3, v4, v5⟩) ?_
    clear hK K
    try simp only [Act.put, List.setIfInBounds_toArray, List.set_cons_zero, List.set_cons_succ]
    refine AnyK.take (i := 19) (v := ?_) rfl (by kernel_rfl) (by kernel_rfl) (by kernel_rfl) (by kernel_rfl) (fun _ _ _ h => h) (Or.inl ⟨by rfl, ?_⟩) (by exact ⟨v0, v3, v4, v5⟩) ?_
    rotate_left
    focus
      intro w9 hSw
      try dsimp only at hSw
      go_simp
      try with_reducible rfl
    try simp only [Act.put, List.setIfInBounds_toArray, List.set_cons_zero, List.set_cons_succ]
    refine AnyK.one (i := 20) (by kernel_rfl) rfl (fun K hK => ?_)
    go_simp
    refine hK.out _ _ (fun h => absurd rfl h) ?_
    clear hK K
    refine AnyK.done (by kernel_rfl) ?_ _
    refine NoPanic.normal ?_
    all_goals
      have P := UU.out w7 (.slice a2 (L.length + 1) c2) (L ++ [(n, at_)]) f7 (by rw [List.length_append, ← goneC_append]; exact q7) (fun k hk => by
        rcases hat7 k hk with ⟨h, _, _⟩ | ⟨h, c⟩
        · exact absurd h (by decide)
        · refine ⟨h.imp_right (fun h => ?_), c⟩
          simp at h; omega)
      have PP := Lib.hid P
      clear P q7 grow7 hat7 f7
      go_wp2_with fail
      refine HKK.out _ _ _ _ _ _ _ _ _ _ _ _ _ _ _ _ _ _ _ _ _ _ _ _ _ _ _ _ _ _ _ _ _ _ _ _ _ _ _ _ _ _ _ _ _ _ _ _ _ _ _ _ _ _ _ _ _ _ _ _ _ _ _ _ _ _ _ _ _ _ _ _ _ _ _ _ _ _ _ _ _ _ _ _ _ _ _ _ _ _ _ _ _ _ _ _ _ _ _ _ _ _ _ _ _ _ _ _ _ _ _ _ _ _ _ _ _ _ _ _ _ _ ?_
      exact ⟨rfl, leaveEp on n at_ s, (hok.leave on n at_ ⟨t0, t1⟩).1, by rw [HSN.out]; have h := PP.out; rw [HSN.out] at h; exact Heap.first2 h⟩
set_option maxHeartbeats 8000000 in
set_option maxRecDepth 1000000 in
theorem runs_case4 {w W : World} {b1 b2 X k : Nat} {s : Ep} {d on n at_ : Int} {sv : Option Addr} {scv : Nat} (hok : OkEp s k) (hk6 : k ≤ 60) (hd : d % 6 = 4) (o0 : -128 ≤ on) (o1 : on ≤ 127) (n0 : -9223372036854775808 ≤ n) (n1 : n ≤ 9223372036854775807) (t0 : -9223372036854775808 ≤ at_) (t1 : at_ ≤ 9223372036854775807)
    (HW : Heap w W [epoP b1 s, rfoP b2 s, blkP X 45 #[.int .u8 d, .int .i8 on, .int .i64 n, .int .i64 at_]]) (r0 : W.cell? ⟨b2, 0, none⟩ = some (.int .i64 s.now)) (r1 : W.cell? ⟨b2, 1, none⟩ = some (.slice sv s.said.length scv))
    (x0 : W.cell? ⟨X, 0, none⟩ = some (.int .u8 d)) (x1 : W.cell? ⟨X, 1, none⟩ = some (.int .i8 on)) (x2 : W.cell? ⟨X, 2, none⟩ = some (.int .i64 n)) (x3 : W.cell? ⟨X, 3, none⟩ = some (.int .i64 at_)) (nb0 : 0 ≤ s.now) (nb1 : s.now ≤ (k : Int)) (nb2 : s.now ≤ 60)
    (c0 c1 c2 c3 c4 c7 c12 c13 c14 c15 c16 c17 c18 c19 c20 c21 c22 c23 c24 c25 c26 c27 c28 c29 c30 c31 c32 c33 c34 c35 c36 c37 c38 c39 c40 c41 c42 c43 c44 c46 c47 c48 c49 c50 c51 c52 c53 c54 c55 c56 c57 c58 c59 c60 c61 c62 c63 c64 c65 c66 c67 c68 c69 c70 c71 c72 c73 c74 c75 c76 c77 c78 c79 c80 c81 c82 c83 c84 c85 c86 c87 c88 c89 c90 c91 c92 c93 c94 c95 c96 c97 c98 c99 c100 c101 c102 c103 c104 c105 c106 c107 c108 c109 c110 c111 c112 c113 c114 c115 c116 c117 c118 c119 c120 c121 c122 c123 c124 c125 c126 c127 c128 c129 c130 c131 c132 c133 c134 c135 c136 c137 c138 c139 c140 c141 c142 c143 c144 c145 c146 c147 c148 c149 c150 c151 c152 c153 c154 c155 c156 c157 c158 c159 c160 c161 c162 c163 c164 c165 c166 c167 c168 c169 c170 c171 c172 c173 c174 c175 c176 c177 c178 c179 c180 c181 c182 c183 c184 c185 c186 c187 c188 : Value) (Kp : Act → World → Prop) (Q0 : Exit → Act → World → Prop)
    (hK : ∀ (v10 v11 v12 v13 v45 v46 v47 v48 v49 v50 v51 v52 v53 v54 v55 v56 v57 v58 v59 v60 v61 v62 v63 v64 v65 v66 v67 v68 v69 v70 v71 v72 v73 v74 v75 v76 v77 v78 v79 v80 v81 v82 v83 v84 v85 v86 v87 v88 v89 v90 v91 v92 v93 v94 v95 v96 v97 v98 v99 v100 v101 v102 v103 v104 v105 v106 v107 v108 v109 v110 v111 v112 v113 v114 v115 v116 v117 v118 v119 v120 v121 v122 v123 v124 v125 v126 v127 v128 v129 v130 v131 v132 v133 v134 v135 v136 v137 v138 v139 v140 v141 v142 v143 v144 v145 v146 v147 v148 v149 v150 v151 v152 v153 v154 v155 v156 v157 v158 v159 v160 v161 : Value) (w' : World), (v10 = .bool true ∧ ∃ s' : Ep, OkEp s' (k + 1) ∧ Heap w w' [epoP b1 s', rfoP b2 s']) → Kp ⟨#[c0, c1, c2, c3, c4, .pointer (some ⟨b1, 0, none⟩), .pointer (some ⟨b2, 0, none⟩), c7, .pointer (some ⟨X, 0, none⟩), .int .i64 on, v10, v11, v12, v13, c14, c15, c16, c17, c18, c19, c20, c21, c22, c23, c24, c25, c26, c27, c28, c29, c30, c31, c32, c33, c34, c35, c36, c37, c38, c39, c40, c41, c42, c43, c44, v45, v46, v47, v48, v49, v50, v51, v52, v53, v54, v55, v56, v57, v58, v59, v60, v61, v62, v63, v64, v65, v66, v67, v68, v69, v70, v71, v72, v73, v74, v75, v76, v77, v78, v79, v80, v81, v82, v83, v84, v85, v86, v87, v88, v89, v90, v91, v92, v93, v94, v95, v96, v97, v98, v99, v100, v101, v102, v103, v104, v105, v106, v107, v108, v109, v110, v111, v112, v113, v114, v115, v116, v117, v118, v119, v120, v121, v122, v123, v124, v125, v126, v127, v128, v129, v130, v131, v132, v133, v134, v135, v136, v137, v138, v139, v140, v141, v142, v143, v144, v145, v146, v147, v148, v149, v150, v151, v152, v153, v154, v155, v156, v157, v158, v159, v160, v161, c162, c163, c164, c165, c166, c167, c168, c169, c170, c171, c172, c173, c174, c175, c176, c177, c178, c179, c180, c181, c182, c183, c184, c185, c186, c187, c188], []⟩ w') :
    Code.wp Try.prog blkRuns (Exit.then Kp Q0) ⟨#[c0, c1, c2, c3, c4, .pointer (some ⟨b1, 0, none⟩), .pointer (some ⟨b2, 0, none⟩), c7, .pointer (some ⟨X, 0, none⟩), .int .i64 on, .bool true, .bool (isT on s.said.length), c12, c13, c14, c15, c16, c17, c18, c19, c20, c21, c22, c23, c24, c25, c26, c27, c28, c29, c30, c31, c32, c33, c34, c35, c36, c37, c38, c39, c40, c41, c42, c43, c44, .int .u8 (d % 6), c46, c47, c48, c49, c50, c51, c52, c53, c54, c55, c56, c57, c58, c59, c60, c61, c62, c63, c64, c65, c66, c67, c68, c69, c70, c71, c72, c73, c74, c75, c76, c77, c78, c79, c80, c81, c82, c83, c84, c85, c86, c87, c88, c89, c90, c91, c92, c93, c94, c95, c96, c97, c98, c99, c100, c101, c102, c103, c104, c105, c106, c107, c108, c109, c110, c111, c112, c113, c114, c115, c116, c117, c118, c119, c120, c121, c122, c123, c124, c125, c126, c127, c128, c129, c130, c131, c132, c133, c134, c135, c136, c137, c138, c139, c140, c141, c142, c143, c144, c145, c146, c147, c148, c149, c150, c151, c152, c153, c154, c155, c156, c157, c158, c159, c160, c161, c162, c163, c164, c165, c166, c167, c168, c169, c170, c171, c172, c173, c174, c175, c176, c177, c178, c179, c180, c181, c182, c183, c184, c185, c186, c187, c188], []⟩ W := by
  have HKK := Lib.hid hK
  clear hK
  conv => arg 2; whnf
  have C1 := fun w5 (h5 : Heap w w5 [epoP b1 s, rfoP b2 s, blkP X 45 #[.int .u8 d, .int .i8 on, .int .i64 n, .int .i64 at_]]) => Ready_h h5 0 rfl hok on at_ ⟨t0, t1⟩
  have C2 := fun w5 (h5 : Heap w w5 [epoP b1 s, rfoP b2 s, blkP X 45 #[.int .u8 d, .int .i8 on, .int .i64 n, .int .i64 at_]]) => Take_h h5 1 rfl hok (by omega) on at_ ⟨t0, t1⟩
  have C3 := fun w5 (h5 : Heap w w5 [epoP b1 (takeEp on at_ s).2, rfoP b2 s, blkP X 45 #[.int .u8 d, .int .i8 on, .int .i64 n, .int .i64 at_]]) => Take_h h5 1 rfl hok (by omega) on at_ ⟨t0, t1⟩
  have C4 := fun w5 (h5 : Heap w w5 [epoP b1 s, rfoP b2 (takeEp on at_ s).2, blkP X 45 #[.int .u8 d, .int .i8 on, .int .i64 n, .int .i64 at_]]) => Ready_h h5 0 rfl hok on at_ ⟨t0, t1⟩
  have OK' := Lib.hid (hok.take on at_).1
  generalize takeEp on at_ s = tk at *
  obtain ⟨tn, ts⟩ := tk
  have D1 := Lib.hid C1
  have D2 := Lib.hid C2
  have D3 := Lib.hid C3
  have D4 := Lib.hid C4
  clear C1 C2 C3 C4
  go_wp2_with fail
  go_region_held3 (fun w' => w'.cell? ⟨X, 3, none⟩ = some (.int .i64 at_)) (first | go_keep | exact x4' | exact x3') (first
    | (go_at_call 12; refine (D1.out _ HW.drew).mono ?_; rintro e w5 ⟨rfl, H5⟩; have x3' : w5.cell? ⟨X, 3, none⟩ = some (.int .i64 at_) := (Heap.blk H5 2 rfl).cell 3)
    | (go_at_call 12; refine (D4.out _ H6).mono ?_; rintro e w7 ⟨rfl, H7⟩; have x4' : w7.cell? ⟨X, 3, none⟩ = some (.int .i64 at_) := (Heap.blk H7 2 rfl).cell 3)
    | (go_at_call 21; refine (D2.out _ HW.drew).mono ?_; rintro e w6 ⟨rfl, H6⟩; have x3' : w6.cell? ⟨X, 3, none⟩ = some (.int .i64 at_) := (Heap.blk H6 2 rfl).cell 3)
    | (go_at_call 21; refine (D3.out _ H5).mono ?_; rintro e w7 ⟨rfl, H7⟩; have x4' : w7.cell? ⟨X, 3, none⟩ = some (.int .i64 at_) := (Heap.blk H7 2 rfl).cell 3))
  all_goals
    go_wp2_with fail
    refine HKK.out _ _ _ _ _ _ _ _ _ _ _ _ _ _ _ _ _ _ _ _ _ _ _ _ _ _ _ _ _ _ _ _ _ _ _ _ _ _ _ _ _ _ _ _ _ _ _ _ _ _ _ _ _ _ _ _ _ _ _ _ _ _ _ _ _ _ _ _ _ _ _ _ _ _ _ _ _ _ _ _ _ _ _ _ _ _ _ _ _ _ _ _ _ _ _ _ _ _ _ _ _ _ _ _ _ _ _ _ _ _ _ _ _ _ _ _ _ _ _ _ _ _ ?_
    exact ⟨by simp, ts, OK'.out.more (Nat.le_succ _), Heap.first2 H7⟩
set_option maxHeartbeats 8000000 in
set_option maxRecDepth 1000000 in
theorem runs_case5 {w W : World} {b1 b2 X k : Nat} {s : Ep} {d on n at_ : Int} {sv : Option Addr} {scv : Nat} (hok : OkEp s k) (hk6 : k ≤ 60) (hd : d % 6 = 5) (o0 : -128 ≤ on) (o1 : on ≤ 127) (n0 : -9223372036854775808 ≤ n) (n1 : n ≤ 9223372036854775807) (t0 : -9223372036854775808 ≤ at_) (t1 : at_ ≤ 9223372036854775807)
    (HW : Heap w W [epoP b1 s, rfoP b2 s, blkP X 45 #[.int .u8 d, .int .i8 on, .int .i64 n, .int .i64 at_]]) (r0 : W.cell? ⟨b2, 0, none⟩ = some (.int .i64 s.now)) (r1 : W.cell? ⟨b2, 1, none⟩ = some (.slice sv s.said.length scv))
    (x0 : W.cell? ⟨X, 0, none⟩ = some (.int .u8 d)) (x1 : W.cell? ⟨X, 1, none⟩ = some (.int .i8 on)) (x2 : W.cell? ⟨X, 2, none⟩ = some (.int .i64 n)) (x3 : W.cell? ⟨X, 3, none⟩ = some (.int .i64 at_)) (nb0 : 0 ≤ s.now) (nb1 : s.now ≤ (k : Int)) (nb2 : s.now ≤ 60)
    (c0 c1 c2 c3 c4 c7 c12 c13 c14 c15 c16 c17 c18 c19 c20 c21 c22 c23 c24 c25 c26 c27 c28 c29 c30 c31 c32 c33 c34 c35 c36 c37 c38 c39 c40 c41 c42 c43 c44 c46 c47 c48 c49 c50 c51 c52 c53 c54 c55 c56 c57 c58 c59 c60 c61 c62 c63 c64 c65 c66 c67 c68 c69 c70 c71 c72 c73 c74 c75 c76 c77 c78 c79 c80 c81 c82 c83 c84 c85 c86 c87 c88 c89 c90 c91 c92 c93 c94 c95 c96 c97 c98 c99 c100 c101 c102 c103 c104 c105 c106 c107 c108 c109 c110 c111 c112 c113 c114 c115 c116 c117 c118 c119 c120 c121 c122 c123 c124 c125 c126 c127 c128 c129 c130 c131 c132 c133 c134 c135 c136 c137 c138 c139 c140 c141 c142 c143 c144 c145 c146 c147 c148 c149 c150 c151 c152 c153 c154 c155 c156 c157 c158 c159 c160 c161 c162 c163 c164 c165 c166 c167 c168 c169 c170 c171 c172 c173 c174 c175 c176 c177 c178 c179 c180 c181 c182 c183 c184 c185 c186 c187 c188 : Value) (Kp : Act → World → Prop) (Q0 : Exit → Act → World → Prop)
    (hK : ∀ (v10 v11 v12 v13 v45 v46 v47 v48 v49 v50 v51 v52 v53 v54 v55 v56 v57 v58 v59 v60 v61 v62 v63 v64 v65 v66 v67 v68 v69 v70 v71 v72 v73 v74 v75 v76 v77 v78 v79 v80 v81 v82 v83 v84 v85 v86 v87 v88 v89 v90 v91 v92 v93 v94 v95 v96 v97 v98 v99 v100 v101 v102 v103 v104 v105 v106 v107 v108 v109 v110 v111 v112 v113 v114 v115 v116 v117 v118 v119 v120 v121 v122 v123 v124 v125 v126 v127 v128 v129 v130 v131 v132 v133 v134 v135 v136 v137 v138 v139 v140 v141 v142 v143 v144 v145 v146 v147 v148 v149 v150 v151 v152 v153 v154 v155 v156 v157 v158 v159 v160 v161 : Value) (w' : World), (v10 = .bool true ∧ ∃ s' : Ep, OkEp s' (k + 1) ∧ Heap w w' [epoP b1 s', rfoP b2 s']) → Kp ⟨#[c0, c1, c2, c3, c4, .pointer (some ⟨b1, 0, none⟩), .pointer (some ⟨b2, 0, none⟩), c7, .pointer (some ⟨X, 0, none⟩), .int .i64 on, v10, v11, v12, v13, c14, c15, c16, c17, c18, c19, c20, c21, c22, c23, c24, c25, c26, c27, c28, c29, c30, c31, c32, c33, c34, c35, c36, c37, c38, c39, c40, c41, c42, c43, c44, v45, v46, v47, v48, v49, v50, v51, v52, v53, v54, v55, v56, v57, v58, v59, v60, v61, v62, v63, v64, v65, v66, v67, v68, v69, v70, v71, v72, v73, v74, v75, v76, v77, v78, v79, v80, v81, v82, v83, v84, v85, v86, v87, v88, v89, v90, v91, v92, v93, v94, v95, v96, v97, v98, v99, v100, v101, v102, v103, v104, v105, v106, v107, v108, v109, v110, v111, v112, v113, v114, v115, v116, v117, v118, v119, v120, v121, v122, v123, v124, v125, v126, v127, v128, v129, v130, v131, v132, v133, v134, v135, v136, v137, v138, v139, v140, v141, v142, v143, v144, v145, v146, v147, v148, v149, v150, v151, v152, v153, v154, v155, v156, v157, v158, v159, v160, v161, c162, c163, c164, c165, c166, c167, c168, c169, c170, c171, c172, c173, c174, c175, c176, c177, c178, c179, c180, c181, c182, c183, c184, c185, c186, c187, c188], []⟩ w') :
    Code.wp Try.prog blkRuns (Exit.then Kp Q0) ⟨#[c0, c1, c2, c3, c4, .pointer (some ⟨b1, 0, none⟩), .pointer (some ⟨b2, 0, none⟩), c7, .pointer (some ⟨X, 0, none⟩), .int .i64 on, .bool true, .bool (isT on s.said.length), c12, c13, c14, c15, c16, c17, c18, c19, c20, c21, c22, c23, c24, c25, c26, c27, c28, c29, c30, c31, c32, c33, c34, c35, c36, c37, c38, c39, c40, c41, c42, c43, c44, .int .u8 (d % 6), c46, c47, c48, c49, c50, c51, c52, c53, c54, c55, c56, c57, c58, c59, c60, c61, c62, c63, c64, c65, c66, c67, c68, c69, c70, c71, c72, c73, c74, c75, c76, c77, c78, c79, c80, c81, c82, c83, c84, c85, c86, c87, c88, c89, c90, c91, c92, c93, c94, c95, c96, c97, c98, c99, c100, c101, c102, c103, c104, c105, c106, c107, c108, c109, c110, c111, c112, c113, c114, c115, c116, c117, c118, c119, c120, c121, c122, c123, c124, c125, c126, c127, c128, c129, c130, c131, c132, c133, c134, c135, c136, c137, c138, c139, c140, c141, c142, c143, c144, c145, c146, c147, c148, c149, c150, c151, c152, c153, c154, c155, c156, c157, c158, c159, c160, c161, c162, c163, c164, c165, c166, c167, c168, c169, c170, c171, c172, c173, c174, c175, c176, c177, c178, c179, c180, c181, c182, c183, c184, c185, c186, c187, c188], []⟩ W := by
  have HKK := Lib.hid hK
  clear hK
  conv => arg 2; whnf
  go_wp2_with fail
  go_quiet ((go_at_call 17; exact Calls.quiet_of_same (Len_h (HW.drewN _) 0 rfl)))
  go_wp2_with fail
  refine HKK.out _ _ _ _ _ _ _ _ _ _ _ _ _ _ _ _ _ _ _ _ _ _ _ _ _ _ _ _ _ _ _ _ _ _ _ _ _ _ _ _ _ _ _ _ _ _ _ _ _ _ _ _ _ _ _ _ _ _ _ _ _ _ _ _ _ _ _ _ _ _ _ _ _ _ _ _ _ _ _ _ _ _ _ _ _ _ _ _ _ _ _ _ _ _ _ _ _ _ _ _ _ _ _ _ _ _ _ _ _ _ _ _ _ _ _ _ _ _ _ _ _ _ ?_
  exact ⟨by simp, s, hok.more (Nat.le_succ _), (HW.drewN _).first2⟩
end Go.Proofs.Ytnoioldbddjkiaa
