/- EpochRuns: the law's walk. No condition but that the slice can be read and its numbers are of their kinds. -/
import Derived.Test.YtnoioldbddjkiaaWEp5c
import Derived.Deep.RegionWith
import Derived.Deep.DeepCutAuto
import Derived.BigQuiet
import Derived.BigRegion
import Derived.Deep.CutBlock
namespace Go.Proofs.Ytnoioldbddjkiaa
open Go Go.RowKit
set_option linter.unusedVariables false
set_option linter.unusedSimpArgs false
set_option maxHeartbeats 16000000 in
set_option maxRecDepth 100000 in
theorem EpochRuns_walk (threads : Int) (hth : -9223372036854775808 ≤ threads ∧ threads ≤ 9223372036854775807) (v : Value) (xs : List Actn) (w : World) (R : RdV w v xs.length 4 (xs.flatMap actC)) (hx : ∀ x ∈ xs, x.ok) :
    Calls Try.prog 7 #[.int .i64 threads, v] w fun e w' => e = .returned (.bool true) ∧ Below w.heap.size w w' := by
  have hm := R.short
  obtain ⟨av, cv, rfl⟩ := R.len
  have HR := Lib.hid R
  have HX := Lib.hid hx
  have HTH := Lib.hid hth
  clear R hx hth
  generalize hN : xs.length = N at *
  have HN := Lib.hid hN
  clear hN
  go_enter Try.func7, Try.ntmps7
  go_wp2_with fail
  refine (Awake_calls _).mono ?_
  rintro e w1 ⟨rfl, F1⟩
  by_cases h60 : 60 < N
  · go_wp2_with fail
    go_ret
    exact ⟨rfl, F1.below (Nat.le_refl _) (fun _ x => x.elim)⟩
  have H1 := (Heap.start w).go F1
  go_wp2_with fail
  refine (New_calls threads _).mono ?_
  rintro e w2 ⟨b1, rfl, F2, E2⟩
  have H2 := H1.push (p := epoP b1 ⟨0, List.replicate (many threads) (-1), List.replicate (many threads) []⟩) F2 E2 (fun k hk => by rcases hk with hk | hk; exact hk.elim; exact hk)
  go_wp2_with fail
  refine (New07_calls threads HTH.out _).mono ?_
  rintro e w3 ⟨b2, rfl, F3, R3⟩
  have H3 := H2.push (p := rfoP b2 ⟨0, List.replicate (many threads) (-1), List.replicate (many threads) []⟩) F3 R3 (fun k hk => by rcases hk with hk | hk; exact hk.elim; exact hk)
  have hok : OkEp ⟨0, List.replicate (many threads) (-1), List.replicate (many threads) []⟩ 0 := ⟨⟨Int.le_refl _, Int.le_refl _⟩, fun l hl p hp => by
    have := List.eq_of_mem_replicate hl
    subst this
    simp at hp, by rw [waits_new]; exact Nat.le_refl _, by simp⟩
  generalize (⟨0, List.replicate (many threads) (-1), List.replicate (many threads) []⟩ : Ep) = s0 at *
  have H3 : Heap w w3 [epoP b1 s0, rfoP b2 s0] := H3
  clear F1 F2 F3 E2 R3 H1 H2
  go_wp2_with fail
  go_loopw [25] (fun i wr => ∃ (k : Nat) (s : Ep), k ≤ N ∧ i = .int .i64 k ∧ OkEp s k ∧ Heap w wr [epoP b1 s, rfoP b2 s]) (fun i _ => N - (intOf i).toNat)
  case atStart => exact ⟨0, s0, Nat.zero_le _, rfl, hok, H3⟩
  case round =>
    clear hok H3
    obtain ⟨k, s, hk, rfl, hok, H⟩ := hrel
    by_cases hlt : k < N
    · have hkk : k < xs.length := by have := HN.out; omega
      obtain ⟨x, hxk⟩ : ∃ x, xs[k]? = some x := ⟨_, List.getElem?_eq_getElem hkk⟩
      have hxo := HX.out x (List.mem_of_getElem? hxk)
      have RR := HR.out.fr H.fr (fun _ _ _ x => x)
      obtain ⟨a, rfl, hc, hat⟩ := RR.at (by omega)
      have a0 := hat (k * 4 + 0) (.int .u8 x.d) (by rw [flat_get actC 4 (fun _ => rfl) xs k 0 x hxk (by omega)]; rfl)
      have a1 := hat (k * 4 + 1) (.int .i8 x.on) (by rw [flat_get actC 4 (fun _ => rfl) xs k 1 x hxk (by omega)]; rfl)
      have a2 := hat (k * 4 + 2) (.int .i64 x.n) (by rw [flat_get actC 4 (fun _ => rfl) xs k 2 x hxk (by omega)]; rfl)
      have a3 := hat (k * 4 + 3) (.int .i64 x.a) (by rw [flat_get actC 4 (fun _ => rfl) xs k 3 x hxk (by omega)]; rfl)
      obtain ⟨d, on, n, at_⟩ := x
      obtain ⟨⟨d0, d1⟩, ⟨o0, o1⟩, ⟨n0, n1⟩, t0, t1⟩ := hxo
      simp only at a0 a1 a2 a3 d0 d1 o0 o1 n0 n1 t0 t1
      rw [Nat.add_zero] at a0
      rw [add_field] at a1 a2 a3
      clear hat RR hxk hkk
      obtain ⟨sv, scv, sl, scl, hb2⟩ := rfo_cells H 1 rfl
      have hX := H.alloc 45 #[.int .u8 d, .int .i8 on, .int .i64 n, .int .i64 at_]
      have HX' := Lib.hid hX
      have HH := Lib.hid H
      have r1 : wr.cell? ⟨b2, 1, none⟩ = some (.slice sv s.said.length scv) := hb2.cell 1
      have lb2 := hb2.lt
      clear hX H hb2
      go_upto_region 10 with fail
      generalize hW : wr.alloc (Obj.cells #[Value.int IntKind.u8 d, Value.int IntKind.i8 on, Value.int IntKind.i64 n, Value.int IntKind.i64 at_] 45) = W at *
      generalize hX : wr.heap.size = X at *
      have HW : Heap w W [epoP b1 s, rfoP b2 s, blkP X 45 #[.int .u8 d, .int .i8 on, .int .i64 n, .int .i64 at_]] := HX'.out
      clear HX' HH r1 lb2 hW hX a0 a1 a2 a3
      obtain ⟨sv, scv, sl, scl, hb2⟩ := rfo_cells HW 1 rfl
      have hbX := HW.blk 2 rfl
      have r0 : W.cell? ⟨b2, 0, none⟩ = some (.int .i64 s.now) := hb2.cell 0
      have r1 : W.cell? ⟨b2, 1, none⟩ = some (.slice sv s.said.length scv) := hb2.cell 1
      have r2 : W.cell? ⟨b2, 2, none⟩ = some (.slice sl s.limbo.length scl) := hb2.cell 2
      have x0 : W.cell? ⟨X, 0, none⟩ = some (.int .u8 d) := hbX.cell 0
      have x1 : W.cell? ⟨X, 1, none⟩ = some (.int .i8 on) := hbX.cell 1
      have x2 : W.cell? ⟨X, 2, none⟩ = some (.int .i64 n) := hbX.cell 2
      have x3 : W.cell? ⟨X, 3, none⟩ = some (.int .i64 at_) := hbX.cell 3
      clear hb2 hbX
      go_cut [11] (fun s11 wx => s11 = .bool (isT on s.said.length) ∧ wx = W)
      case first =>
        by_cases g0 : 0 ≤ on
        · by_cases g1 : on < s.said.length
          · go_wp2_with fail
            go_meet
            exact ⟨by rw [show isT on s.said.length = true from (by simp [isT]; omega)], rfl⟩
          · go_wp2_with fail
            go_meet
            exact ⟨by rw [show isT on s.said.length = false from (by simp [isT]; omega)], rfl⟩
        · go_wp2_with fail
          go_meet
          exact ⟨by rw [show isT on s.said.length = false from (by simp [isT]; omega)], rfl⟩
      case rest =>
        obtain ⟨rfl, rfl⟩ := hcut
        obtain ⟨nb0, nb1⟩ := hok.nb
        have nb2 : s.now ≤ 60 := by omega
        clear r2
        go_upto_block 2 with fail
        go_cut [10, 11, 12, 13, 45] (fun s10 s11 s12 s13 s45 wx => s10 = .bool true ∧ ∃ s' : Ep, OkEp s' (k + 1) ∧ Heap w wx [epoP b1 s', rfoP b2 s'])
        case first =>
          have hk6 : k ≤ 60 := by omega
          rcases (by omega : d % 6 = 0 ∨ d % 6 = 1 ∨ d % 6 = 2 ∨ d % 6 = 3 ∨ d % 6 = 4 ∨ d % 6 = 5) with hd | hd | hd | hd | hd | hd
          · refine runs_case0 hok hk6 hd o0 o1 n0 n1 t0 t1 HW r0 r1 x0 x1 x2 x3 nb0 nb1 nb2 _ _ _ _ _ _ _ _ _ _ _ _ _ _ _ _ _ _ _ _ _ _ _ _ _ _ _ _ _ _ _ _ _ _ _ _ _ _ _ _ _ _ _ _ _ _ _ _ _ _ _ _ _ _ _ _ _ _ _ _ _ _ _ _ _ _ _ _ _ _ _ _ _ _ _ _ _ _ _ _ _ _ _ _ _ _ _ _ _ _ _ _ _ _ _ _ _ _ _ _ _ _ _ _ _ _ _ _ _ _ _ _ _ _ _ _ _ _ _ _ _ _ _ _ _ _ _ _ _ _ _ _ _ _ _ _ _ _ _ _ _ _ _ _ _ _ _ _ _ _ _ _ _ _ _ _ _ _ _ _ _ _ _ _ _ _ _ _ _ _ _ _ _ _ _ _ _ _ _ _ _ _ _ _ (fun v10 v11 v12 v13 v45 v46 v47 v48 v49 v50 v51 v52 v53 v54 v55 v56 v57 v58 v59 v60 v61 v62 v63 v64 v65 v66 v67 v68 v69 v70 v71 v72 v73 v74 v75 v76 v77 v78 v79 v80 v81 v82 v83 v84 v85 v86 v87 v88 v89 v90 v91 v92 v93 v94 v95 v96 v97 v98 v99 v100 v101 v102 v103 v104 v105 v106 v107 v108 v109 v110 v111 v112 v113 v114 v115 v116 v117 v118 v119 v120 v121 v122 v123 v124 v125 v126 v127 v128 v129 v130 v131 v132 v133 v134 v135 v136 v137 v138 v139 v140 v141 v142 v143 v144 v145 v146 v147 v148 v149 v150 v151 v152 v153 v154 v155 v156 v157 v158 v159 v160 v161 w9 hR => ?_)
            dsimp only
            go_step
            go_meet
            exact hR
          · refine runs_case1 hok hk6 hd o0 o1 n0 n1 t0 t1 HW r0 r1 x0 x1 x2 x3 nb0 nb1 nb2 _ _ _ _ _ _ _ _ _ _ _ _ _ _ _ _ _ _ _ _ _ _ _ _ _ _ _ _ _ _ _ _ _ _ _ _ _ _ _ _ _ _ _ _ _ _ _ _ _ _ _ _ _ _ _ _ _ _ _ _ _ _ _ _ _ _ _ _ _ _ _ _ _ _ _ _ _ _ _ _ _ _ _ _ _ _ _ _ _ _ _ _ _ _ _ _ _ _ _ _ _ _ _ _ _ _ _ _ _ _ _ _ _ _ _ _ _ _ _ _ _ _ _ _ _ _ _ _ _ _ _ _ _ _ _ _ _ _ _ _ _ _ _ _ _ _ _ _ _ _ _ _ _ _ _ _ _ _ _ _ _ _ _ _ _ _ _ _ _ _ _ _ _ _ _ _ _ _ _ _ _ _ _ _ (fun v10 v11 v12 v13 v45 v46 v47 v48 v49 v50 v51 v52 v53 v54 v55 v56 v57 v58 v59 v60 v61 v62 v63 v64 v65 v66 v67 v68 v69 v70 v71 v72 v73 v74 v75 v76 v77 v78 v79 v80 v81 v82 v83 v84 v85 v86 v87 v88 v89 v90 v91 v92 v93 v94 v95 v96 v97 v98 v99 v100 v101 v102 v103 v104 v105 v106 v107 v108 v109 v110 v111 v112 v113 v114 v115 v116 v117 v118 v119 v120 v121 v122 v123 v124 v125 v126 v127 v128 v129 v130 v131 v132 v133 v134 v135 v136 v137 v138 v139 v140 v141 v142 v143 v144 v145 v146 v147 v148 v149 v150 v151 v152 v153 v154 v155 v156 v157 v158 v159 v160 v161 w9 hR => ?_)
            dsimp only
            go_step
            go_meet
            exact hR
          · refine runs_case2 hok hk6 hd o0 o1 n0 n1 t0 t1 HW r0 r1 x0 x1 x2 x3 nb0 nb1 nb2 _ _ _ _ _ _ _ _ _ _ _ _ _ _ _ _ _ _ _ _ _ _ _ _ _ _ _ _ _ _ _ _ _ _ _ _ _ _ _ _ _ _ _ _ _ _ _ _ _ _ _ _ _ _ _ _ _ _ _ _ _ _ _ _ _ _ _ _ _ _ _ _ _ _ _ _ _ _ _ _ _ _ _ _ _ _ _ _ _ _ _ _ _ _ _ _ _ _ _ _ _ _ _ _ _ _ _ _ _ _ _ _ _ _ _ _ _ _ _ _ _ _ _ _ _ _ _ _ _ _ _ _ _ _ _ _ _ _ _ _ _ _ _ _ _ _ _ _ _ _ _ _ _ _ _ _ _ _ _ _ _ _ _ _ _ _ _ _ _ _ _ _ _ _ _ _ _ _ _ _ _ _ _ _ (fun v10 v11 v12 v13 v45 v46 v47 v48 v49 v50 v51 v52 v53 v54 v55 v56 v57 v58 v59 v60 v61 v62 v63 v64 v65 v66 v67 v68 v69 v70 v71 v72 v73 v74 v75 v76 v77 v78 v79 v80 v81 v82 v83 v84 v85 v86 v87 v88 v89 v90 v91 v92 v93 v94 v95 v96 v97 v98 v99 v100 v101 v102 v103 v104 v105 v106 v107 v108 v109 v110 v111 v112 v113 v114 v115 v116 v117 v118 v119 v120 v121 v122 v123 v124 v125 v126 v127 v128 v129 v130 v131 v132 v133 v134 v135 v136 v137 v138 v139 v140 v141 v142 v143 v144 v145 v146 v147 v148 v149 v150 v151 v152 v153 v154 v155 v156 v157 v158 v159 v160 v161 w9 hR => ?_)
            dsimp only
            go_step
            go_meet
            exact hR
          · refine runs_case3 hok hk6 hd o0 o1 n0 n1 t0 t1 HW r0 r1 x0 x1 x2 x3 nb0 nb1 nb2 _ _ _ _ _ _ _ _ _ _ _ _ _ _ _ _ _ _ _ _ _ _ _ _ _ _ _ _ _ _ _ _ _ _ _ _ _ _ _ _ _ _ _ _ _ _ _ _ _ _ _ _ _ _ _ _ _ _ _ _ _ _ _ _ _ _ _ _ _ _ _ _ _ _ _ _ _ _ _ _ _ _ _ _ _ _ _ _ _ _ _ _ _ _ _ _ _ _ _ _ _ _ _ _ _ _ _ _ _ _ _ _ _ _ _ _ _ _ _ _ _ _ _ _ _ _ _ _ _ _ _ _ _ _ _ _ _ _ _ _ _ _ _ _ _ _ _ _ _ _ _ _ _ _ _ _ _ _ _ _ _ _ _ _ _ _ _ _ _ _ _ _ _ _ _ _ _ _ _ _ _ _ _ _ (fun v10 v11 v12 v13 v45 v46 v47 v48 v49 v50 v51 v52 v53 v54 v55 v56 v57 v58 v59 v60 v61 v62 v63 v64 v65 v66 v67 v68 v69 v70 v71 v72 v73 v74 v75 v76 v77 v78 v79 v80 v81 v82 v83 v84 v85 v86 v87 v88 v89 v90 v91 v92 v93 v94 v95 v96 v97 v98 v99 v100 v101 v102 v103 v104 v105 v106 v107 v108 v109 v110 v111 v112 v113 v114 v115 v116 v117 v118 v119 v120 v121 v122 v123 v124 v125 v126 v127 v128 v129 v130 v131 v132 v133 v134 v135 v136 v137 v138 v139 v140 v141 v142 v143 v144 v145 v146 v147 v148 v149 v150 v151 v152 v153 v154 v155 v156 v157 v158 v159 v160 v161 w9 hR => ?_)
            dsimp only
            go_step
            go_meet
            exact hR
          · refine runs_case4 hok hk6 hd o0 o1 n0 n1 t0 t1 HW r0 r1 x0 x1 x2 x3 nb0 nb1 nb2 _ _ _ _ _ _ _ _ _ _ _ _ _ _ _ _ _ _ _ _ _ _ _ _ _ _ _ _ _ _ _ _ _ _ _ _ _ _ _ _ _ _ _ _ _ _ _ _ _ _ _ _ _ _ _ _ _ _ _ _ _ _ _ _ _ _ _ _ _ _ _ _ _ _ _ _ _ _ _ _ _ _ _ _ _ _ _ _ _ _ _ _ _ _ _ _ _ _ _ _ _ _ _ _ _ _ _ _ _ _ _ _ _ _ _ _ _ _ _ _ _ _ _ _ _ _ _ _ _ _ _ _ _ _ _ _ _ _ _ _ _ _ _ _ _ _ _ _ _ _ _ _ _ _ _ _ _ _ _ _ _ _ _ _ _ _ _ _ _ _ _ _ _ _ _ _ _ _ _ _ _ _ _ _ (fun v10 v11 v12 v13 v45 v46 v47 v48 v49 v50 v51 v52 v53 v54 v55 v56 v57 v58 v59 v60 v61 v62 v63 v64 v65 v66 v67 v68 v69 v70 v71 v72 v73 v74 v75 v76 v77 v78 v79 v80 v81 v82 v83 v84 v85 v86 v87 v88 v89 v90 v91 v92 v93 v94 v95 v96 v97 v98 v99 v100 v101 v102 v103 v104 v105 v106 v107 v108 v109 v110 v111 v112 v113 v114 v115 v116 v117 v118 v119 v120 v121 v122 v123 v124 v125 v126 v127 v128 v129 v130 v131 v132 v133 v134 v135 v136 v137 v138 v139 v140 v141 v142 v143 v144 v145 v146 v147 v148 v149 v150 v151 v152 v153 v154 v155 v156 v157 v158 v159 v160 v161 w9 hR => ?_)
            dsimp only
            go_step
            go_meet
            exact hR
          · refine runs_case5 hok hk6 hd o0 o1 n0 n1 t0 t1 HW r0 r1 x0 x1 x2 x3 nb0 nb1 nb2 _ _ _ _ _ _ _ _ _ _ _ _ _ _ _ _ _ _ _ _ _ _ _ _ _ _ _ _ _ _ _ _ _ _ _ _ _ _ _ _ _ _ _ _ _ _ _ _ _ _ _ _ _ _ _ _ _ _ _ _ _ _ _ _ _ _ _ _ _ _ _ _ _ _ _ _ _ _ _ _ _ _ _ _ _ _ _ _ _ _ _ _ _ _ _ _ _ _ _ _ _ _ _ _ _ _ _ _ _ _ _ _ _ _ _ _ _ _ _ _ _ _ _ _ _ _ _ _ _ _ _ _ _ _ _ _ _ _ _ _ _ _ _ _ _ _ _ _ _ _ _ _ _ _ _ _ _ _ _ _ _ _ _ _ _ _ _ _ _ _ _ _ _ _ _ _ _ _ _ _ _ _ _ _ (fun v10 v11 v12 v13 v45 v46 v47 v48 v49 v50 v51 v52 v53 v54 v55 v56 v57 v58 v59 v60 v61 v62 v63 v64 v65 v66 v67 v68 v69 v70 v71 v72 v73 v74 v75 v76 v77 v78 v79 v80 v81 v82 v83 v84 v85 v86 v87 v88 v89 v90 v91 v92 v93 v94 v95 v96 v97 v98 v99 v100 v101 v102 v103 v104 v105 v106 v107 v108 v109 v110 v111 v112 v113 v114 v115 v116 v117 v118 v119 v120 v121 v122 v123 v124 v125 v126 v127 v128 v129 v130 v131 v132 v133 v134 v135 v136 v137 v138 v139 v140 v141 v142 v143 v144 v145 v146 v147 v148 v149 v150 v151 v152 v153 v154 v155 v156 v157 v158 v159 v160 v161 w9 hR => ?_)
            dsimp only
            go_step
            go_meet
            exact hR
        case rest =>
          obtain ⟨rfl, s', hok', H5⟩ := hcut
          obtain ⟨_, _, _, _, hb⟩ := rfo_cells H5 1 rfl
          have y0 : wc.cell? ⟨b2, 0, none⟩ = some (.int .i64 s'.now) := hb.cell 0
          clear hb
          go_wp2_with fail
          go_quiet ((first | (go_at_call 16; exact Calls.quiet_of_same (Now_h (H5.drewN _) 0 rfl)) | (go_at_call 13; exact Calls.quiet_of_same (Limbo_h (H5.drewN _) 0 rfl (by have := hok'.few; omega))) | (go_at_call 22; exact Calls.quiet_of_same (Many_h (H5.drewN _) 1 rfl (by have := hok'.few; omega)))))
          go_wp2_with fail
          exact ⟨⟨k + 1, s', by omega, by go_num, hok', H5.drewN _⟩, by simp [intOf]; omega⟩
    · obtain ⟨sv, scv, sl, scl, hb2⟩ := rfo_cells H 1 rfl
      have r1 : wr.cell? ⟨b2, 1, none⟩ = some (.slice sv s.said.length scv) := hb2.cell 1
      clear hb2
      go_wp2_with fail
      go_quiet ((go_at_call 17; exact Calls.quiet_of_same (Len_h (H.drewN _) 0 rfl)))
      go_wp2_with fail
      go_ret
      exact ⟨rfl, (H.drewN _).below⟩
end Go.Proofs.Ytnoioldbddjkiaa
