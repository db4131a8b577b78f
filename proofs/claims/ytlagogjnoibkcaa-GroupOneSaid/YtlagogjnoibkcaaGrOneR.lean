/- GroupOne: the region that looks at a member, as theorems of its own. -/
import Derived.Test.YtlagogjnoibkcaaGrPure
import Derived.Test.YtlagogjnoibkcaaRegionOf
namespace Go.Proofs.Ytlagogjnoibkcaa
open Go.RowKit Go.Proofs.YtlagogjnoibkcaaW.PrintLast
set_option linter.unusedVariables false
set_option linter.unusedSimpArgs false

noncomputable def groupOne_first_code : Code := (Try.f8.body.bind (regionOf 41)).getD .skip
set_option maxHeartbeats 16000000 in
set_option maxRecDepth 1000000 in
theorem groupOne_first (w7 : World) (b mg ig l mc : Nat) (x : Nat) (g : Int) (hl : 0 < l)
    (hx1 : decide ((x : Int) < 1) = false) (hx2 : decide (100 < (x : Int)) = false) (q1 : (0 : Int) ≤ (x : Int)) (q2 : (x : Int) < 101) (q3 : (0 : Int) < (l : Int))
    (A1 : Hid (∀ W, Ext [] w7 W → Calls Try.prog 39 #[.pointer (some ⟨b, 0, none⟩), .int .i64 x] W fun e w' => e = .returned (.int .i64 g) ∧ Ext [] W w'))
    (kf1 : Hid (∀ W, Ext [] w7 W → W.cell? ⟨mg, 0, none⟩ = some (.int .i64 x))) (kf2 : Hid (∀ W, Ext [] w7 W → W.cell? ⟨ig, x, none⟩ = some (.int .i64 g))) {u0 u1 u2 u3 u4 u6 u7 u8 u10 u11 u12 u13 u14 u15 u16 u17 u18 u22 u23 u24 u25 u26 u27 u28 u29 u30 u31 u32 u33 u34 u35 u36 u37 u38 u39 u40 u41 u42 u43 u44 u45 u46 u47 u48 u49 u50 u51 u52 u53 u54 u55 u56 u57 u58 u59 u60 u61 u62 u63 u64 u65 u66 u67 u68 u69 u70 u71 u72 u73 u74 u75 u76 u77 u78 u79 u80 u81 u82 u83 u84 u85 u86 u87 u88 u89 u90 u91 u92 u93 u94 u95 u96 u97 u98 u99 u100 u101 u102 u103 u104 u105 u106 u107 u108 u109 u110 u111 u112 u113 u114 u115 u116 u117 u118 u119 u120 u121 u122 u123 u124 u125 u126 u127 u128 u129 u130 u131 u132 u133 u134 u135 u136 u137 u138 u139 u140 u141 u142 u143 u144 u145 u146 u147 u148 u149 u150 u151 u152 u153 u154 u155 u156 u157 u158 u159 u160 u161 u162 u163 u164 u165 u166 u167 u168 u169 u170 u171 u172 u173 u174 u175 u176 u177 u178 u179 u180 u181 u182 u183 u184 u185 u186 u187 u188 u189 u190 u191 u192 u193 u194 u195 u196 u197 u198 u199 u200 u201 u202 u203 u204 u205 u206 u207 : Value} (Q : Exit → Act → World → Prop) (hQ : ∀ c (a : Act) (d : Nat) (v : Value) w, Q (.panic c) (a.put (some d) v) w → Q (.panic c) a w)
    (hfin : ∀ (v153 v154 v155 v156 v157 v158 v159 v160 v161 v162 v163 v164 v165 v166 v167 v168 v169 v170 v171 v172 v173 v174 v175 v176 v177 v178 v179 v180 v181 v182 v183 v184 v185 v186 v187 v188 v189 v190 v191 v192 v193 v194 v195 v196 v197 v198 v199 v200 : Value) (w' : World) (e : Ext [] w7 w'), Q .normal ⟨#[u0, u1, u2, u3, u4, .pointer (some ⟨b, 0, none⟩), u6, u7, u8, .slice (some ⟨ig, 0, none⟩) 101 101, u10, u11, u12, u13, u14, u15, u16, u17, u18, .int .i64 g, .slice (some ⟨mg, 0, none⟩) l mc, .int .i64 0, u22, u23, u24, u25, u26, u27, u28, u29, u30, u31, u32, u33, u34, u35, u36, u37, u38, u39, u40, u41, u42, u43, u44, u45, u46, u47, u48, u49, u50, u51, u52, u53, u54, u55, u56, u57, u58, u59, u60, u61, u62, u63, u64, u65, u66, u67, u68, u69, u70, u71, u72, u73, u74, u75, u76, u77, u78, u79, u80, u81, u82, u83, u84, u85, u86, u87, u88, u89, u90, u91, u92, u93, u94, u95, u96, u97, u98, u99, u100, u101, u102, u103, u104, u105, u106, u107, u108, u109, u110, u111, u112, u113, u114, u115, u116, u117, u118, u119, u120, u121, u122, u123, u124, u125, u126, u127, u128, u129, u130, u131, u132, u133, u134, u135, u136, u137, u138, u139, u140, u141, u142, u143, u144, u145, u146, u147, u148, u149, u150, u151, u152, v153, v154, v155, v156, v157, v158, v159, v160, v161, v162, v163, v164, v165, v166, v167, v168, v169, v170, v171, v172, v173, v174, v175, v176, v177, v178, v179, v180, v181, v182, v183, v184, v185, v186, v187, v188, v189, v190, v191, v192, v193, v194, v195, v196, v197, v198, v199, v200, .bool false, u202, u203, u204, u205, u206, u207], []⟩ w') : groupOne_first_code.wp Try.prog Q ⟨#[u0, u1, u2, u3, u4, .pointer (some ⟨b, 0, none⟩), u6, u7, u8, .slice (some ⟨ig, 0, none⟩) 101 101, u10, u11, u12, u13, u14, u15, u16, u17, u18, .int .i64 g, .slice (some ⟨mg, 0, none⟩) l mc, .int .i64 0, u22, u23, u24, u25, u26, u27, u28, u29, u30, u31, u32, u33, u34, u35, u36, u37, u38, u39, u40, u41, u42, u43, u44, u45, u46, u47, u48, u49, u50, u51, u52, u53, u54, u55, u56, u57, u58, u59, u60, u61, u62, u63, u64, u65, u66, u67, u68, u69, u70, u71, u72, u73, u74, u75, u76, u77, u78, u79, u80, u81, u82, u83, u84, u85, u86, u87, u88, u89, u90, u91, u92, u93, u94, u95, u96, u97, u98, u99, u100, u101, u102, u103, u104, u105, u106, u107, u108, u109, u110, u111, u112, u113, u114, u115, u116, u117, u118, u119, u120, u121, u122, u123, u124, u125, u126, u127, u128, u129, u130, u131, u132, u133, u134, u135, u136, u137, u138, u139, u140, u141, u142, u143, u144, u145, u146, u147, u148, u149, u150, u151, u152, u153, u154, u155, u156, u157, u158, u159, u160, u161, u162, u163, u164, u165, u166, u167, u168, u169, u170, u171, u172, u173, u174, u175, u176, u177, u178, u179, u180, u181, u182, u183, u184, u185, u186, u187, u188, u189, u190, u191, u192, u193, u194, u195, u196, u197, u198, u199, u200, u201, u202, u203, u204, u205, u206, u207], []⟩ w7 := by
  conv => arg 2; whnf
  have c1 := kf1.out _ (Ext.refl [] w7).drew
  have c2 := kf2.out _ (Ext.refl [] w7).drew
  refine start_ (n := 49) (S := fun w' => w'.cell? ⟨mg, 0, none⟩ = some (.int .i64 x) ∧ w'.cell? ⟨ig, x, none⟩ = some (.int .i64 g)) (ds := []) #[false, false, false, false, false, false, false, false, false, false, false, false, false, false, false, false, false, false, false, false, false, false, false, false, false, false, false, false, false, false, false, false, false, false, false, false, false, false, false, false, false, false, false, false, false, false, false, false, false] (by kernel_rfl) rfl rfl ⟨c1, c2⟩ (fun hHeld => ?_)
  refine pure_ (i := 0) (N := some 153) (v := ?_) (a' := ?_) #[true, false, false, false, false, false, false, false, false, false, false, false, false, false, false, false, false, false, false, false, false, false, false, false, false, false, false, false, false, false, false, false, false, false, false, false, false, false, false, false, false, false, false, false, false, false, false, false, false] rfl rfl (by kernel_rfl) (fun _ _ _ h => hQ _ _ _ _ _ h) (Or.inl ⟨by rfl, ?_⟩) ?_ ?_
  rotate_left
  · intro w'
    as_aux_lemma =>
      go_simp
      with_reducible rfl
  rotate_left
  · (simp only [Act.put, List.setIfInBounds_toArray, i64_w, i32_w]; dsimp only [List.set_cons_zero, List.set_cons_succ])
    rfl
  refine pure_ (i := 1) (N := some 154) (v := ?_) (a' := ?_) #[true, true, false, false, false, false, false, false, false, false, false, false, false, false, false, false, false, false, false, false, false, false, false, false, false, false, false, false, false, false, false, false, false, false, false, false, false, false, false, false, false, false, false, false, false, false, false, false, false] rfl rfl (by kernel_rfl) (fun _ _ _ h => hQ _ _ _ _ _ h) (Or.inl ⟨by rfl, ?_⟩) ?_ ?_
  rotate_left
  · intro w'
    as_aux_lemma =>
      go_simp
      with_reducible rfl
  rotate_left
  · (simp only [Act.put, List.setIfInBounds_toArray, i64_w, i32_w]; dsimp only [List.set_cons_zero, List.set_cons_succ])
    rfl
  refine pure_ (i := 2) (N := some 155) (v := ?_) (a' := ?_) #[true, true, true, false, false, false, false, false, false, false, false, false, false, false, false, false, false, false, false, false, false, false, false, false, false, false, false, false, false, false, false, false, false, false, false, false, false, false, false, false, false, false, false, false, false, false, false, false, false] rfl rfl (by kernel_rfl) (fun _ _ _ h => hQ _ _ _ _ _ h) (Or.inl ⟨by rfl, ?_⟩) ?_ ?_
  rotate_left
  · intro w'
    as_aux_lemma =>
      go_simp
      with_reducible rfl
  rotate_left
  · (simp only [Act.put, List.setIfInBounds_toArray, i64_w, i32_w]; dsimp only [List.set_cons_zero, List.set_cons_succ])
    rfl
  refine take_ (i := 3) (N := some 156) (v := ?_) (a' := ?_) #[true, true, true, true, false, false, false, false, false, false, false, false, false, false, false, false, false, false, false, false, false, false, false, false, false, false, false, false, false, false, false, false, false, false, false, false, false, false, false, false, false, false, false, false, false, false, false, false, false] rfl rfl (by kernel_rfl) (fun _ _ _ h => hQ _ _ _ _ _ h) (Or.inl ⟨by rfl, ?_⟩) hHeld ?_ ?_
  rotate_left
  · rintro w' ⟨s0, s1⟩
    as_aux_lemma =>
      go_simp
      with_reducible rfl
  rotate_left
  · (simp only [Act.put, List.setIfInBounds_toArray, i64_w, i32_w]; dsimp only [List.set_cons_zero, List.set_cons_succ])
    rfl
  refine pure_ (i := 4) (N := some 157) (v := ?_) (a' := ?_) #[true, true, true, true, true, false, false, false, false, false, false, false, false, false, false, false, false, false, false, false, false, false, false, false, false, false, false, false, false, false, false, false, false, false, false, false, false, false, false, false, false, false, false, false, false, false, false, false, false] rfl rfl (by kernel_rfl) (fun _ _ _ h => hQ _ _ _ _ _ h) (Or.inl ⟨by rfl, ?_⟩) ?_ ?_
  rotate_left
  · intro w'
    as_aux_lemma =>
      go_simp
      with_reducible rfl
  rotate_left
  · (simp only [Act.put, List.setIfInBounds_toArray, i64_w, i32_w]; dsimp only [List.set_cons_zero, List.set_cons_succ])
    rfl
  refine pure_ (i := 5) (N := some 158) (v := ?_) (a' := ?_) #[true, true, true, true, true, true, false, false, false, false, false, false, false, false, false, false, false, false, false, false, false, false, false, false, false, false, false, false, false, false, false, false, false, false, false, false, false, false, false, false, false, false, false, false, false, false, false, false, false] rfl rfl (by kernel_rfl) (fun _ _ _ h => hQ _ _ _ _ _ h) (Or.inl ⟨by rfl, ?_⟩) ?_ ?_
  rotate_left
  · intro w'
    as_aux_lemma =>
      go_simp
      with_reducible rfl
  rotate_left
  · (simp only [Act.put, List.setIfInBounds_toArray, i64_w, i32_w]; dsimp only [List.set_cons_zero, List.set_cons_succ])
    rfl
  refine pure_ (i := 6) (N := some 159) (v := ?_) (a' := ?_) #[true, true, true, true, true, true, true, false, false, false, false, false, false, false, false, false, false, false, false, false, false, false, false, false, false, false, false, false, false, false, false, false, false, false, false, false, false, false, false, false, false, false, false, false, false, false, false, false, false] rfl rfl (by kernel_rfl) (fun _ _ _ h => hQ _ _ _ _ _ h) (Or.inl ⟨by rfl, ?_⟩) ?_ ?_
  rotate_left
  · intro w'
    as_aux_lemma =>
      go_simp
      with_reducible rfl
  rotate_left
  · (simp only [Act.put, List.setIfInBounds_toArray, i64_w, i32_w]; dsimp only [List.set_cons_zero, List.set_cons_succ])
    rfl
  refine pure_ (i := 7) (N := some 160) (v := ?_) (a' := ?_) #[true, true, true, true, true, true, true, true, false, false, false, false, false, false, false, false, false, false, false, false, false, false, false, false, false, false, false, false, false, false, false, false, false, false, false, false, false, false, false, false, false, false, false, false, false, false, false, false, false] rfl rfl (by kernel_rfl) (fun _ _ _ h => hQ _ _ _ _ _ h) (Or.inl ⟨by rfl, ?_⟩) ?_ ?_
  rotate_left
  · intro w'
    as_aux_lemma =>
      go_simp
      with_reducible rfl
  rotate_left
  · (simp only [Act.put, List.setIfInBounds_toArray, i64_w, i32_w]; dsimp only [List.set_cons_zero, List.set_cons_succ])
    rfl
  refine pure_ (i := 8) (N := some 161) (v := ?_) (a' := ?_) #[true, true, true, true, true, true, true, true, true, false, false, false, false, false, false, false, false, false, false, false, false, false, false, false, false, false, false, false, false, false, false, false, false, false, false, false, false, false, false, false, false, false, false, false, false, false, false, false, false] rfl rfl (by kernel_rfl) (fun _ _ _ h => hQ _ _ _ _ _ h) (Or.inl ⟨by rfl, ?_⟩) ?_ ?_
  rotate_left
  · intro w'
    as_aux_lemma =>
      go_simp
      with_reducible rfl
  rotate_left
  · (simp only [Act.put, List.setIfInBounds_toArray, i64_w, i32_w]; dsimp only [List.set_cons_zero, List.set_cons_succ])
    rfl
  refine take_ (i := 9) (N := some 162) (v := ?_) (a' := ?_) #[true, true, true, true, true, true, true, true, true, true, false, false, false, false, false, false, false, false, false, false, false, false, false, false, false, false, false, false, false, false, false, false, false, false, false, false, false, false, false, false, false, false, false, false, false, false, false, false, false] rfl rfl (by kernel_rfl) (fun _ _ _ h => hQ _ _ _ _ _ h) (Or.inl ⟨by rfl, ?_⟩) hHeld ?_ ?_
  rotate_left
  · rintro w' ⟨s0, s1⟩
    as_aux_lemma =>
      go_simp
      with_reducible rfl
  rotate_left
  · (simp only [Act.put, List.setIfInBounds_toArray, i64_w, i32_w]; dsimp only [List.set_cons_zero, List.set_cons_succ])
    rfl
  refine pure_ (i := 10) (N := some 163) (v := ?_) (a' := ?_) #[true, true, true, true, true, true, true, true, true, true, true, false, false, false, false, false, false, false, false, false, false, false, false, false, false, false, false, false, false, false, false, false, false, false, false, false, false, false, false, false, false, false, false, false, false, false, false, false, false] rfl rfl (by kernel_rfl) (fun _ _ _ h => hQ _ _ _ _ _ h) (Or.inl ⟨by rfl, ?_⟩) ?_ ?_
  rotate_left
  · intro w'
    as_aux_lemma =>
      go_simp
      with_reducible rfl
  rotate_left
  · (simp only [Act.put, List.setIfInBounds_toArray, i64_w, i32_w]; dsimp only [List.set_cons_zero, List.set_cons_succ])
    rfl
  refine pure_ (i := 11) (N := some 164) (v := ?_) (a' := ?_) #[true, true, true, true, true, true, true, true, true, true, true, true, false, false, false, false, false, false, false, false, false, false, false, false, false, false, false, false, false, false, false, false, false, false, false, false, false, false, false, false, false, false, false, false, false, false, false, false, false] rfl rfl (by kernel_rfl) (fun _ _ _ h => hQ _ _ _ _ _ h) (Or.inl ⟨by rfl, ?_⟩) ?_ ?_
  rotate_left
  · intro w'
    as_aux_lemma =>
      go_simp
      with_reducible rfl
  rotate_left
  · (simp only [Act.put, List.setIfInBounds_toArray, i64_w, i32_w]; dsimp only [List.set_cons_zero, List.set_cons_succ])
    rfl
  refine pure_ (i := 12) (N := some 165) (v := ?_) (a' := ?_) #[true, true, true, true, true, true, true, true, true, true, true, true, true, false, false, false, false, false, false, false, false, false, false, false, false, false, false, false, false, false, false, false, false, false, false, false, false, false, false, false, false, false, false, false, false, false, false, false, false] rfl rfl (by kernel_rfl) (fun _ _ _ h => hQ _ _ _ _ _ h) (Or.inl ⟨by rfl, ?_⟩) ?_ ?_
  rotate_left
  · intro w'
    as_aux_lemma =>
      go_simp
      with_reducible rfl
  rotate_left
  · (simp only [Act.put, List.setIfInBounds_toArray, i64_w, i32_w]; dsimp only [List.set_cons_zero, List.set_cons_succ])
    rfl
  refine pure_ (i := 13) (N := some 166) (v := ?_) (a' := ?_) #[true, true, true, true, true, true, true, true, true, true, true, true, true, true, false, false, false, false, false, false, false, false, false, false, false, false, false, false, false, false, false, false, false, false, false, false, false, false, false, false, false, false, false, false, false, false, false, false, false] rfl rfl (by kernel_rfl) (fun _ _ _ h => hQ _ _ _ _ _ h) (Or.inl ⟨by rfl, ?_⟩) ?_ ?_
  rotate_left
  · intro w'
    as_aux_lemma =>
      go_simp
      with_reducible rfl
  rotate_left
  · (simp only [Act.put, List.setIfInBounds_toArray, i64_w, i32_w]; dsimp only [List.set_cons_zero, List.set_cons_succ])
    rfl
  refine pure_ (i := 14) (N := some 167) (v := ?_) (a' := ?_) #[true, true, true, true, true, true, true, true, true, true, true, true, true, true, true, false, false, false, false, false, false, false, false, false, false, false, false, false, false, false, false, false, false, false, false, false, false, false, false, false, false, false, false, false, false, false, false, false, false] rfl rfl (by kernel_rfl) (fun _ _ _ h => hQ _ _ _ _ _ h) (Or.inl ⟨by rfl, ?_⟩) ?_ ?_
  rotate_left
  · intro w'
    as_aux_lemma =>
      go_simp
      with_reducible rfl
  rotate_left
  · (simp only [Act.put, List.setIfInBounds_toArray, i64_w, i32_w]; dsimp only [List.set_cons_zero, List.set_cons_succ])
    rfl
  refine pure_ (i := 15) (N := some 168) (v := ?_) (a' := ?_) #[true, true, true, true, true, true, true, true, true, true, true, true, true, true, true, true, false, false, false, false, false, false, false, false, false, false, false, false, false, false, false, false, false, false, false, false, false, false, false, false, false, false, false, false, false, false, false, false, false] rfl rfl (by kernel_rfl) (fun _ _ _ h => hQ _ _ _ _ _ h) (Or.inl ⟨by rfl, ?_⟩) ?_ ?_
  rotate_left
  · intro w'
    as_aux_lemma =>
      go_simp
      with_reducible rfl
  rotate_left
  · (simp only [Act.put, List.setIfInBounds_toArray, i64_w, i32_w]; dsimp only [List.set_cons_zero, List.set_cons_succ])
    rfl
  refine pure_ (i := 16) (N := some 169) (v := ?_) (a' := ?_) #[true, true, true, true, true, true, true, true, true, true, true, true, true, true, true, true, true, false, false, false, false, false, false, false, false, false, false, false, false, false, false, false, false, false, false, false, false, false, false, false, false, false, false, false, false, false, false, false, false] rfl rfl (by kernel_rfl) (fun _ _ _ h => hQ _ _ _ _ _ h) (Or.inl ⟨by rfl, ?_⟩) ?_ ?_
  rotate_left
  · intro w'
    as_aux_lemma =>
      go_simp
      with_reducible rfl
  rotate_left
  · (simp only [Act.put, List.setIfInBounds_toArray, i64_w, i32_w]; dsimp only [List.set_cons_zero, List.set_cons_succ])
    rfl
  refine pure_ (i := 20) (N := some 173) (v := ?_) (a' := ?_) #[true, true, true, true, true, true, true, true, true, true, true, true, true, true, true, true, true, false, false, false, true, false, false, false, false, false, false, false, false, false, false, false, false, false, false, false, false, false, false, false, false, false, false, false, false, false, false, false, false] rfl rfl (by kernel_rfl) (fun _ _ _ h => hQ _ _ _ _ _ h) (Or.inl ⟨by rfl, ?_⟩) ?_ ?_
  rotate_left
  · intro w'
    as_aux_lemma =>
      go_simp
      with_reducible rfl
  rotate_left
  · (simp only [Act.put, List.setIfInBounds_toArray, i64_w, i32_w]; dsimp only [List.set_cons_zero, List.set_cons_succ])
    rfl
  refine take_ (i := 17) (N := some 170) (v := ?_) (a' := ?_) #[true, true, true, true, true, true, true, true, true, true, true, true, true, true, true, true, true, true, false, false, true, false, false, false, false, false, false, false, false, false, false, false, false, false, false, false, false, false, false, false, false, false, false, false, false, false, false, false, false] rfl rfl (by kernel_rfl) (fun _ _ _ h => hQ _ _ _ _ _ h) (Or.inl ⟨by rfl, ?_⟩) hHeld ?_ ?_
  rotate_left
  · rintro w' ⟨s0, s1⟩
    as_aux_lemma =>
      go_simp
      with_reducible rfl
  rotate_left
  · (simp only [Act.put, List.setIfInBounds_toArray, i64_w, i32_w]; dsimp only [List.set_cons_zero, List.set_cons_succ])
    rfl
  refine pure_ (i := 18) (N := some 171) (v := ?_) (a' := ?_) #[true, true, true, true, true, true, true, true, true, true, true, true, true, true, true, true, true, true, true, false, true, false, false, false, false, false, false, false, false, false, false, false, false, false, false, false, false, false, false, false, false, false, false, false, false, false, false, false, false] rfl rfl (by kernel_rfl) (fun _ _ _ h => hQ _ _ _ _ _ h) (Or.inl ⟨by rfl, ?_⟩) ?_ ?_
  rotate_left
  · intro w'
    as_aux_lemma =>
      go_simp
      with_reducible rfl
  rotate_left
  · (simp only [Act.put, List.setIfInBounds_toArray, i64_w, i32_w]; dsimp only [List.set_cons_zero, List.set_cons_succ])
    rfl
  refine take_ (i := 19) (N := some 172) (v := ?_) (a' := ?_) #[true, true, true, true, true, true, true, true, true, true, true, true, true, true, true, true, true, true, true, true, true, false, false, false, false, false, false, false, false, false, false, false, false, false, false, false, false, false, false, false, false, false, false, false, false, false, false, false, false] rfl rfl (by kernel_rfl) (fun _ _ _ h => hQ _ _ _ _ _ h) (Or.inl ⟨by rfl, ?_⟩) hHeld ?_ ?_
  rotate_left
  · rintro w' ⟨s0, s1⟩
    as_aux_lemma =>
      go_simp
      with_reducible rfl
  rotate_left
  · (simp only [Act.put, List.setIfInBounds_toArray, i64_w, i32_w]; dsimp only [List.set_cons_zero, List.set_cons_succ])
    rfl
  refine pure_ (i := 21) (N := some 174) (v := ?_) (a' := ?_) #[true, true, true, true, true, true, true, true, true, true, true, true, true, true, true, true, true, true, true, true, true, true, false, false, false, false, false, false, false, false, false, false, false, false, false, false, false, false, false, false, false, false, false, false, false, false, false, false, false] rfl rfl (by kernel_rfl) (fun _ _ _ h => hQ _ _ _ _ _ h) (Or.inl ⟨by rfl, ?_⟩) ?_ ?_
  rotate_left
  · intro w'
    as_aux_lemma =>
      go_simp
      with_reducible rfl
  rotate_left
  · (simp only [Act.put, List.setIfInBounds_toArray, i64_w, i32_w]; dsimp only [List.set_cons_zero, List.set_cons_succ])
    rfl
  refine pure_ (i := 22) (N := some 175) (v := ?_) (a' := ?_) #[true, true, true, true, true, true, true, true, true, true, true, true, true, true, true, true, true, true, true, true, true, true, true, false, false, false, false, false, false, false, false, false, false, false, false, false, false, false, false, false, false, false, false, false, false, false, false, false, false] rfl rfl (by kernel_rfl) (fun _ _ _ h => hQ _ _ _ _ _ h) (Or.inl ⟨by rfl, ?_⟩) ?_ ?_
  rotate_left
  · intro w'
    as_aux_lemma =>
      go_simp
      with_reducible rfl
  rotate_left
  · (simp only [Act.put, List.setIfInBounds_toArray, i64_w, i32_w]; dsimp only [List.set_cons_zero, List.set_cons_succ])
    rfl
  refine pure_ (i := 23) (N := some 176) (v := ?_) (a' := ?_) #[true, true, true, true, true, true, true, true, true, true, true, true, true, true, true, true, true, true, true, true, true, true, true, true, false, false, false, false, false, false, false, false, false, false, false, false, false, false, false, false, false, false, false, false, false, false, false, false, false] rfl rfl (by kernel_rfl) (fun _ _ _ h => hQ _ _ _ _ _ h) (Or.inl ⟨by rfl, ?_⟩) ?_ ?_
  rotate_left
  · intro w'
    as_aux_lemma =>
      go_simp
      with_reducible rfl
  rotate_left
  · (simp only [Act.put, List.setIfInBounds_toArray, i64_w, i32_w]; dsimp only [List.set_cons_zero, List.set_cons_succ])
    rfl
  refine pure_ (i := 24) (N := some 177) (v := ?_) (a' := ?_) #[true, true, true, true, true, true, true, true, true, true, true, true, true, true, true, true, true, true, true, true, true, true, true, true, true, false, false, false, false, false, false, false, false, false, false, false, false, false, false, false, false, false, false, false, false, false, false, false, false] rfl rfl (by kernel_rfl) (fun _ _ _ h => hQ _ _ _ _ _ h) (Or.inl ⟨by rfl, ?_⟩) ?_ ?_
  rotate_left
  · intro w'
    as_aux_lemma =>
      go_simp
      with_reducible rfl
  rotate_left
  · (simp only [Act.put, List.setIfInBounds_toArray, i64_w, i32_w]; dsimp only [List.set_cons_zero, List.set_cons_succ])
    rfl
  refine pure_ (i := 25) (N := some 178) (v := ?_) (a' := ?_) #[true, true, true, true, true, true, true, true, true, true, true, true, true, true, true, true, true, true, true, true, true, true, true, true, true, true, false, false, false, false, false, false, false, false, false, false, false, false, false, false, false, false, false, false, false, false, false, false, false] rfl rfl (by kernel_rfl) (fun _ _ _ h => hQ _ _ _ _ _ h) (Or.inl ⟨by rfl, ?_⟩) ?_ ?_
  rotate_left
  · intro w'
    as_aux_lemma =>
      go_simp
      with_reducible rfl
  rotate_left
  · (simp only [Act.put, List.setIfInBounds_toArray, i64_w, i32_w]; dsimp only [List.set_cons_zero, List.set_cons_succ])
    rfl
  refine pure_ (i := 26) (N := some 179) (v := ?_) (a' := ?_) #[true, true, true, true, true, true, true, true, true, true, true, true, true, true, true, true, true, true, true, true, true, true, true, true, true, true, true, false, false, false, false, false, false, false, false, false, false, false, false, false, false, false, false, false, false, false, false, false, false] rfl rfl (by kernel_rfl) (fun _ _ _ h => hQ _ _ _ _ _ h) (Or.inl ⟨by rfl, ?_⟩) ?_ ?_
  rotate_left
  · intro w'
    as_aux_lemma =>
      go_simp
      with_reducible rfl
  rotate_left
  · (simp only [Act.put, List.setIfInBounds_toArray, i64_w, i32_w]; dsimp only [List.set_cons_zero, List.set_cons_succ])
    rfl
  refine pure_ (i := 27) (N := some 180) (v := ?_) (a' := ?_) #[true, true, true, true, true, true, true, true, true, true, true, true, true, true, true, true, true, true, true, true, true, true, true, true, true, true, true, true, false, false, false, false, false, false, false, false, false, false, false, false, false, false, false, false, false, false, false, false, false] rfl rfl (by kernel_rfl) (fun _ _ _ h => hQ _ _ _ _ _ h) (Or.inl ⟨by rfl, ?_⟩) ?_ ?_
  rotate_left
  · intro w'
    as_aux_lemma =>
      go_simp
      with_reducible rfl
  rotate_left
  · (simp only [Act.put, List.setIfInBounds_toArray, i64_w, i32_w]; dsimp only [List.set_cons_zero, List.set_cons_succ])
    rfl
  refine pure_ (i := 30) (N := some 183) (v := ?_) (a' := ?_) #[true, true, true, true, true, true, true, true, true, true, true, true, true, true, true, true, true, true, true, true, true, true, true, true, true, true, true, true, false, false, true, false, false, false, false, false, false, false, false, false, false, false, false, false, false, false, false, false, false] rfl rfl (by kernel_rfl) (fun _ _ _ h => hQ _ _ _ _ _ h) (Or.inl ⟨by rfl, ?_⟩) ?_ ?_
  rotate_left
  · intro w'
    as_aux_lemma =>
      go_simp
      with_reducible rfl
  rotate_left
  · (simp only [Act.put, List.setIfInBounds_toArray, i64_w, i32_w]; dsimp only [List.set_cons_zero, List.set_cons_succ])
    rfl
  refine take_ (i := 28) (N := some 181) (v := ?_) (a' := ?_) #[true, true, true, true, true, true, true, true, true, true, true, true, true, true, true, true, true, true, true, true, true, true, true, true, true, true, true, true, true, false, true, false, false, false, false, false, false, false, false, false, false, false, false, false, false, false, false, false, false] rfl rfl (by kernel_rfl) (fun _ _ _ h => hQ _ _ _ _ _ h) (Or.inl ⟨by rfl, ?_⟩) hHeld ?_ ?_
  rotate_left
  · rintro w' ⟨s0, s1⟩
    as_aux_lemma =>
      go_simp
      with_reducible rfl
  rotate_left
  · (simp only [Act.put, List.setIfInBounds_toArray, i64_w, i32_w]; dsimp only [List.set_cons_zero, List.set_cons_succ])
    rfl
  refine one_ (i := 29) (N := some 182) #[true, true, true, true, true, true, true, true, true, true, true, true, true, true, true, true, true, true, true, true, true, true, true, true, true, true, true, true, true, true, true, false, false, false, false, false, false, false, false, false, false, false, false, false, false, false, false, false, false] rfl rfl (by kernel_rfl) (by decide) (fun K hK => ?_)
  refine goes_ Try.func39 (by kernel_rfl) rfl #[.pointer (some ⟨b, 0, none⟩), .int .i64 x] (by rfl) rfl rfl (by simp only [List.map_toArray, List.map_cons, List.map_nil]; rfl) ?_
  with_reducible refine (A1.out _ ((Ext.refl [] w7).drew)).mono ?_
  rintro e w8 ⟨rfl, f1⟩
  refine ⟨_, rfl, ?_⟩
  have e1 := ((Ext.refl [] w7).drew).trans f1 (by simp)
  refine hK.out _ _ ⟨(kf1.out _ e1), (kf2.out _ e1)⟩ (fun hHeld => ?_)
  clear hK K
  refine norm_ (a' := ?_) ?_ ?_
  rotate_left
  · show Act.put _ (some 182) _ = _
    (simp only [Act.put, List.setIfInBounds_toArray, i64_w, i32_w]; dsimp only [List.set_cons_zero, List.set_cons_succ])
    rfl
  refine pure_ (i := 31) (N := some 184) (v := ?_) (a' := ?_) #[true, true, true, true, true, true, true, true, true, true, true, true, true, true, true, true, true, true, true, true, true, true, true, true, true, true, true, true, true, true, true, true, false, false, false, false, false, false, false, false, false, false, false, false, false, false, false, false, false] rfl rfl (by kernel_rfl) (fun _ _ _ h => hQ _ _ _ _ _ h) (Or.inl ⟨by rfl, ?_⟩) ?_ ?_
  rotate_left
  · intro w'
    as_aux_lemma =>
      go_simp
      with_reducible rfl
  rotate_left
  · (simp only [Act.put, List.setIfInBounds_toArray, i64_w, i32_w]; dsimp only [List.set_cons_zero, List.set_cons_succ])
    rfl
  refine pure_ (i := 32) (N := some 185) (v := ?_) (a' := ?_) #[true, true, true, true, true, true, true, true, true, true, true, true, true, true, true, true, true, true, true, true, true, true, true, true, true, true, true, true, true, true, true, true, true, false, false, false, false, false, false, false, false, false, false, false, false, false, false, false, false] rfl rfl (by kernel_rfl) (fun _ _ _ h => hQ _ _ _ _ _ h) (Or.inl ⟨by rfl, ?_⟩) ?_ ?_
  rotate_left
  · intro w'
    as_aux_lemma =>
      go_simp
      with_reducible rfl
  rotate_left
  · (simp only [Act.put, List.setIfInBounds_toArray, i64_w, i32_w]; dsimp only [List.set_cons_zero, List.set_cons_succ])
    rfl
  refine pure_ (i := 33) (N := some 186) (v := ?_) (a' := ?_) #[true, true, true, true, true, true, true, true, true, true, true, true, true, true, true, true, true, true, true, true, true, true, true, true, true, true, true, true, true, true, true, true, true, true, false, false, false, false, false, false, false, false, false, false, false, false, false, false, false] rfl rfl (by kernel_rfl) (fun _ _ _ h => hQ _ _ _ _ _ h) (Or.inl ⟨by rfl, ?_⟩) ?_ ?_
  rotate_left
  · intro w'
    as_aux_lemma =>
      go_simp
      with_reducible rfl
  rotate_left
  · (simp only [Act.put, List.setIfInBounds_toArray, i64_w, i32_w]; dsimp only [List.set_cons_zero, List.set_cons_succ])
    rfl
  refine pure_ (i := 34) (N := some 187) (v := ?_) (a' := ?_) #[true, true, true, true, true, true, true, true, true, true, true, true, true, true, true, true, true, true, true, true, true, true, true, true, true, true, true, true, true, true, true, true, true, true, true, false, false, false, false, false, false, false, false, false, false, false, false, false, false] rfl rfl (by kernel_rfl) (fun _ _ _ h => hQ _ _ _ _ _ h) (Or.inl ⟨by rfl, ?_⟩) ?_ ?_
  rotate_left
  · intro w'
    as_aux_lemma =>
      go_simp
      with_reducible rfl
  rotate_left
  · (simp only [Act.put, List.setIfInBounds_toArray, i64_w, i32_w]; dsimp only [List.set_cons_zero, List.set_cons_succ])
    rfl
  refine pure_ (i := 35) (N := some 188) (v := ?_) (a' := ?_) #[true, true, true, true, true, true, true, true, true, true, true, true, true, true, true, true, true, true, true, true, true, true, true, true, true, true, true, true, true, true, true, true, true, true, true, true, false, false, false, false, false, false, false, false, false, false, false, false, false] rfl rfl (by kernel_rfl) (fun _ _ _ h => hQ _ _ _ _ _ h) (Or.inl ⟨by rfl, ?_⟩) ?_ ?_
  rotate_left
  · intro w'
    as_aux_lemma =>
      go_simp
      with_reducible rfl
  rotate_left
  · (simp only [Act.put, List.setIfInBounds_toArray, i64_w, i32_w]; dsimp only [List.set_cons_zero, List.set_cons_succ])
    rfl
  refine pure_ (i := 36) (N := some 189) (v := ?_) (a' := ?_) #[true, true, true, true, true, true, true, true, true, true, true, true, true, true, true, true, true, true, true, true, true, true, true, true, true, true, true, true, true, true, true, true, true, true, true, true, true, false, false, false, false, false, false, false, false, false, false, false, false] rfl rfl (by kernel_rfl) (fun _ _ _ h => hQ _ _ _ _ _ h) (Or.inl ⟨by rfl, ?_⟩) ?_ ?_
  rotate_left
  · intro w'
    as_aux_lemma =>
      go_simp
      with_reducible rfl
  rotate_left
  · (simp only [Act.put, List.setIfInBounds_toArray, i64_w, i32_w]; dsimp only [List.set_cons_zero, List.set_cons_succ])
    rfl
  refine pure_ (i := 37) (N := some 190) (v := undef) (a' := ?_) #[true, true, true, true, true, true, true, true, true, true, true, true, true, true, true, true, true, true, true, true, true, true, true, true, true, true, true, true, true, true, true, true, true, true, true, true, true, true, false, false, false, false, false, false, false, false, false, false, false] rfl rfl (by kernel_rfl) (fun _ _ _ h => hQ _ _ _ _ _ h) (Or.inr ⟨by rfl, rfl⟩) ?_ ?_
  rotate_left
  · (simp only [Act.put, List.setIfInBounds_toArray, i64_w, i32_w]; dsimp only [List.set_cons_zero, List.set_cons_succ])
    rfl
  refine pure_ (i := 38) (N := some 191) (v := undef) (a' := ?_) #[true, true, true, true, true, true, true, true, true, true, true, true, true, true, true, true, true, true, true, true, true, true, true, true, true, true, true, true, true, true, true, true, true, true, true, true, true, true, true, false, false, false, false, false, false, false, false, false, false] rfl rfl (by kernel_rfl) (fun _ _ _ h => hQ _ _ _ _ _ h) (Or.inr ⟨by rfl, rfl⟩) ?_ ?_
  rotate_left
  · (simp only [Act.put, List.setIfInBounds_toArray, i64_w, i32_w]; dsimp only [List.set_cons_zero, List.set_cons_succ])
    rfl
  refine pure_ (i := 39) (N := some 192) (v := undef) (a' := ?_) #[true, true, true, true, true, true, true, true, true, true, true, true, true, true, true, true, true, true, true, true, true, true, true, true, true, true, true, true, true, true, true, true, true, true, true, true, true, true, true, true, false, false, false, false, false, false, false, false, false] rfl rfl (by kernel_rfl) (fun _ _ _ h => hQ _ _ _ _ _ h) (Or.inr ⟨by rfl, rfl⟩) ?_ ?_
  rotate_left
  · (simp only [Act.put, List.setIfInBounds_toArray, i64_w, i32_w]; dsimp only [List.set_cons_zero, List.set_cons_succ])
    rfl
  refine pure_ (i := 40) (N := some 193) (v := undef) (a' := ?_) #[true, true, true, true, true, true, true, true, true, true, true, true, true, true, true, true, true, true, true, true, true, true, true, true, true, true, true, true, true, true, true, true, true, true, true, true, true, true, true, true, true, false, false, false, false, false, false, false, false] rfl rfl (by kernel_rfl) (fun _ _ _ h => hQ _ _ _ _ _ h) (Or.inr ⟨by rfl, rfl⟩) ?_ ?_
  rotate_left
  · (simp only [Act.put, List.setIfInBounds_toArray, i64_w, i32_w]; dsimp only [List.set_cons_zero, List.set_cons_succ])
    rfl
  refine pure_ (i := 41) (N := some 194) (v := undef) (a' := ?_) #[true, true, true, true, true, true, true, true, true, true, true, true, true, true, true, true, true, true, true, true, true, true, true, true, true, true, true, true, true, true, true, true, true, true, true, true, true, true, true, true, true, true, false, false, false, false, false, false, false] rfl rfl (by kernel_rfl) (fun _ _ _ h => hQ _ _ _ _ _ h) (Or.inr ⟨by rfl, rfl⟩) ?_ ?_
  rotate_left
  · (simp only [Act.put, List.setIfInBounds_toArray, i64_w, i32_w]; dsimp only [List.set_cons_zero, List.set_cons_succ])
    rfl
  refine pure_ (i := 42) (N := some 195) (v := undef) (a' := ?_) #[true, true, true, true, true, true, true, true, true, true, true, true, true, true, true, true, true, true, true, true, true, true, true, true, true, true, true, true, true, true, true, true, true, true, true, true, true, true, true, true, true, true, true, false, false, false, false, false, false] rfl rfl (by kernel_rfl) (fun _ _ _ h => hQ _ _ _ _ _ h) (Or.inr ⟨by rfl, rfl⟩) ?_ ?_
  rotate_left
  · (simp only [Act.put, List.setIfInBounds_toArray, i64_w, i32_w]; dsimp only [List.set_cons_zero, List.set_cons_succ])
    rfl
  refine pure_ (i := 43) (N := some 196) (v := undef) (a' := ?_) #[true, true, true, true, true, true, true, true, true, true, true, true, true, true, true, true, true, true, true, true, true, true, true, true, true, true, true, true, true, true, true, true, true, true, true, true, true, true, true, true, true, true, true, true, false, false, false, false, false] rfl rfl (by kernel_rfl) (fun _ _ _ h => hQ _ _ _ _ _ h) (Or.inr ⟨by rfl, rfl⟩) ?_ ?_
  rotate_left
  · (simp only [Act.put, List.setIfInBounds_toArray, i64_w, i32_w]; dsimp only [List.set_cons_zero, List.set_cons_succ])
    rfl
  refine pure_ (i := 44) (N := some 197) (v := undef) (a' := ?_) #[true, true, true, true, true, true, true, true, true, true, true, true, true, true, true, true, true, true, true, true, true, true, true, true, true, true, true, true, true, true, true, true, true, true, true, true, true, true, true, true, true, true, true, true, true, false, false, false, false] rfl rfl (by kernel_rfl) (fun _ _ _ h => hQ _ _ _ _ _ h) (Or.inr ⟨by rfl, rfl⟩) ?_ ?_
  rotate_left
  · (simp only [Act.put, List.setIfInBounds_toArray, i64_w, i32_w]; dsimp only [List.set_cons_zero, List.set_cons_succ])
    rfl
  refine pure_ (i := 45) (N := some 198) (v := undef) (a' := ?_) #[true, true, true, true, true, true, true, true, true, true, true, true, true, true, true, true, true, true, true, true, true, true, true, true, true, true, true, true, true, true, true, true, true, true, true, true, true, true, true, true, true, true, true, true, true, true, false, false, false] rfl rfl (by kernel_rfl) (fun _ _ _ h => hQ _ _ _ _ _ h) (Or.inr ⟨by rfl, rfl⟩) ?_ ?_
  rotate_left
  · (simp only [Act.put, List.setIfInBounds_toArray, i64_w, i32_w]; dsimp only [List.set_cons_zero, List.set_cons_succ])
    rfl
  refine pure_ (i := 46) (N := some 199) (v := undef) (a' := ?_) #[true, true, true, true, true, true, true, true, true, true, true, true, true, true, true, true, true, true, true, true, true, true, true, true, true, true, true, true, true, true, true, true, true, true, true, true, true, true, true, true, true, true, true, true, true, true, true, false, false] rfl rfl (by kernel_rfl) (fun _ _ _ h => hQ _ _ _ _ _ h) (Or.inr ⟨by rfl, rfl⟩) ?_ ?_
  rotate_left
  · (simp only [Act.put, List.setIfInBounds_toArray, i64_w, i32_w]; dsimp only [List.set_cons_zero, List.set_cons_succ])
    rfl
  refine pure_ (i := 47) (N := some 200) (v := ?_) (a' := ?_) #[true, true, true, true, true, true, true, true, true, true, true, true, true, true, true, true, true, true, true, true, true, true, true, true, true, true, true, true, true, true, true, true, true, true, true, true, true, true, true, true, true, true, true, true, true, true, true, true, false] rfl rfl (by kernel_rfl) (fun _ _ _ h => hQ _ _ _ _ _ h) (Or.inl ⟨by rfl, ?_⟩) ?_ ?_
  rotate_left
  · intro w'
    as_aux_lemma =>
      go_simp
      with_reducible rfl
  rotate_left
  · (simp only [Act.put, List.setIfInBounds_toArray, i64_w, i32_w]; dsimp only [List.set_cons_zero, List.set_cons_succ])
    rfl
  refine pure_ (i := 48) (N := some 201) (v := ?_) (a' := ?_) #[true, true, true, true, true, true, true, true, true, true, true, true, true, true, true, true, true, true, true, true, true, true, true, true, true, true, true, true, true, true, true, true, true, true, true, true, true, true, true, true, true, true, true, true, true, true, true, true, true] rfl rfl (by kernel_rfl) (fun _ _ _ h => hQ _ _ _ _ _ h) (Or.inl ⟨by rfl, ?_⟩) ?_ ?_
  rotate_left
  · intro w'
    as_aux_lemma =>
      go_simp
      with_reducible rfl
  rotate_left
  · (simp only [Act.put, List.setIfInBounds_toArray, i64_w, i32_w]; dsimp only [List.set_cons_zero, List.set_cons_succ])
    rfl
  refine done_ (by kernel_rfl) ?_
  exact hfin _ _ _ _ _ _ _ _ _ _ _ _ _ _ _ _ _ _ _ _ _ _ _ _ _ _ _ _ _ _ _ _ _ _ _ _ _ _ _ _ _ _ _ _ _ _ _ _ _ e1

noncomputable def groupOne_later_code : Code := (Try.f8.body.bind (regionOf 41)).getD .skip
set_option maxHeartbeats 16000000 in
set_option maxRecDepth 1000000 in
theorem groupOne_later (w7 : World) (b mg ig l mc k : Nat) (x y : Nat) (g : Int)
    (hx1 : decide ((x : Int) < 1) = false) (hx2 : decide (100 < (x : Int)) = false) (q1 : (0 : Int) ≤ (x : Int)) (q2 : (x : Int) < 101) (hxy : decide ((x : Int) ≤ (y : Int)) = false) (hxy2 : decide (x ≤ y) = false) (hk : decide ((0 : Int) < (k : Int) + 1) = true)
    (q3 : (0 : Int) ≤ (k : Int) + 1) (q4 : (k : Int) + 1 < (l : Int)) (q5 : ((k : Int) + 1).toNat = k + 1) (q6 : (0 : Int) ≤ (k : Int)) (q7 : (k : Int) < (l : Int)) (q8 : wrap64 (k : Int) = (k : Int)) (q9 : wrap64 ((k : Int) + 1 - 1) = (k : Int))
    (A1 : Hid (∀ W, Ext [] w7 W → Calls Try.prog 39 #[.pointer (some ⟨b, 0, none⟩), .int .i64 x] W fun e w' => e = .returned (.int .i64 g) ∧ Ext [] W w'))
    (kf1 : Hid (∀ W, Ext [] w7 W → W.cell? ⟨mg, k + 1, none⟩ = some (.int .i64 x))) (kf2 : Hid (∀ W, Ext [] w7 W → W.cell? ⟨ig, x, none⟩ = some (.int .i64 g))) (kf3 : Hid (∀ W, Ext [] w7 W → W.cell? ⟨mg, k, none⟩ = some (.int .i64 y))) {u0 u1 u2 u3 u4 u6 u7 u8 u10 u11 u12 u13 u14 u15 u16 u17 u18 u22 u23 u24 u25 u26 u27 u28 u29 u30 u31 u32 u33 u34 u35 u36 u37 u38 u39 u40 u41 u42 u43 u44 u45 u46 u47 u48 u49 u50 u51 u52 u53 u54 u55 u56 u57 u58 u59 u60 u61 u62 u63 u64 u65 u66 u67 u68 u69 u70 u71 u72 u73 u74 u75 u76 u77 u78 u79 u80 u81 u82 u83 u84 u85 u86 u87 u88 u89 u90 u91 u92 u93 u94 u95 u96 u97 u98 u99 u100 u101 u102 u103 u104 u105 u106 u107 u108 u109 u110 u111 u112 u113 u114 u115 u116 u117 u118 u119 u120 u121 u122 u123 u124 u125 u126 u127 u128 u129 u130 u131 u132 u133 u134 u135 u136 u137 u138 u139 u140 u141 u142 u143 u144 u145 u146 u147 u148 u149 u150 u151 u152 u153 u154 u155 u156 u157 u158 u159 u160 u161 u162 u163 u164 u165 u166 u167 u168 u169 u170 u171 u172 u173 u174 u175 u176 u177 u178 u179 u180 u181 u182 u183 u184 u185 u186 u187 u188 u189 u190 u191 u192 u193 u194 u195 u196 u197 u198 u199 u200 u201 u202 u203 u204 u205 u206 u207 : Value} (Q : Exit → Act → World → Prop) (hQ : ∀ c (a : Act) (d : Nat) (v : Value) w, Q (.panic c) (a.put (some d) v) w → Q (.panic c) a w)
    (hfin : ∀ (v153 v154 v155 v156 v157 v158 v159 v160 v161 v162 v163 v164 v165 v166 v167 v168 v169 v170 v171 v172 v173 v174 v175 v176 v177 v178 v179 v180 v181 v182 v183 v184 v185 v186 v187 v188 v189 v190 v191 v192 v193 v194 v195 v196 v197 v198 v199 v200 : Value) (w' : World) (e : Ext [] w7 w'), Q .normal ⟨#[u0, u1, u2, u3, u4, .pointer (some ⟨b, 0, none⟩), u6, u7, u8, .slice (some ⟨ig, 0, none⟩) 101 101, u10, u11, u12, u13, u14, u15, u16, u17, u18, .int .i64 g, .slice (some ⟨mg, 0, none⟩) l mc, .int .i64 ((k : Int) + 1), u22, u23, u24, u25, u26, u27, u28, u29, u30, u31, u32, u33, u34, u35, u36, u37, u38, u39, u40, u41, u42, u43, u44, u45, u46, u47, u48, u49, u50, u51, u52, u53, u54, u55, u56, u57, u58, u59, u60, u61, u62, u63, u64, u65, u66, u67, u68, u69, u70, u71, u72, u73, u74, u75, u76, u77, u78, u79, u80, u81, u82, u83, u84, u85, u86, u87, u88, u89, u90, u91, u92, u93, u94, u95, u96, u97, u98, u99, u100, u101, u102, u103, u104, u105, u106, u107, u108, u109, u110, u111, u112, u113, u114, u115, u116, u117, u118, u119, u120, u121, u122, u123, u124, u125, u126, u127, u128, u129, u130, u131, u132, u133, u134, u135, u136, u137, u138, u139, u140, u141, u142, u143, u144, u145, u146, u147, u148, u149, u150, u151, u152, v153, v154, v155, v156, v157, v158, v159, v160, v161, v162, v163, v164, v165, v166, v167, v168, v169, v170, v171, v172, v173, v174, v175, v176, v177, v178, v179, v180, v181, v182, v183, v184, v185, v186, v187, v188, v189, v190, v191, v192, v193, v194, v195, v196, v197, v198, v199, v200, .bool false, u202, u203, u204, u205, u206, u207], []⟩ w') : groupOne_later_code.wp Try.prog Q ⟨#[u0, u1, u2, u3, u4, .pointer (some ⟨b, 0, none⟩), u6, u7, u8, .slice (some ⟨ig, 0, none⟩) 101 101, u10, u11, u12, u13, u14, u15, u16, u17, u18, .int .i64 g, .slice (some ⟨mg, 0, none⟩) l mc, .int .i64 ((k : Int) + 1), u22, u23, u24, u25, u26, u27, u28, u29, u30, u31, u32, u33, u34, u35, u36, u37, u38, u39, u40, u41, u42, u43, u44, u45, u46, u47, u48, u49, u50, u51, u52, u53, u54, u55, u56, u57, u58, u59, u60, u61, u62, u63, u64, u65, u66, u67, u68, u69, u70, u71, u72, u73, u74, u75, u76, u77, u78, u79, u80, u81, u82, u83, u84, u85, u86, u87, u88, u89, u90, u91, u92, u93, u94, u95, u96, u97, u98, u99, u100, u101, u102, u103, u104, u105, u106, u107, u108, u109, u110, u111, u112, u113, u114, u115, u116, u117, u118, u119, u120, u121, u122, u123, u124, u125, u126, u127, u128, u129, u130, u131, u132, u133, u134, u135, u136, u137, u138, u139, u140, u141, u142, u143, u144, u145, u146, u147, u148, u149, u150, u151, u152, u153, u154, u155, u156, u157, u158, u159, u160, u161, u162, u163, u164, u165, u166, u167, u168, u169, u170, u171, u172, u173, u174, u175, u176, u177, u178, u179, u180, u181, u182, u183, u184, u185, u186, u187, u188, u189, u190, u191, u192, u193, u194, u195, u196, u197, u198, u199, u200, u201, u202, u203, u204, u205, u206, u207], []⟩ w7 := by
  conv => arg 2; whnf
  have c1 := kf1.out _ (Ext.refl [] w7).drew
  have c2 := kf2.out _ (Ext.refl [] w7).drew
  have c3 := kf3.out _ (Ext.refl [] w7).drew
  refine start_ (n := 49) (S := fun w' => w'.cell? ⟨mg, k + 1, none⟩ = some (.int .i64 x) ∧ w'.cell? ⟨ig, x, none⟩ = some (.int .i64 g) ∧ w'.cell? ⟨mg, k, none⟩ = some (.int .i64 y)) (ds := []) #[false, false, false, false, false, false, false, false, false, false, false, false, false, false, false, false, false, false, false, false, false, false, false, false, false, false, false, false, false, false, false, false, false, false, false, false, false, false, false, false, false, false, false, false, false, false, false, false, false] (by kernel_rfl) rfl rfl ⟨c1, c2, c3⟩ (fun hHeld => ?_)
  refine pure_ (i := 0) (N := some 153) (v := ?_) (a' := ?_) #[true, false, false, false, false, false, false, false, false, false, false, false, false, false, false, false, false, false, false, false, false, false, false, false, false, false, false, false, false, false, false, false, false, false, false, false, false, false, false, false, false, false, false, false, false, false, false, false, false] rfl rfl (by kernel_rfl) (fun _ _ _ h => hQ _ _ _ _ _ h) (Or.inl ⟨by rfl, ?_⟩) ?_ ?_
  rotate_left
  · intro w'
    as_aux_lemma =>
      go_simp
      with_reducible rfl
  rotate_left
  · (simp only [Act.put, List.setIfInBounds_toArray, i64_w, i32_w]; dsimp only [List.set_cons_zero, List.set_cons_succ])
    rfl
  refine pure_ (i := 1) (N := some 154) (v := ?_) (a' := ?_) #[true, true, false, false, false, false, false, false, false, false, false, false, false, false, false, false, false, false, false, false, false, false, false, false, false, false, false, false, false, false, false, false, false, false, false, false, false, false, false, false, false, false, false, false, false, false, false, false, false] rfl rfl (by kernel_rfl) (fun _ _ _ h => hQ _ _ _ _ _ h) (Or.inl ⟨by rfl, ?_⟩) ?_ ?_
  rotate_left
  · intro w'
    as_aux_lemma =>
      go_simp
      with_reducible rfl
  rotate_left
  · (simp only [Act.put, List.setIfInBounds_toArray, i64_w, i32_w]; dsimp only [List.set_cons_zero, List.set_cons_succ])
    rfl
  refine pure_ (i := 2) (N := some 155) (v := ?_) (a' := ?_) #[true, true, true, false, false, false, false, false, false, false, false, false, false, false, false, false, false, false, false, false, false, false, false, false, false, false, false, false, false, false, false, false, false, false, false, false, false, false, false, false, false, false, false, false, false, false, false, false, false] rfl rfl (by kernel_rfl) (fun _ _ _ h => hQ _ _ _ _ _ h) (Or.inl ⟨by rfl, ?_⟩) ?_ ?_
  rotate_left
  · intro w'
    as_aux_lemma =>
      go_simp
      with_reducible rfl
  rotate_left
  · (simp only [Act.put, List.setIfInBounds_toArray, i64_w, i32_w]; dsimp only [List.set_cons_zero, List.set_cons_succ])
    rfl
  refine take_ (i := 3) (N := some 156) (v := ?_) (a' := ?_) #[true, true, true, true, false, false, false, false, false, false, false, false, false, false, false, false, false, false, false, false, false, false, false, false, false, false, false, false, false, false, false, false, false, false, false, false, false, false, false, false, false, false, false, false, false, false, false, false, false] rfl rfl (by kernel_rfl) (fun _ _ _ h => hQ _ _ _ _ _ h) (Or.inl ⟨by rfl, ?_⟩) hHeld ?_ ?_
  rotate_left
  · rintro w' ⟨s0, s1, s2⟩
    as_aux_lemma =>
      go_simp
      with_reducible rfl
  rotate_left
  · (simp only [Act.put, List.setIfInBounds_toArray, i64_w, i32_w]; dsimp only [List.set_cons_zero, List.set_cons_succ])
    rfl
  refine pure_ (i := 4) (N := some 157) (v := ?_) (a' := ?_) #[true, true, true, true, true, false, false, false, false, false, false, false, false, false, false, false, false, false, false, false, false, false, false, false, false, false, false, false, false, false, false, false, false, false, false, false, false, false, false, false, false, false, false, false, false, false, false, false, false] rfl rfl (by kernel_rfl) (fun _ _ _ h => hQ _ _ _ _ _ h) (Or.inl ⟨by rfl, ?_⟩) ?_ ?_
  rotate_left
  · intro w'
    as_aux_lemma =>
      go_simp
      with_reducible rfl
  rotate_left
  · (simp only [Act.put, List.setIfInBounds_toArray, i64_w, i32_w]; dsimp only [List.set_cons_zero, List.set_cons_succ])
    rfl
  refine pure_ (i := 5) (N := some 158) (v := ?_) (a' := ?_) #[true, true, true, true, true, true, false, false, false, false, false, false, false, false, false, false, false, false, false, false, false, false, false, false, false, false, false, false, false, false, false, false, false, false, false, false, false, false, false, false, false, false, false, false, false, false, false, false, false] rfl rfl (by kernel_rfl) (fun _ _ _ h => hQ _ _ _ _ _ h) (Or.inl ⟨by rfl, ?_⟩) ?_ ?_
  rotate_left
  · intro w'
    as_aux_lemma =>
      go_simp
      with_reducible rfl
  rotate_left
  · (simp only [Act.put, List.setIfInBounds_toArray, i64_w, i32_w]; dsimp only [List.set_cons_zero, List.set_cons_succ])
    rfl
  refine pure_ (i := 6) (N := some 159) (v := ?_) (a' := ?_) #[true, true, true, true, true, true, true, false, false, false, false, false, false, false, false, false, false, false, false, false, false, false, false, false, false, false, false, false, false, false, false, false, false, false, false, false, false, false, false, false, false, false, false, false, false, false, false, false, false] rfl rfl (by kernel_rfl) (fun _ _ _ h => hQ _ _ _ _ _ h) (Or.inl ⟨by rfl, ?_⟩) ?_ ?_
  rotate_left
  · intro w'
    as_aux_lemma =>
      go_simp
      with_reducible rfl
  rotate_left
  · (simp only [Act.put, List.setIfInBounds_toArray, i64_w, i32_w]; dsimp only [List.set_cons_zero, List.set_cons_succ])
    rfl
  refine pure_ (i := 7) (N := some 160) (v := ?_) (a' := ?_) #[true, true, true, true, true, true, true, true, false, false, false, false, false, false, false, false, false, false, false, false, false, false, false, false, false, false, false, false, false, false, false, false, false, false, false, false, false, false, false, false, false, false, false, false, false, false, false, false, false] rfl rfl (by kernel_rfl) (fun _ _ _ h => hQ _ _ _ _ _ h) (Or.inl ⟨by rfl, ?_⟩) ?_ ?_
  rotate_left
  · intro w'
    as_aux_lemma =>
      go_simp
      with_reducible rfl
  rotate_left
  · (simp only [Act.put, List.setIfInBounds_toArray, i64_w, i32_w]; dsimp only [List.set_cons_zero, List.set_cons_succ])
    rfl
  refine pure_ (i := 8) (N := some 161) (v := ?_) (a' := ?_) #[true, true, true, true, true, true, true, true, true, false, false, false, false, false, false, false, false, false, false, false, false, false, false, false, false, false, false, false, false, false, false, false, false, false, false, false, false, false, false, false, false, false, false, false, false, false, false, false, false] rfl rfl (by kernel_rfl) (fun _ _ _ h => hQ _ _ _ _ _ h) (Or.inl ⟨by rfl, ?_⟩) ?_ ?_
  rotate_left
  · intro w'
    as_aux_lemma =>
      go_simp
      with_reducible rfl
  rotate_left
  · (simp only [Act.put, List.setIfInBounds_toArray, i64_w, i32_w]; dsimp only [List.set_cons_zero, List.set_cons_succ])
    rfl
  refine take_ (i := 9) (N := some 162) (v := ?_) (a' := ?_) #[true, true, true, true, true, true, true, true, true, true, false, false, false, false, false, false, false, false, false, false, false, false, false, false, false, false, false, false, false, false, false, false, false, false, false, false, false, false, false, false, false, false, false, false, false, false, false, false, false] rfl rfl (by kernel_rfl) (fun _ _ _ h => hQ _ _ _ _ _ h) (Or.inl ⟨by rfl, ?_⟩) hHeld ?_ ?_
  rotate_left
  · rintro w' ⟨s0, s1, s2⟩
    as_aux_lemma =>
      go_simp
      with_reducible rfl
  rotate_left
  · (simp only [Act.put, List.setIfInBounds_toArray, i64_w, i32_w]; dsimp only [List.set_cons_zero, List.set_cons_succ])
    rfl
  refine pure_ (i := 10) (N := some 163) (v := ?_) (a' := ?_) #[true, true, true, true, true, true, true, true, true, true, true, false, false, false, false, false, false, false, false, false, false, false, false, false, false, false, false, false, false, false, false, false, false, false, false, false, false, false, false, false, false, false, false, false, false, false, false, false, false] rfl rfl (by kernel_rfl) (fun _ _ _ h => hQ _ _ _ _ _ h) (Or.inl ⟨by rfl, ?_⟩) ?_ ?_
  rotate_left
  · intro w'
    as_aux_lemma =>
      go_simp
      with_reducible rfl
  rotate_left
  · (simp only [Act.put, List.setIfInBounds_toArray, i64_w, i32_w]; dsimp only [List.set_cons_zero, List.set_cons_succ])
    rfl
  refine pure_ (i := 11) (N := some 164) (v := ?_) (a' := ?_) #[true, true, true, true, true, true, true, true, true, true, true, true, false, false, false, false, false, false, false, false, false, false, false, false, false, false, false, false, false, false, false, false, false, false, false, false, false, false, false, false, false, false, false, false, false, false, false, false, false] rfl rfl (by kernel_rfl) (fun _ _ _ h => hQ _ _ _ _ _ h) (Or.inl ⟨by rfl, ?_⟩) ?_ ?_
  rotate_left
  · intro w'
    as_aux_lemma =>
      go_simp
      with_reducible rfl
  rotate_left
  · (simp only [Act.put, List.setIfInBounds_toArray, i64_w, i32_w]; dsimp only [List.set_cons_zero, List.set_cons_succ])
    rfl
  refine pure_ (i := 12) (N := some 165) (v := ?_) (a' := ?_) #[true, true, true, true, true, true, true, true, true, true, true, true, true, false, false, false, false, false, false, false, false, false, false, false, false, false, false, false, false, false, false, false, false, false, false, false, false, false, false, false, false, false, false, false, false, false, false, false, false] rfl rfl (by kernel_rfl) (fun _ _ _ h => hQ _ _ _ _ _ h) (Or.inl ⟨by rfl, ?_⟩) ?_ ?_
  rotate_left
  · intro w'
    as_aux_lemma =>
      go_simp
      with_reducible rfl
  rotate_left
  · (simp only [Act.put, List.setIfInBounds_toArray, i64_w, i32_w]; dsimp only [List.set_cons_zero, List.set_cons_succ])
    rfl
  refine pure_ (i := 13) (N := some 166) (v := ?_) (a' := ?_) #[true, true, true, true, true, true, true, true, true, true, true, true, true, true, false, false, false, false, false, false, false, false, false, false, false, false, false, false, false, false, false, false, false, false, false, false, false, false, false, false, false, false, false, false, false, false, false, false, false] rfl rfl (by kernel_rfl) (fun _ _ _ h => hQ _ _ _ _ _ h) (Or.inl ⟨by rfl, ?_⟩) ?_ ?_
  rotate_left
  · intro w'
    as_aux_lemma =>
      go_simp
      with_reducible rfl
  rotate_left
  · (simp only [Act.put, List.setIfInBounds_toArray, i64_w, i32_w]; dsimp only [List.set_cons_zero, List.set_cons_succ])
    rfl
  refine pure_ (i := 14) (N := some 167) (v := ?_) (a' := ?_) #[true, true, true, true, true, true, true, true, true, true, true, true, true, true, true, false, false, false, false, false, false, false, false, false, false, false, false, false, false, false, false, false, false, false, false, false, false, false, false, false, false, false, false, false, false, false, false, false, false] rfl rfl (by kernel_rfl) (fun _ _ _ h => hQ _ _ _ _ _ h) (Or.inl ⟨by rfl, ?_⟩) ?_ ?_
  rotate_left
  · intro w'
    as_aux_lemma =>
      go_simp
      with_reducible rfl
  rotate_left
  · (simp only [Act.put, List.setIfInBounds_toArray, i64_w, i32_w]; dsimp only [List.set_cons_zero, List.set_cons_succ])
    rfl
  refine pure_ (i := 15) (N := some 168) (v := ?_) (a' := ?_) #[true, true, true, true, true, true, true, true, true, true, true, true, true, true, true, true, false, false, false, false, false, false, false, false, false, false, false, false, false, false, false, false, false, false, false, false, false, false, false, false, false, false, false, false, false, false, false, false, false] rfl rfl (by kernel_rfl) (fun _ _ _ h => hQ _ _ _ _ _ h) (Or.inl ⟨by rfl, ?_⟩) ?_ ?_
  rotate_left
  · intro w'
    as_aux_lemma =>
      go_simp
      with_reducible rfl
  rotate_left
  · (simp only [Act.put, List.setIfInBounds_toArray, i64_w, i32_w]; dsimp only [List.set_cons_zero, List.set_cons_succ])
    rfl
  refine pure_ (i := 16) (N := some 169) (v := ?_) (a' := ?_) #[true, true, true, true, true, true, true, true, true, true, true, true, true, true, true, true, true, false, false, false, false, false, false, false, false, false, false, false, false, false, false, false, false, false, false, false, false, false, false, false, false, false, false, false, false, false, false, false, false] rfl rfl (by kernel_rfl) (fun _ _ _ h => hQ _ _ _ _ _ h) (Or.inl ⟨by rfl, ?_⟩) ?_ ?_
  rotate_left
  · intro w'
    as_aux_lemma =>
      go_simp
      with_reducible rfl
  rotate_left
  · (simp only [Act.put, List.setIfInBounds_toArray, i64_w, i32_w]; dsimp only [List.set_cons_zero, List.set_cons_succ])
    rfl
  refine pure_ (i := 20) (N := some 173) (v := ?_) (a' := ?_) #[true, true, true, true, true, true, true, true, true, true, true, true, true, true, true, true, true, false, false, false, true, false, false, false, false, false, false, false, false, false, false, false, false, false, false, false, false, false, false, false, false, false, false, false, false, false, false, false, false] rfl rfl (by kernel_rfl) (fun _ _ _ h => hQ _ _ _ _ _ h) (Or.inl ⟨by rfl, ?_⟩) ?_ ?_
  rotate_left
  · intro w'
    as_aux_lemma =>
      go_simp
      with_reducible rfl
  rotate_left
  · (simp only [Act.put, List.setIfInBounds_toArray, i64_w, i32_w]; dsimp only [List.set_cons_zero, List.set_cons_succ])
    rfl
  refine take_ (i := 17) (N := some 170) (v := ?_) (a' := ?_) #[true, true, true, true, true, true, true, true, true, true, true, true, true, true, true, true, true, true, false, false, true, false, false, false, false, false, false, false, false, false, false, false, false, false, false, false, false, false, false, false, false, false, false, false, false, false, false, false, false] rfl rfl (by kernel_rfl) (fun _ _ _ h => hQ _ _ _ _ _ h) (Or.inl ⟨by rfl, ?_⟩) hHeld ?_ ?_
  rotate_left
  · rintro w' ⟨s0, s1, s2⟩
    as_aux_lemma =>
      go_simp
      with_reducible rfl
  rotate_left
  · (simp only [Act.put, List.setIfInBounds_toArray, i64_w, i32_w]; dsimp only [List.set_cons_zero, List.set_cons_succ])
    rfl
  refine pure_ (i := 18) (N := some 171) (v := ?_) (a' := ?_) #[true, true, true, true, true, true, true, true, true, true, true, true, true, true, true, true, true, true, true, false, true, false, false, false, false, false, false, false, false, false, false, false, false, false, false, false, false, false, false, false, false, false, false, false, false, false, false, false, false] rfl rfl (by kernel_rfl) (fun _ _ _ h => hQ _ _ _ _ _ h) (Or.inl ⟨by rfl, ?_⟩) ?_ ?_
  rotate_left
  · intro w'
    as_aux_lemma =>
      go_simp
      with_reducible rfl
  rotate_left
  · (simp only [Act.put, List.setIfInBounds_toArray, i64_w, i32_w]; dsimp only [List.set_cons_zero, List.set_cons_succ])
    rfl
  refine take_ (i := 19) (N := some 172) (v := ?_) (a' := ?_) #[true, true, true, true, true, true, true, true, true, true, true, true, true, true, true, true, true, true, true, true, true, false, false, false, false, false, false, false, false, false, false, false, false, false, false, false, false, false, false, false, false, false, false, false, false, false, false, false, false] rfl rfl (by kernel_rfl) (fun _ _ _ h => hQ _ _ _ _ _ h) (Or.inl ⟨by rfl, ?_⟩) hHeld ?_ ?_
  rotate_left
  · rintro w' ⟨s0, s1, s2⟩
    as_aux_lemma =>
      go_simp
      with_reducible rfl
  rotate_left
  · (simp only [Act.put, List.setIfInBounds_toArray, i64_w, i32_w]; dsimp only [List.set_cons_zero, List.set_cons_succ])
    rfl
  refine pure_ (i := 21) (N := some 174) (v := ?_) (a' := ?_) #[true, true, true, true, true, true, true, true, true, true, true, true, true, true, true, true, true, true, true, true, true, true, false, false, false, false, false, false, false, false, false, false, false, false, false, false, false, false, false, false, false, false, false, false, false, false, false, false, false] rfl rfl (by kernel_rfl) (fun _ _ _ h => hQ _ _ _ _ _ h) (Or.inl ⟨by rfl, ?_⟩) ?_ ?_
  rotate_left
  · intro w'
    as_aux_lemma =>
      go_simp
      with_reducible rfl
  rotate_left
  · (simp only [Act.put, List.setIfInBounds_toArray, i64_w, i32_w]; dsimp only [List.set_cons_zero, List.set_cons_succ])
    rfl
  refine pure_ (i := 22) (N := some 175) (v := ?_) (a' := ?_) #[true, true, true, true, true, true, true, true, true, true, true, true, true, true, true, true, true, true, true, true, true, true, true, false, false, false, false, false, false, false, false, false, false, false, false, false, false, false, false, false, false, false, false, false, false, false, false, false, false] rfl rfl (by kernel_rfl) (fun _ _ _ h => hQ _ _ _ _ _ h) (Or.inl ⟨by rfl, ?_⟩) ?_ ?_
  rotate_left
  · intro w'
    as_aux_lemma =>
      go_simp
      with_reducible rfl
  rotate_left
  · (simp only [Act.put, List.setIfInBounds_toArray, i64_w, i32_w]; dsimp only [List.set_cons_zero, List.set_cons_succ])
    rfl
  refine pure_ (i := 23) (N := some 176) (v := ?_) (a' := ?_) #[true, true, true, true, true, true, true, true, true, true, true, true, true, true, true, true, true, true, true, true, true, true, true, true, false, false, false, false, false, false, false, false, false, false, false, false, false, false, false, false, false, false, false, false, false, false, false, false, false] rfl rfl (by kernel_rfl) (fun _ _ _ h => hQ _ _ _ _ _ h) (Or.inl ⟨by rfl, ?_⟩) ?_ ?_
  rotate_left
  · intro w'
    as_aux_lemma =>
      go_simp
      with_reducible rfl
  rotate_left
  · (simp only [Act.put, List.setIfInBounds_toArray, i64_w, i32_w]; dsimp only [List.set_cons_zero, List.set_cons_succ])
    rfl
  refine pure_ (i := 24) (N := some 177) (v := ?_) (a' := ?_) #[true, true, true, true, true, true, true, true, true, true, true, true, true, true, true, true, true, true, true, true, true, true, true, true, true, false, false, false, false, false, false, false, false, false, false, false, false, false, false, false, false, false, false, false, false, false, false, false, false] rfl rfl (by kernel_rfl) (fun _ _ _ h => hQ _ _ _ _ _ h) (Or.inl ⟨by rfl, ?_⟩) ?_ ?_
  rotate_left
  · intro w'
    as_aux_lemma =>
      go_simp
      with_reducible rfl
  rotate_left
  · (simp only [Act.put, List.setIfInBounds_toArray, i64_w, i32_w]; dsimp only [List.set_cons_zero, List.set_cons_succ])
    rfl
  refine pure_ (i := 25) (N := some 178) (v := ?_) (a' := ?_) #[true, true, true, true, true, true, true, true, true, true, true, true, true, true, true, true, true, true, true, true, true, true, true, true, true, true, false, false, false, false, false, false, false, false, false, false, false, false, false, false, false, false, false, false, false, false, false, false, false] rfl rfl (by kernel_rfl) (fun _ _ _ h => hQ _ _ _ _ _ h) (Or.inl ⟨by rfl, ?_⟩) ?_ ?_
  rotate_left
  · intro w'
    as_aux_lemma =>
      go_simp
      with_reducible rfl
  rotate_left
  · (simp only [Act.put, List.setIfInBounds_toArray, i64_w, i32_w]; dsimp only [List.set_cons_zero, List.set_cons_succ])
    rfl
  refine pure_ (i := 26) (N := some 179) (v := ?_) (a' := ?_) #[true, true, true, true, true, true, true, true, true, true, true, true, true, true, true, true, true, true, true, true, true, true, true, true, true, true, true, false, false, false, false, false, false, false, false, false, false, false, false, false, false, false, false, false, false, false, false, false, false] rfl rfl (by kernel_rfl) (fun _ _ _ h => hQ _ _ _ _ _ h) (Or.inl ⟨by rfl, ?_⟩) ?_ ?_
  rotate_left
  · intro w'
    as_aux_lemma =>
      go_simp
      with_reducible rfl
  rotate_left
  · (simp only [Act.put, List.setIfInBounds_toArray, i64_w, i32_w]; dsimp only [List.set_cons_zero, List.set_cons_succ])
    rfl
  refine pure_ (i := 27) (N := some 180) (v := ?_) (a' := ?_) #[true, true, true, true, true, true, true, true, true, true, true, true, true, true, true, true, true, true, true, true, true, true, true, true, true, true, true, true, false, false, false, false, false, false, false, false, false, false, false, false, false, false, false, false, false, false, false, false, false] rfl rfl (by kernel_rfl) (fun _ _ _ h => hQ _ _ _ _ _ h) (Or.inl ⟨by rfl, ?_⟩) ?_ ?_
  rotate_left
  · intro w'
    as_aux_lemma =>
      go_simp
      with_reducible rfl
  rotate_left
  · (simp only [Act.put, List.setIfInBounds_toArray, i64_w, i32_w]; dsimp only [List.set_cons_zero, List.set_cons_succ])
    rfl
  refine pure_ (i := 30) (N := some 183) (v := ?_) (a' := ?_) #[true, true, true, true, true, true, true, true, true, true, true, true, true, true, true, true, true, true, true, true, true, true, true, true, true, true, true, true, false, false, true, false, false, false, false, false, false, false, false, false, false, false, false, false, false, false, false, false, false] rfl rfl (by kernel_rfl) (fun _ _ _ h => hQ _ _ _ _ _ h) (Or.inl ⟨by rfl, ?_⟩) ?_ ?_
  rotate_left
  · intro w'
    as_aux_lemma =>
      go_simp
      with_reducible rfl
  rotate_left
  · (simp only [Act.put, List.setIfInBounds_toArray, i64_w, i32_w]; dsimp only [List.set_cons_zero, List.set_cons_succ])
    rfl
  refine take_ (i := 28) (N := some 181) (v := ?_) (a' := ?_) #[true, true, true, true, true, true, true, true, true, true, true, true, true, true, true, true, true, true, true, true, true, true, true, true, true, true, true, true, true, false, true, false, false, false, false, false, false, false, false, false, false, false, false, false, false, false, false, false, false] rfl rfl (by kernel_rfl) (fun _ _ _ h => hQ _ _ _ _ _ h) (Or.inl ⟨by rfl, ?_⟩) hHeld ?_ ?_
  rotate_left
  · rintro w' ⟨s0, s1, s2⟩
    as_aux_lemma =>
      go_simp
      with_reducible rfl
  rotate_left
  · (simp only [Act.put, List.setIfInBounds_toArray, i64_w, i32_w]; dsimp only [List.set_cons_zero, List.set_cons_succ])
    rfl
  refine one_ (i := 29) (N := some 182) #[true, true, true, true, true, true, true, true, true, true, true, true, true, true, true, true, true, true, true, true, true, true, true, true, true, true, true, true, true, true, true, false, false, false, false, false, false, false, false, false, false, false, false, false, false, false, false, false, false] rfl rfl (by kernel_rfl) (by decide) (fun K hK => ?_)
  refine goes_ Try.func39 (by kernel_rfl) rfl #[.pointer (some ⟨b, 0, none⟩), .int .i64 x] (by rfl) rfl rfl (by simp only [List.map_toArray, List.map_cons, List.map_nil]; rfl) ?_
  with_reducible refine (A1.out _ ((Ext.refl [] w7).drew)).mono ?_
  rintro e w8 ⟨rfl, f1⟩
  refine ⟨_, rfl, ?_⟩
  have e1 := ((Ext.refl [] w7).drew).trans f1 (by simp)
  refine hK.out _ _ ⟨(kf1.out _ e1), (kf2.out _ e1), (kf3.out _ e1)⟩ (fun hHeld => ?_)
  clear hK K
  refine norm_ (a' := ?_) ?_ ?_
  rotate_left
  · show Act.put _ (some 182) _ = _
    (simp only [Act.put, List.setIfInBounds_toArray, i64_w, i32_w]; dsimp only [List.set_cons_zero, List.set_cons_succ])
    rfl
  refine pure_ (i := 31) (N := some 184) (v := ?_) (a' := ?_) #[true, true, true, true, true, true, true, true, true, true, true, true, true, true, true, true, true, true, true, true, true, true, true, true, true, true, true, true, true, true, true, true, false, false, false, false, false, false, false, false, false, false, false, false, false, false, false, false, false] rfl rfl (by kernel_rfl) (fun _ _ _ h => hQ _ _ _ _ _ h) (Or.inl ⟨by rfl, ?_⟩) ?_ ?_
  rotate_left
  · intro w'
    as_aux_lemma =>
      go_simp
      with_reducible rfl
  rotate_left
  · (simp only [Act.put, List.setIfInBounds_toArray, i64_w, i32_w]; dsimp only [List.set_cons_zero, List.set_cons_succ])
    rfl
  refine pure_ (i := 32) (N := some 185) (v := ?_) (a' := ?_) #[true, true, true, true, true, true, true, true, true, true, true, true, true, true, true, true, true, true, true, true, true, true, true, true, true, true, true, true, true, true, true, true, true, false, false, false, false, false, false, false, false, false, false, false, false, false, false, false, false] rfl rfl (by kernel_rfl) (fun _ _ _ h => hQ _ _ _ _ _ h) (Or.inl ⟨by rfl, ?_⟩) ?_ ?_
  rotate_left
  · intro w'
    as_aux_lemma =>
      go_simp
      with_reducible rfl
  rotate_left
  · (simp only [Act.put, List.setIfInBounds_toArray, i64_w, i32_w]; dsimp only [List.set_cons_zero, List.set_cons_succ])
    rfl
  refine pure_ (i := 33) (N := some 186) (v := ?_) (a' := ?_) #[true, true, true, true, true, true, true, true, true, true, true, true, true, true, true, true, true, true, true, true, true, true, true, true, true, true, true, true, true, true, true, true, true, true, false, false, false, false, false, false, false, false, false, false, false, false, false, false, false] rfl rfl (by kernel_rfl) (fun _ _ _ h => hQ _ _ _ _ _ h) (Or.inl ⟨by rfl, ?_⟩) ?_ ?_
  rotate_left
  · intro w'
    as_aux_lemma =>
      go_simp
      with_reducible rfl
  rotate_left
  · (simp only [Act.put, List.setIfInBounds_toArray, i64_w, i32_w]; dsimp only [List.set_cons_zero, List.set_cons_succ])
    rfl
  refine pure_ (i := 34) (N := some 187) (v := ?_) (a' := ?_) #[true, true, true, true, true, true, true, true, true, true, true, true, true, true, true, true, true, true, true, true, true, true, true, true, true, true, true, true, true, true, true, true, true, true, true, false, false, false, false, false, false, false, false, false, false, false, false, false, false] rfl rfl (by kernel_rfl) (fun _ _ _ h => hQ _ _ _ _ _ h) (Or.inl ⟨by rfl, ?_⟩) ?_ ?_
  rotate_left
  · intro w'
    as_aux_lemma =>
      go_simp
      with_reducible rfl
  rotate_left
  · (simp only [Act.put, List.setIfInBounds_toArray, i64_w, i32_w]; dsimp only [List.set_cons_zero, List.set_cons_succ])
    rfl
  refine pure_ (i := 35) (N := some 188) (v := ?_) (a' := ?_) #[true, true, true, true, true, true, true, true, true, true, true, true, true, true, true, true, true, true, true, true, true, true, true, true, true, true, true, true, true, true, true, true, true, true, true, true, false, false, false, false, false, false, false, false, false, false, false, false, false] rfl rfl (by kernel_rfl) (fun _ _ _ h => hQ _ _ _ _ _ h) (Or.inl ⟨by rfl, ?_⟩) ?_ ?_
  rotate_left
  · intro w'
    as_aux_lemma =>
      go_simp
      with_reducible rfl
  rotate_left
  · (simp only [Act.put, List.setIfInBounds_toArray, i64_w, i32_w]; dsimp only [List.set_cons_zero, List.set_cons_succ])
    rfl
  refine pure_ (i := 36) (N := some 189) (v := ?_) (a' := ?_) #[true, true, true, true, true, true, true, true, true, true, true, true, true, true, true, true, true, true, true, true, true, true, true, true, true, true, true, true, true, true, true, true, true, true, true, true, true, false, false, false, false, false, false, false, false, false, false, false, false] rfl rfl (by kernel_rfl) (fun _ _ _ h => hQ _ _ _ _ _ h) (Or.inl ⟨by rfl, ?_⟩) ?_ ?_
  rotate_left
  · intro w'
    as_aux_lemma =>
      go_simp
      with_reducible rfl
  rotate_left
  · (simp only [Act.put, List.setIfInBounds_toArray, i64_w, i32_w]; dsimp only [List.set_cons_zero, List.set_cons_succ])
    rfl
  refine pure_ (i := 37) (N := some 190) (v := ?_) (a' := ?_) #[true, true, true, true, true, true, true, true, true, true, true, true, true, true, true, true, true, true, true, true, true, true, true, true, true, true, true, true, true, true, true, true, true, true, true, true, true, true, false, false, false, false, false, false, false, false, false, false, false] rfl rfl (by kernel_rfl) (fun _ _ _ h => hQ _ _ _ _ _ h) (Or.inl ⟨by rfl, ?_⟩) ?_ ?_
  rotate_left
  · intro w'
    as_aux_lemma =>
      go_simp
      with_reducible rfl
  rotate_left
  · (simp only [Act.put, List.setIfInBounds_toArray, i64_w, i32_w]; dsimp only [List.set_cons_zero, List.set_cons_succ])
    rfl
  refine pure_ (i := 38) (N := some 191) (v := ?_) (a' := ?_) #[true, true, true, true, true, true, true, true, true, true, true, true, true, true, true, true, true, true, true, true, true, true, true, true, true, true, true, true, true, true, true, true, true, true, true, true, true, true, true, false, false, false, false, false, false, false, false, false, false] rfl rfl (by kernel_rfl) (fun _ _ _ h => hQ _ _ _ _ _ h) (Or.inl ⟨by rfl, ?_⟩) ?_ ?_
  rotate_left
  · intro w'
    as_aux_lemma =>
      go_simp
      with_reducible rfl
  rotate_left
  · (simp only [Act.put, List.setIfInBounds_toArray, i64_w, i32_w]; dsimp only [List.set_cons_zero, List.set_cons_succ])
    rfl
  refine pure_ (i := 39) (N := some 192) (v := ?_) (a' := ?_) #[true, true, true, true, true, true, true, true, true, true, true, true, true, true, true, true, true, true, true, true, true, true, true, true, true, true, true, true, true, true, true, true, true, true, true, true, true, true, true, true, false, false, false, false, false, false, false, false, false] rfl rfl (by kernel_rfl) (fun _ _ _ h => hQ _ _ _ _ _ h) (Or.inl ⟨by rfl, ?_⟩) ?_ ?_
  rotate_left
  · intro w'
    as_aux_lemma =>
      go_simp
      with_reducible rfl
  rotate_left
  · (simp only [Act.put, List.setIfInBounds_toArray, i64_w, i32_w]; dsimp only [List.set_cons_zero, List.set_cons_succ])
    rfl
  refine pure_ (i := 41) (N := some 194) (v := ?_) (a' := ?_) #[true, true, true, true, true, true, true, true, true, true, true, true, true, true, true, true, true, true, true, true, true, true, true, true, true, true, true, true, true, true, true, true, true, true, true, true, true, true, true, true, false, true, false, false, false, false, false, false, false] rfl rfl (by kernel_rfl) (fun _ _ _ h => hQ _ _ _ _ _ h) (Or.inl ⟨by rfl, ?_⟩) ?_ ?_
  rotate_left
  · intro w'
    as_aux_lemma =>
      go_simp
      with_reducible rfl
  rotate_left
  · (simp only [Act.put, List.setIfInBounds_toArray, i64_w, i32_w]; dsimp only [List.set_cons_zero, List.set_cons_succ])
    rfl
  refine pure_ (i := 42) (N := some 195) (v := ?_) (a' := ?_) #[true, true, true, true, true, true, true, true, true, true, true, true, true, true, true, true, true, true, true, true, true, true, true, true, true, true, true, true, true, true, true, true, true, true, true, true, true, true, true, true, false, true, true, false, false, false, false, false, false] rfl rfl (by kernel_rfl) (fun _ _ _ h => hQ _ _ _ _ _ h) (Or.inl ⟨by rfl, ?_⟩) ?_ ?_
  rotate_left
  · intro w'
    as_aux_lemma =>
      go_simp
      with_reducible rfl
  rotate_left
  · (simp only [Act.put, List.setIfInBounds_toArray, i64_w, i32_w]; dsimp only [List.set_cons_zero, List.set_cons_succ])
    rfl
  refine pure_ (i := 43) (N := some 196) (v := ?_) (a' := ?_) #[true, true, true, true, true, true, true, true, true, true, true, true, true, true, true, true, true, true, true, true, true, true, true, true, true, true, true, true, true, true, true, true, true, true, true, true, true, true, true, true, false, true, true, true, false, false, false, false, false] rfl rfl (by kernel_rfl) (fun _ _ _ h => hQ _ _ _ _ _ h) (Or.inl ⟨by rfl, ?_⟩) ?_ ?_
  rotate_left
  · intro w'
    as_aux_lemma =>
      go_simp
      with_reducible rfl
  rotate_left
  · (simp only [Act.put, List.setIfInBounds_toArray, i64_w, i32_w]; dsimp only [List.set_cons_zero, List.set_cons_succ])
    rfl
  refine pure_ (i := 44) (N := some 197) (v := ?_) (a' := ?_) #[true, true, true, true, true, true, true, true, true, true, true, true, true, true, true, true, true, true, true, true, true, true, true, true, true, true, true, true, true, true, true, true, true, true, true, true, true, true, true, true, false, true, true, true, true, false, false, false, false] rfl rfl (by kernel_rfl) (fun _ _ _ h => hQ _ _ _ _ _ h) (Or.inl ⟨by rfl, ?_⟩) ?_ ?_
  rotate_left
  · intro w'
    as_aux_lemma =>
      go_simp
      with_reducible rfl
  rotate_left
  · (simp only [Act.put, List.setIfInBounds_toArray, i64_w, i32_w]; dsimp only [List.set_cons_zero, List.set_cons_succ])
    rfl
  refine take_ (i := 40) (N := some 193) (v := ?_) (a' := ?_) #[true, true, true, true, true, true, true, true, true, true, true, true, true, true, true, true, true, true, true, true, true, true, true, true, true, true, true, true, true, true, true, true, true, true, true, true, true, true, true, true, true, true, true, true, true, false, false, false, false] rfl rfl (by kernel_rfl) (fun _ _ _ h => hQ _ _ _ _ _ h) (Or.inl ⟨by rfl, ?_⟩) hHeld ?_ ?_
  rotate_left
  · rintro w' ⟨s0, s1, s2⟩
    as_aux_lemma =>
      go_simp
      with_reducible rfl
  rotate_left
  · (simp only [Act.put, List.setIfInBounds_toArray, i64_w, i32_w]; dsimp only [List.set_cons_zero, List.set_cons_succ])
    rfl
  refine take_ (i := 45) (N := some 198) (v := ?_) (a' := ?_) #[true, true, true, true, true, true, true, true, true, true, true, true, true, true, true, true, true, true, true, true, true, true, true, true, true, true, true, true, true, true, true, true, true, true, true, true, true, true, true, true, true, true, true, true, true, true, false, false, false] rfl rfl (by kernel_rfl) (fun _ _ _ h => hQ _ _ _ _ _ h) (Or.inl ⟨by rfl, ?_⟩) hHeld ?_ ?_
  rotate_left
  · rintro w' ⟨s0, s1, s2⟩
    as_aux_lemma =>
      go_simp
      with_reducible rfl
  rotate_left
  · (simp only [Act.put, List.setIfInBounds_toArray, i64_w, i32_w]; dsimp only [List.set_cons_zero, List.set_cons_succ])
    rfl
  refine pure_ (i := 46) (N := some 199) (v := ?_) (a' := ?_) #[true, true, true, true, true, true, true, true, true, true, true, true, true, true, true, true, true, true, true, true, true, true, true, true, true, true, true, true, true, true, true, true, true, true, true, true, true, true, true, true, true, true, true, true, true, true, true, false, false] rfl rfl (by kernel_rfl) (fun _ _ _ h => hQ _ _ _ _ _ h) (Or.inl ⟨by rfl, ?_⟩) ?_ ?_
  rotate_left
  · intro w'
    as_aux_lemma =>
      go_simp
      with_reducible rfl
  rotate_left
  · (simp only [Act.put, List.setIfInBounds_toArray, i64_w, i32_w]; dsimp only [List.set_cons_zero, List.set_cons_succ])
    rfl
  refine pure_ (i := 47) (N := some 200) (v := ?_) (a' := ?_) #[true, true, true, true, true, true, true, true, true, true, true, true, true, true, true, true, true, true, true, true, true, true, true, true, true, true, true, true, true, true, true, true, true, true, true, true, true, true, true, true, true, true, true, true, true, true, true, true, false] rfl rfl (by kernel_rfl) (fun _ _ _ h => hQ _ _ _ _ _ h) (Or.inl ⟨by rfl, ?_⟩) ?_ ?_
  rotate_left
  · intro w'
    as_aux_lemma =>
      go_simp
      with_reducible rfl
  rotate_left
  · (simp only [Act.put, List.setIfInBounds_toArray, i64_w, i32_w]; dsimp only [List.set_cons_zero, List.set_cons_succ])
    rfl
  refine pure_ (i := 48) (N := some 201) (v := ?_) (a' := ?_) #[true, true, true, true, true, true, true, true, true, true, true, true, true, true, true, true, true, true, true, true, true, true, true, true, true, true, true, true, true, true, true, true, true, true, true, true, true, true, true, true, true, true, true, true, true, true, true, true, true] rfl rfl (by kernel_rfl) (fun _ _ _ h => hQ _ _ _ _ _ h) (Or.inl ⟨by rfl, ?_⟩) ?_ ?_
  rotate_left
  · intro w'
    as_aux_lemma =>
      go_simp
      with_reducible rfl
  rotate_left
  · (simp only [Act.put, List.setIfInBounds_toArray, i64_w, i32_w]; dsimp only [List.set_cons_zero, List.set_cons_succ])
    rfl
  refine done_ (by kernel_rfl) ?_
  exact hfin _ _ _ _ _ _ _ _ _ _ _ _ _ _ _ _ _ _ _ _ _ _ _ _ _ _ _ _ _ _ _ _ _ _ _ _ _ _ _ _ _ _ _ _ _ _ _ _ _ e1
end Go.Proofs.Ytlagogjnoibkcaa
