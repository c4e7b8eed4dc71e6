import Derived.Test.YtdfofelchjpioaaDoorCorDb
set_option linter.unusedVariables false
set_option linter.unusedSimpArgs false
namespace Go.Proofs.YtdfofelchjpioaaDoor
open Go.RowKit

set_option maxHeartbeats 3200000 in
set_option maxRecDepth 100000 in
theorem sw_28 {C : Code} (hC : C = swC) {w w8 : World} {bi bs br bo bn : Nat} {s : St} {sh : List Int} {px pm : Option Addr} {cx cm : Nat} {lk : Int} {a b c : Nat} {i inp : Int} {pc : Nat} {va vb vc : Int} {u0 u1 u2 u6 u8 u9 u12 u14 u23 u24 u25 u26 u27 u28 u29 u30 u31 u32 u33 u34 u35 u36 u37 u38 u39 u40 u41 u42 u43 u44 u45 u46 u47 u48 u49 u50 u51 u52 u53 u54 u55 u56 u57 u58 u59 u60 u61 u62 u63 u64 u65 u66 u67 u68 u69 u70 u71 u72 u73 u74 u75 u76 u77 u78 u79 u80 u81 u82 u83 u84 u85 u86 u87 u88 u89 u90 u91 u92 u93 u94 u95 u96 u97 u98 u99 u100 u101 u102 u103 u104 u105 u106 u107 u108 u109 u110 u111 u112 u113 u114 u115 u116 u117 u118 u119 u120 u121 u122 u123 u124 u125 u126 u127 u128 u129 u130 u131 u132 u133 u134 u135 u136 u137 u138 u139 u140 u141 u142 u143 u144 u145 u146 u147 u148 u149 u150 u151 u152 u153 u154 u155 u156 u157 u158 u159 u160 u161 u162 u163 u164 u165 u166 u167 u168 u169 u170 u171 u172 u173 u174 u175 u176 u177 u178 u179 u180 u181 u182 u183 u184 u185 u186 u187 u188 u189 u190 u191 u192 u193 u194 u195 u196 u197 u198 u199 u200 u201 u202 u203 u204 u205 u206 u207 u208 u209 u210 u211 u212 u213 u214 u215 u216 u217 u218 u219 u220 u221 u222 u223 u224 u225 u226 u227 u228 u229 u230 u231 u232 u233 u234 u235 u236 u237 u238 u239 u240 u241 u242 u243 u244 u245 u246 u247 u248 u249 u250 u251 u252 u253 u254 u255 u256 u257 u258 u259 u260 u261 u262 u263 u264 u265 u266 u267 u268 u269 u270 u271 u272 u273 u274 u275 u276 u277 u278 u279 u280 u281 u282 u283 u284 u285 u286 u287 u288 u289 u290 u291 u292 u293 u294 u295 u296 u297 u298 u299 u300 u301 u302 u303 u304 u305 u306 u307 u308 u309 u310 u311 u312 u313 u314 u315 u316 u317 u318 u319 u320 u321 u322 u323 u324 u325 u326 u327 u328 u329 u330 u331 u332 u333 u334 u335 u336 u337 u338 u339 u340 u341 u342 u343 : Value} {J K' : Act → World → Prop} {Q' : Exit → Act → World → Prop} (hr16 : s.r.length = 16) (HA8 : Hid (SwAt w w8 bs br bo bn s (.slice px s.d.length cx) (.slice pm sh.length cm) sh (oL 28 a b c i false (-1) 0) [.int .u8 28, .int .i64 a, .int .i64 b, .int .i64 c, .int .i64 i])) (HBK : Hid (SwBk w.heap.size bs br bo bn (.slice px s.d.length cx) (.slice pm sh.length cm))) (HIM : Hid (bi < w8.heap.size ∧ w8.cell? ⟨bi, 3, none⟩ = some (.int .i64 lk)))
    (HPC : Hid (s.pc = pc)) (HVA : Hid (va = s.r.getD a 0)) (HVB : Hid (vb = s.r.getD b 0)) (HVC : Hid (vc = s.r.getD c 0)) (hpc : pc ≤ 140737488351232) (hva32 : W32 va) (hvb32 : W32 vb) (hvc32 : W32 vc) (hin : W32 inp) (hii0 : -131072 ≤ i) (hii1 : i ≤ 262143) (hdl : s.d.length ≤ 1000) (hsl : sh.length ≤ 1000)
    (hM : ∀ a' w', Met J a' w' → K' a' w') (hJ : HJp J w bi bs br bo bn s sh px pm cx cm lk 28 a b c i inp va vb vc u0 u1 u2 u6 u8 u9 u12 u14 u27 u28 u29 u30 u31 u32 u33 u34 u35 u36 u37 u38 u39 u40 u41 u42 u43 u44 u45 u46 u47 u48 u49 u50 u51 u52 u53 u54 u55 u56 u57 u58 u59 u60 u61 u62 u63 u64 u65 u66 u67 u68 u69 u70 u71 u72 u73 u74 u75 u76 u77 u78 u79 u80 u81 u82 u83 u84 u85 u86 u87 u88 u89 u90 u91 u92 u93 u94 u95 u96 u97 u98 u99 u100 u326 u327 u328 u329 u330 u331 u332 u333 u334 u335 u336 u337 u338 u339 u340 u341 u342 u343) (hR : HRp Q' w bi bs br bo bn s sh px pm cx cm lk 28 a b c i inp va vb vc u0 u1 u2 u6 u8 u9 u12 u14 u27 u28 u29 u30 u31 u32 u33 u34 u35 u36 u37 u38 u39 u40 u41 u42 u43 u44 u45 u46 u47 u48 u49 u50 u51 u52 u53 u54 u55 u56 u57 u58 u59 u60 u61 u62 u63 u64 u65 u66 u67 u68 u69 u70 u71 u72 u73 u74 u75 u76 u77 u78 u79 u80 u81 u82 u83 u84 u85 u86 u87 u88 u89 u90 u91 u92 u93 u94 u95 u96 u97 u98 u99 u100 u326 u327 u328 u329 u330 u331 u332 u333 u334 u335 u336 u337 u338 u339 u340 u341 u342 u343) :
    Code.wp Tryd.prog C (Exit.then K' Q') ⟨List.toArray (u0 :: u1 :: u2 :: (.slice pm sh.length cm) :: .int .i32 inp :: .pointer (some ⟨bi, 0, none⟩) :: u6 :: .pointer (some ⟨bs, 0, none⟩) :: u8 :: u9 :: .pointer (some ⟨br, 0, none⟩) :: .int .i64 0 :: u12 :: .pointer (some ⟨bn, 0, none⟩) :: u14 :: .pointer (some ⟨bo, 0, none⟩) :: .int .i64 ((pc : Int) + 1) :: .int .i32 va :: .int .i32 vb :: .int .i32 vc :: .int .i64 (vb + i) :: .bool false :: .int .i32 0 :: u23 :: u24 :: u25 :: u26 :: u27 :: u28 :: u29 :: u30 :: u31 :: u32 :: u33 :: u34 :: u35 :: u36 :: u37 :: u38 :: u39 :: u40 :: u41 :: u42 :: u43 :: u44 :: u45 :: u46 :: u47 :: u48 :: u49 :: u50 :: u51 :: u52 :: u53 :: u54 :: u55 :: u56 :: u57 :: u58 :: u59 :: u60 :: u61 :: u62 :: u63 :: u64 :: u65 :: u66 :: u67 :: u68 :: u69 :: u70 :: u71 :: u72 :: u73 :: u74 :: u75 :: u76 :: u77 :: u78 :: u79 :: u80 :: u81 :: u82 :: u83 :: u84 :: u85 :: u86 :: u87 :: u88 :: u89 :: u90 :: u91 :: u92 :: u93 :: u94 :: u95 :: u96 :: u97 :: u98 :: u99 :: u100 :: u101 :: u102 :: u103 :: u104 :: u105 :: u106 :: u107 :: u108 :: u109 :: u110 :: u111 :: u112 :: u113 :: u114 :: u115 :: u116 :: u117 :: u118 :: u119 :: u120 :: u121 :: u122 :: u123 :: u124 :: u125 :: u126 :: u127 :: u128 :: u129 :: u130 :: u131 :: u132 :: u133 :: u134 :: u135 :: u136 :: u137 :: u138 :: u139 :: u140 :: u141 :: u142 :: u143 :: u144 :: u145 :: u146 :: u147 :: u148 :: u149 :: u150 :: u151 :: u152 :: u153 :: u154 :: u155 :: u156 :: u157 :: u158 :: u159 :: u160 :: u161 :: u162 :: u163 :: u164 :: u165 :: u166 :: u167 :: u168 :: u169 :: u170 :: u171 :: u172 :: u173 :: u174 :: u175 :: u176 :: u177 :: u178 :: u179 :: u180 :: u181 :: u182 :: u183 :: u184 :: u185 :: u186 :: u187 :: u188 :: u189 :: u190 :: u191 :: u192 :: u193 :: u194 :: u195 :: u196 :: u197 :: u198 :: u199 :: u200 :: u201 :: u202 :: u203 :: u204 :: u205 :: u206 :: u207 :: u208 :: u209 :: u210 :: u211 :: u212 :: u213 :: u214 :: u215 :: u216 :: u217 :: u218 :: u219 :: u220 :: u221 :: u222 :: u223 :: u224 :: u225 :: u226 :: u227 :: u228 :: u229 :: u230 :: u231 :: u232 :: u233 :: u234 :: u235 :: u236 :: u237 :: u238 :: u239 :: u240 :: u241 :: u242 :: u243 :: u244 :: u245 :: u246 :: u247 :: u248 :: u249 :: u250 :: u251 :: u252 :: u253 :: u254 :: u255 :: u256 :: u257 :: u258 :: u259 :: u260 :: u261 :: u262 :: u263 :: u264 :: u265 :: u266 :: u267 :: u268 :: u269 :: u270 :: u271 :: u272 :: u273 :: u274 :: u275 :: u276 :: u277 :: u278 :: u279 :: u280 :: u281 :: u282 :: u283 :: u284 :: u285 :: u286 :: u287 :: u288 :: u289 :: u290 :: u291 :: u292 :: u293 :: u294 :: u295 :: u296 :: u297 :: u298 :: u299 :: u300 :: u301 :: u302 :: u303 :: u304 :: u305 :: u306 :: u307 :: u308 :: u309 :: u310 :: u311 :: u312 :: u313 :: u314 :: u315 :: u316 :: u317 :: u318 :: u319 :: u320 :: u321 :: u322 :: u323 :: u324 :: u325 :: u326 :: u327 :: u328 :: u329 :: u330 :: u331 :: u332 :: u333 :: u334 :: u335 :: u336 :: u337 :: u338 :: u339 :: u340 :: u341 :: u342 :: u343 :: []), []⟩ w8 := by
  subst hC
  unfold HJp at hJ
  unfold HRp at hR
  have x0 : w8.cell? ⟨bn, 0, none⟩ = some (.int .u8 28) := HA8.out.i.cell 0
  have x1 : w8.cell? ⟨bn, 1, none⟩ = some (.int .i64 a) := HA8.out.i.cell 1
  have x2 : w8.cell? ⟨bn, 2, none⟩ = some (.int .i64 b) := HA8.out.i.cell 2
  have x3 : w8.cell? ⟨bn, 3, none⟩ = some (.int .i64 c) := HA8.out.i.cell 3
  have x4 : w8.cell? ⟨bn, 4, none⟩ = some (.int .i64 i) := HA8.out.i.cell 4
  have hl7 := HA8.out.st.lt
  have hl13 := HA8.out.i.lt
  have hl15 := HA8.out.o.lt
  conv => arg 2; whnf
  obtain ⟨tR, hz⟩ := HA8.out.z
  have HZo := Lib.hid hz
  clear hz
  have HST : StAt w8 bs s (.slice px s.d.length cx) := ⟨hr16, HA8.out.st⟩
  have s19 : w8.cell? ⟨bs, 19, none⟩ = some (.int .i64 s.held) := HST.held
  have t19 : w8.frozen? ⟨bs, 19, none⟩ = false := HST.frozen 19
  clear HST
  have him := HIM.out.2
  have himl := HIM.out.1
  by_cases h1 : s.held ≥ 0
  · skip
    go_wp2_with (first | (refine wpList_store_row rfl 46 (.tmp 10) (.tmp 300) rfl br _ rfl rfl tR _ HZo.out info29h.out rfl zone29.out ?_; simp only [put_noS]))
    refine hR _ _ _ _ _ _ _ _ _ _ _ _ _ _ _ _ _ _ _ _ _ _ _ _ _ _ _ _ _ _ _ _ _ _ _ _ _ _ _ _ _ _ _ _ _ _ _ _ _ _ _ _ _ _ _ _ _ _ _ _ _ _ _ _ _ _ _ _ _ _ _ _ _ _ _ _ _ _ _ _ _ _ _ _ _ _ _ _ _ _ _ _ _ _ _ _ _ _ _ _ _ _ _ _ _ _ _ _ _ _ _ _ _ _ _ _ _ _ _ _ _ _ _ _ _ _ _ _ _ _ _ _ _ _ _ _ _ _ _ _ _ _ _ _ _ _ _ _ _ _ _ _ _ _ _ _ _ _ _ _ _ _ _ _ _ _ _ _ _ _ _ _ _ _ _ _ _ _ _ _ _ _ _ _ _ _ _ _ _ _ _ _ _ _ _ _ _ _ _ _ _ _ _ _ _ _ _ _ _ _ _ _ _ _ _ _ _ _ _ _ _ _ _ _ _ _ _ _ _ _ _ _ _ 12 _ rfl (by simp [stepI, h1]) ⟨_, setRow_heap _ _ _ _ _ _ HZo.out⟩ (bRowS (by have := HBK.out.lo; omega) HA8.out.bel)
  · by_cases h2 : i ≥ lk
    · skip
      go_wp2_with (first | (refine wpList_store_row rfl 46 (.tmp 10) (.tmp 300) rfl br _ rfl rfl tR _ HZo.out info29h.out rfl zone29.out ?_; simp only [put_noS]))
      refine hR _ _ _ _ _ _ _ _ _ _ _ _ _ _ _ _ _ _ _ _ _ _ _ _ _ _ _ _ _ _ _ _ _ _ _ _ _ _ _ _ _ _ _ _ _ _ _ _ _ _ _ _ _ _ _ _ _ _ _ _ _ _ _ _ _ _ _ _ _ _ _ _ _ _ _ _ _ _ _ _ _ _ _ _ _ _ _ _ _ _ _ _ _ _ _ _ _ _ _ _ _ _ _ _ _ _ _ _ _ _ _ _ _ _ _ _ _ _ _ _ _ _ _ _ _ _ _ _ _ _ _ _ _ _ _ _ _ _ _ _ _ _ _ _ _ _ _ _ _ _ _ _ _ _ _ _ _ _ _ _ _ _ _ _ _ _ _ _ _ _ _ _ _ _ _ _ _ _ _ _ _ _ _ _ _ _ _ _ _ _ _ _ _ _ _ _ _ _ _ _ _ _ _ _ _ _ _ _ _ _ _ _ _ _ _ _ _ _ _ _ _ _ _ _ _ _ _ _ _ _ _ _ _ 12 _ rfl (by simp [stepI, h2]) ⟨_, setRow_heap _ _ _ _ _ _ HZo.out⟩ (bRowS (by have := HBK.out.lo; omega) HA8.out.bel)
    · go_wp2_with fail
      all_goals refine Met.intro ?_
      all_goals apply hJ
      all_goals exact ⟨{ s with held := i }, sh, false, (-1), 0, _, _, false, rfl, rfl, rfl, (HA8.out.setS HBK.out 19 _ (held_set hr16 _) rfl), rfl, rfl, rfl, ((by simp [stepI]; omega : stepI lk 28 a b c i s sh inp = .ok ({ s with pc := s.pc + 1, held := i }, sh, false, -1, 0)).trans (by rw [HPC.out]; rfl))⟩

set_option maxHeartbeats 3200000 in
set_option maxRecDepth 100000 in
theorem sw_29 {C : Code} (hC : C = swC) {w w8 : World} {bi bs br bo bn : Nat} {s : St} {sh : List Int} {px pm : Option Addr} {cx cm : Nat} {lk : Int} {a b c : Nat} {i inp : Int} {pc : Nat} {va vb vc : Int} {u0 u1 u2 u6 u8 u9 u12 u14 u23 u24 u25 u26 u27 u28 u29 u30 u31 u32 u33 u34 u35 u36 u37 u38 u39 u40 u41 u42 u43 u44 u45 u46 u47 u48 u49 u50 u51 u52 u53 u54 u55 u56 u57 u58 u59 u60 u61 u62 u63 u64 u65 u66 u67 u68 u69 u70 u71 u72 u73 u74 u75 u76 u77 u78 u79 u80 u81 u82 u83 u84 u85 u86 u87 u88 u89 u90 u91 u92 u93 u94 u95 u96 u97 u98 u99 u100 u101 u102 u103 u104 u105 u106 u107 u108 u109 u110 u111 u112 u113 u114 u115 u116 u117 u118 u119 u120 u121 u122 u123 u124 u125 u126 u127 u128 u129 u130 u131 u132 u133 u134 u135 u136 u137 u138 u139 u140 u141 u142 u143 u144 u145 u146 u147 u148 u149 u150 u151 u152 u153 u154 u155 u156 u157 u158 u159 u160 u161 u162 u163 u164 u165 u166 u167 u168 u169 u170 u171 u172 u173 u174 u175 u176 u177 u178 u179 u180 u181 u182 u183 u184 u185 u186 u187 u188 u189 u190 u191 u192 u193 u194 u195 u196 u197 u198 u199 u200 u201 u202 u203 u204 u205 u206 u207 u208 u209 u210 u211 u212 u213 u214 u215 u216 u217 u218 u219 u220 u221 u222 u223 u224 u225 u226 u227 u228 u229 u230 u231 u232 u233 u234 u235 u236 u237 u238 u239 u240 u241 u242 u243 u244 u245 u246 u247 u248 u249 u250 u251 u252 u253 u254 u255 u256 u257 u258 u259 u260 u261 u262 u263 u264 u265 u266 u267 u268 u269 u270 u271 u272 u273 u274 u275 u276 u277 u278 u279 u280 u281 u282 u283 u284 u285 u286 u287 u288 u289 u290 u291 u292 u293 u294 u295 u296 u297 u298 u299 u300 u301 u302 u303 u304 u305 u306 u307 u308 u309 u310 u311 u312 u313 u314 u315 u316 u317 u318 u319 u320 u321 u322 u323 u324 u325 u326 u327 u328 u329 u330 u331 u332 u333 u334 u335 u336 u337 u338 u339 u340 u341 u342 u343 : Value} {J K' : Act → World → Prop} {Q' : Exit → Act → World → Prop} (hr16 : s.r.length = 16) (HA8 : Hid (SwAt w w8 bs br bo bn s (.slice px s.d.length cx) (.slice pm sh.length cm) sh (oL 29 a b c i false (-1) 0) [.int .u8 29, .int .i64 a, .int .i64 b, .int .i64 c, .int .i64 i])) (HBK : Hid (SwBk w.heap.size bs br bo bn (.slice px s.d.length cx) (.slice pm sh.length cm))) (HIM : Hid (bi < w8.heap.size ∧ w8.cell? ⟨bi, 3, none⟩ = some (.int .i64 lk)))
    (HPC : Hid (s.pc = pc)) (HVA : Hid (va = s.r.getD a 0)) (HVB : Hid (vb = s.r.getD b 0)) (HVC : Hid (vc = s.r.getD c 0)) (hpc : pc ≤ 140737488351232) (hva32 : W32 va) (hvb32 : W32 vb) (hvc32 : W32 vc) (hin : W32 inp) (hii0 : -131072 ≤ i) (hii1 : i ≤ 262143) (hdl : s.d.length ≤ 1000) (hsl : sh.length ≤ 1000)
    (hM : ∀ a' w', Met J a' w' → K' a' w') (hJ : HJp J w bi bs br bo bn s sh px pm cx cm lk 29 a b c i inp va vb vc u0 u1 u2 u6 u8 u9 u12 u14 u27 u28 u29 u30 u31 u32 u33 u34 u35 u36 u37 u38 u39 u40 u41 u42 u43 u44 u45 u46 u47 u48 u49 u50 u51 u52 u53 u54 u55 u56 u57 u58 u59 u60 u61 u62 u63 u64 u65 u66 u67 u68 u69 u70 u71 u72 u73 u74 u75 u76 u77 u78 u79 u80 u81 u82 u83 u84 u85 u86 u87 u88 u89 u90 u91 u92 u93 u94 u95 u96 u97 u98 u99 u100 u326 u327 u328 u329 u330 u331 u332 u333 u334 u335 u336 u337 u338 u339 u340 u341 u342 u343) (hR : HRp Q' w bi bs br bo bn s sh px pm cx cm lk 29 a b c i inp va vb vc u0 u1 u2 u6 u8 u9 u12 u14 u27 u28 u29 u30 u31 u32 u33 u34 u35 u36 u37 u38 u39 u40 u41 u42 u43 u44 u45 u46 u47 u48 u49 u50 u51 u52 u53 u54 u55 u56 u57 u58 u59 u60 u61 u62 u63 u64 u65 u66 u67 u68 u69 u70 u71 u72 u73 u74 u75 u76 u77 u78 u79 u80 u81 u82 u83 u84 u85 u86 u87 u88 u89 u90 u91 u92 u93 u94 u95 u96 u97 u98 u99 u100 u326 u327 u328 u329 u330 u331 u332 u333 u334 u335 u336 u337 u338 u339 u340 u341 u342 u343) :
    Code.wp Tryd.prog C (Exit.then K' Q') ⟨List.toArray (u0 :: u1 :: u2 :: (.slice pm sh.length cm) :: .int .i32 inp :: .pointer (some ⟨bi, 0, none⟩) :: u6 :: .pointer (some ⟨bs, 0, none⟩) :: u8 :: u9 :: .pointer (some ⟨br, 0, none⟩) :: .int .i64 0 :: u12 :: .pointer (some ⟨bn, 0, none⟩) :: u14 :: .pointer (some ⟨bo, 0, none⟩) :: .int .i64 ((pc : Int) + 1) :: .int .i32 va :: .int .i32 vb :: .int .i32 vc :: .int .i64 (vb + i) :: .bool false :: .int .i32 0 :: u23 :: u24 :: u25 :: u26 :: u27 :: u28 :: u29 :: u30 :: u31 :: u32 :: u33 :: u34 :: u35 :: u36 :: u37 :: u38 :: u39 :: u40 :: u41 :: u42 :: u43 :: u44 :: u45 :: u46 :: u47 :: u48 :: u49 :: u50 :: u51 :: u52 :: u53 :: u54 :: u55 :: u56 :: u57 :: u58 :: u59 :: u60 :: u61 :: u62 :: u63 :: u64 :: u65 :: u66 :: u67 :: u68 :: u69 :: u70 :: u71 :: u72 :: u73 :: u74 :: u75 :: u76 :: u77 :: u78 :: u79 :: u80 :: u81 :: u82 :: u83 :: u84 :: u85 :: u86 :: u87 :: u88 :: u89 :: u90 :: u91 :: u92 :: u93 :: u94 :: u95 :: u96 :: u97 :: u98 :: u99 :: u100 :: u101 :: u102 :: u103 :: u104 :: u105 :: u106 :: u107 :: u108 :: u109 :: u110 :: u111 :: u112 :: u113 :: u114 :: u115 :: u116 :: u117 :: u118 :: u119 :: u120 :: u121 :: u122 :: u123 :: u124 :: u125 :: u126 :: u127 :: u128 :: u129 :: u130 :: u131 :: u132 :: u133 :: u134 :: u135 :: u136 :: u137 :: u138 :: u139 :: u140 :: u141 :: u142 :: u143 :: u144 :: u145 :: u146 :: u147 :: u148 :: u149 :: u150 :: u151 :: u152 :: u153 :: u154 :: u155 :: u156 :: u157 :: u158 :: u159 :: u160 :: u161 :: u162 :: u163 :: u164 :: u165 :: u166 :: u167 :: u168 :: u169 :: u170 :: u171 :: u172 :: u173 :: u174 :: u175 :: u176 :: u177 :: u178 :: u179 :: u180 :: u181 :: u182 :: u183 :: u184 :: u185 :: u186 :: u187 :: u188 :: u189 :: u190 :: u191 :: u192 :: u193 :: u194 :: u195 :: u196 :: u197 :: u198 :: u199 :: u200 :: u201 :: u202 :: u203 :: u204 :: u205 :: u206 :: u207 :: u208 :: u209 :: u210 :: u211 :: u212 :: u213 :: u214 :: u215 :: u216 :: u217 :: u218 :: u219 :: u220 :: u221 :: u222 :: u223 :: u224 :: u225 :: u226 :: u227 :: u228 :: u229 :: u230 :: u231 :: u232 :: u233 :: u234 :: u235 :: u236 :: u237 :: u238 :: u239 :: u240 :: u241 :: u242 :: u243 :: u244 :: u245 :: u246 :: u247 :: u248 :: u249 :: u250 :: u251 :: u252 :: u253 :: u254 :: u255 :: u256 :: u257 :: u258 :: u259 :: u260 :: u261 :: u262 :: u263 :: u264 :: u265 :: u266 :: u267 :: u268 :: u269 :: u270 :: u271 :: u272 :: u273 :: u274 :: u275 :: u276 :: u277 :: u278 :: u279 :: u280 :: u281 :: u282 :: u283 :: u284 :: u285 :: u286 :: u287 :: u288 :: u289 :: u290 :: u291 :: u292 :: u293 :: u294 :: u295 :: u296 :: u297 :: u298 :: u299 :: u300 :: u301 :: u302 :: u303 :: u304 :: u305 :: u306 :: u307 :: u308 :: u309 :: u310 :: u311 :: u312 :: u313 :: u314 :: u315 :: u316 :: u317 :: u318 :: u319 :: u320 :: u321 :: u322 :: u323 :: u324 :: u325 :: u326 :: u327 :: u328 :: u329 :: u330 :: u331 :: u332 :: u333 :: u334 :: u335 :: u336 :: u337 :: u338 :: u339 :: u340 :: u341 :: u342 :: u343 :: []), []⟩ w8 := by
  subst hC
  unfold HJp at hJ
  unfold HRp at hR
  have x0 : w8.cell? ⟨bn, 0, none⟩ = some (.int .u8 29) := HA8.out.i.cell 0
  have x1 : w8.cell? ⟨bn, 1, none⟩ = some (.int .i64 a) := HA8.out.i.cell 1
  have x2 : w8.cell? ⟨bn, 2, none⟩ = some (.int .i64 b) := HA8.out.i.cell 2
  have x3 : w8.cell? ⟨bn, 3, none⟩ = some (.int .i64 c) := HA8.out.i.cell 3
  have x4 : w8.cell? ⟨bn, 4, none⟩ = some (.int .i64 i) := HA8.out.i.cell 4
  have hl7 := HA8.out.st.lt
  have hl13 := HA8.out.i.lt
  have hl15 := HA8.out.o.lt
  conv => arg 2; whnf
  obtain ⟨tR, hz⟩ := HA8.out.z
  have HZo := Lib.hid hz
  clear hz
  have HST : StAt w8 bs s (.slice px s.d.length cx) := ⟨hr16, HA8.out.st⟩
  have s19 : w8.cell? ⟨bs, 19, none⟩ = some (.int .i64 s.held) := HST.held
  have t19 : w8.frozen? ⟨bs, 19, none⟩ = false := HST.frozen 19
  clear HST
  by_cases h1 : s.held = i
  · have h1b : (s.held == i) = true := beq_iff_eq.2 h1
    have h1n : (s.held != i) = false := by simp [h1]
    go_wp2_with fail
    all_goals refine Met.intro ?_
    all_goals apply hJ
    all_goals exact ⟨{ s with held := -1 }, sh, false, (-1), 0, _, _, false, rfl, rfl, rfl, (HA8.out.setS HBK.out 19 _ (held_set hr16 _) rfl), rfl, rfl, rfl, ((by simp [stepI, h1] : stepI lk 29 a b c i s sh inp = .ok ({ s with pc := s.pc + 1, held := -1 }, sh, false, -1, 0)).trans (by rw [HPC.out]; rfl))⟩
  · have h1n : (s.held != i) = true := bne_iff_ne.2 h1
    go_wp2_with (first | (refine wpList_store_row rfl 46 (.tmp 10) (.tmp 313) rfl br _ rfl rfl tR _ HZo.out info29h.out rfl zone29.out ?_; simp only [put_noS]))
    refine hR _ _ _ _ _ _ _ _ _ _ _ _ _ _ _ _ _ _ _ _ _ _ _ _ _ _ _ _ _ _ _ _ _ _ _ _ _ _ _ _ _ _ _ _ _ _ _ _ _ _ _ _ _ _ _ _ _ _ _ _ _ _ _ _ _ _ _ _ _ _ _ _ _ _ _ _ _ _ _ _ _ _ _ _ _ _ _ _ _ _ _ _ _ _ _ _ _ _ _ _ _ _ _ _ _ _ _ _ _ _ _ _ _ _ _ _ _ _ _ _ _ _ _ _ _ _ _ _ _ _ _ _ _ _ _ _ _ _ _ _ _ _ _ _ _ _ _ _ _ _ _ _ _ _ _ _ _ _ _ _ _ _ _ _ _ _ _ _ _ _ _ _ _ _ _ _ _ _ _ _ _ _ _ _ _ _ _ _ _ _ _ _ _ _ _ _ _ _ _ _ _ _ _ _ _ _ _ _ _ _ _ _ _ _ _ _ _ _ _ _ _ _ _ _ _ _ _ _ _ _ _ _ _ 12 _ rfl (by simp [stepI, h1]) ⟨_, setRow_heap _ _ _ _ _ _ HZo.out⟩ (bRowS (by have := HBK.out.lo; omega) HA8.out.bel)

set_option maxHeartbeats 3200000 in
set_option maxRecDepth 100000 in
theorem sw_25 {C : Code} (hC : C = swC) {w w8 : World} {bi bs br bo bn : Nat} {s : St} {sh : List Int} {px pm : Option Addr} {cx cm : Nat} {lk : Int} {a b c : Nat} {i inp : Int} {pc : Nat} {va vb vc : Int} {u0 u1 u2 u6 u8 u9 u12 u14 u23 u24 u25 u26 u27 u28 u29 u30 u31 u32 u33 u34 u35 u36 u37 u38 u39 u40 u41 u42 u43 u44 u45 u46 u47 u48 u49 u50 u51 u52 u53 u54 u55 u56 u57 u58 u59 u60 u61 u62 u63 u64 u65 u66 u67 u68 u69 u70 u71 u72 u73 u74 u75 u76 u77 u78 u79 u80 u81 u82 u83 u84 u85 u86 u87 u88 u89 u90 u91 u92 u93 u94 u95 u96 u97 u98 u99 u100 u101 u102 u103 u104 u105 u106 u107 u108 u109 u110 u111 u112 u113 u114 u115 u116 u117 u118 u119 u120 u121 u122 u123 u124 u125 u126 u127 u128 u129 u130 u131 u132 u133 u134 u135 u136 u137 u138 u139 u140 u141 u142 u143 u144 u145 u146 u147 u148 u149 u150 u151 u152 u153 u154 u155 u156 u157 u158 u159 u160 u161 u162 u163 u164 u165 u166 u167 u168 u169 u170 u171 u172 u173 u174 u175 u176 u177 u178 u179 u180 u181 u182 u183 u184 u185 u186 u187 u188 u189 u190 u191 u192 u193 u194 u195 u196 u197 u198 u199 u200 u201 u202 u203 u204 u205 u206 u207 u208 u209 u210 u211 u212 u213 u214 u215 u216 u217 u218 u219 u220 u221 u222 u223 u224 u225 u226 u227 u228 u229 u230 u231 u232 u233 u234 u235 u236 u237 u238 u239 u240 u241 u242 u243 u244 u245 u246 u247 u248 u249 u250 u251 u252 u253 u254 u255 u256 u257 u258 u259 u260 u261 u262 u263 u264 u265 u266 u267 u268 u269 u270 u271 u272 u273 u274 u275 u276 u277 u278 u279 u280 u281 u282 u283 u284 u285 u286 u287 u288 u289 u290 u291 u292 u293 u294 u295 u296 u297 u298 u299 u300 u301 u302 u303 u304 u305 u306 u307 u308 u309 u310 u311 u312 u313 u314 u315 u316 u317 u318 u319 u320 u321 u322 u323 u324 u325 u326 u327 u328 u329 u330 u331 u332 u333 u334 u335 u336 u337 u338 u339 u340 u341 u342 u343 : Value} {J K' : Act → World → Prop} {Q' : Exit → Act → World → Prop} (HA8 : Hid (SwAt w w8 bs br bo bn s (.slice px s.d.length cx) (.slice pm sh.length cm) sh (oL 25 a b c i false (-1) 0) [.int .u8 25, .int .i64 a, .int .i64 b, .int .i64 c, .int .i64 i])) (HBK : Hid (SwBk w.heap.size bs br bo bn (.slice px s.d.length cx) (.slice pm sh.length cm))) (HIM : Hid (bi < w8.heap.size ∧ w8.cell? ⟨bi, 3, none⟩ = some (.int .i64 lk)))
    (HPC : Hid (s.pc = pc)) (HVA : Hid (va = s.r.getD a 0)) (HVB : Hid (vb = s.r.getD b 0)) (HVC : Hid (vc = s.r.getD c 0)) (hpc : pc ≤ 140737488351232) (hva32 : W32 va) (hvb32 : W32 vb) (hvc32 : W32 vc) (hin : W32 inp) (hii0 : -131072 ≤ i) (hii1 : i ≤ 262143) (hdl : s.d.length ≤ 1000) (hsl : sh.length ≤ 1000)
    (hM : ∀ a' w', Met J a' w' → K' a' w') (hJ : HJp J w bi bs br bo bn s sh px pm cx cm lk 25 a b c i inp va vb vc u0 u1 u2 u6 u8 u9 u12 u14 u27 u28 u29 u30 u31 u32 u33 u34 u35 u36 u37 u38 u39 u40 u41 u42 u43 u44 u45 u46 u47 u48 u49 u50 u51 u52 u53 u54 u55 u56 u57 u58 u59 u60 u61 u62 u63 u64 u65 u66 u67 u68 u69 u70 u71 u72 u73 u74 u75 u76 u77 u78 u79 u80 u81 u82 u83 u84 u85 u86 u87 u88 u89 u90 u91 u92 u93 u94 u95 u96 u97 u98 u99 u100 u326 u327 u328 u329 u330 u331 u332 u333 u334 u335 u336 u337 u338 u339 u340 u341 u342 u343) (hR : HRp Q' w bi bs br bo bn s sh px pm cx cm lk 25 a b c i inp va vb vc u0 u1 u2 u6 u8 u9 u12 u14 u27 u28 u29 u30 u31 u32 u33 u34 u35 u36 u37 u38 u39 u40 u41 u42 u43 u44 u45 u46 u47 u48 u49 u50 u51 u52 u53 u54 u55 u56 u57 u58 u59 u60 u61 u62 u63 u64 u65 u66 u67 u68 u69 u70 u71 u72 u73 u74 u75 u76 u77 u78 u79 u80 u81 u82 u83 u84 u85 u86 u87 u88 u89 u90 u91 u92 u93 u94 u95 u96 u97 u98 u99 u100 u326 u327 u328 u329 u330 u331 u332 u333 u334 u335 u336 u337 u338 u339 u340 u341 u342 u343) :
    Code.wp Tryd.prog C (Exit.then K' Q') ⟨List.toArray (u0 :: u1 :: u2 :: (.slice pm sh.length cm) :: .int .i32 inp :: .pointer (some ⟨bi, 0, none⟩) :: u6 :: .pointer (some ⟨bs, 0, none⟩) :: u8 :: u9 :: .pointer (some ⟨br, 0, none⟩) :: .int .i64 0 :: u12 :: .pointer (some ⟨bn, 0, none⟩) :: u14 :: .pointer (some ⟨bo, 0, none⟩) :: .int .i64 ((pc : Int) + 1) :: .int .i32 va :: .int .i32 vb :: .int .i32 vc :: .int .i64 (vb + i) :: .bool false :: .int .i32 0 :: u23 :: u24 :: u25 :: u26 :: u27 :: u28 :: u29 :: u30 :: u31 :: u32 :: u33 :: u34 :: u35 :: u36 :: u37 :: u38 :: u39 :: u40 :: u41 :: u42 :: u43 :: u44 :: u45 :: u46 :: u47 :: u48 :: u49 :: u50 :: u51 :: u52 :: u53 :: u54 :: u55 :: u56 :: u57 :: u58 :: u59 :: u60 :: u61 :: u62 :: u63 :: u64 :: u65 :: u66 :: u67 :: u68 :: u69 :: u70 :: u71 :: u72 :: u73 :: u74 :: u75 :: u76 :: u77 :: u78 :: u79 :: u80 :: u81 :: u82 :: u83 :: u84 :: u85 :: u86 :: u87 :: u88 :: u89 :: u90 :: u91 :: u92 :: u93 :: u94 :: u95 :: u96 :: u97 :: u98 :: u99 :: u100 :: u101 :: u102 :: u103 :: u104 :: u105 :: u106 :: u107 :: u108 :: u109 :: u110 :: u111 :: u112 :: u113 :: u114 :: u115 :: u116 :: u117 :: u118 :: u119 :: u120 :: u121 :: u122 :: u123 :: u124 :: u125 :: u126 :: u127 :: u128 :: u129 :: u130 :: u131 :: u132 :: u133 :: u134 :: u135 :: u136 :: u137 :: u138 :: u139 :: u140 :: u141 :: u142 :: u143 :: u144 :: u145 :: u146 :: u147 :: u148 :: u149 :: u150 :: u151 :: u152 :: u153 :: u154 :: u155 :: u156 :: u157 :: u158 :: u159 :: u160 :: u161 :: u162 :: u163 :: u164 :: u165 :: u166 :: u167 :: u168 :: u169 :: u170 :: u171 :: u172 :: u173 :: u174 :: u175 :: u176 :: u177 :: u178 :: u179 :: u180 :: u181 :: u182 :: u183 :: u184 :: u185 :: u186 :: u187 :: u188 :: u189 :: u190 :: u191 :: u192 :: u193 :: u194 :: u195 :: u196 :: u197 :: u198 :: u199 :: u200 :: u201 :: u202 :: u203 :: u204 :: u205 :: u206 :: u207 :: u208 :: u209 :: u210 :: u211 :: u212 :: u213 :: u214 :: u215 :: u216 :: u217 :: u218 :: u219 :: u220 :: u221 :: u222 :: u223 :: u224 :: u225 :: u226 :: u227 :: u228 :: u229 :: u230 :: u231 :: u232 :: u233 :: u234 :: u235 :: u236 :: u237 :: u238 :: u239 :: u240 :: u241 :: u242 :: u243 :: u244 :: u245 :: u246 :: u247 :: u248 :: u249 :: u250 :: u251 :: u252 :: u253 :: u254 :: u255 :: u256 :: u257 :: u258 :: u259 :: u260 :: u261 :: u262 :: u263 :: u264 :: u265 :: u266 :: u267 :: u268 :: u269 :: u270 :: u271 :: u272 :: u273 :: u274 :: u275 :: u276 :: u277 :: u278 :: u279 :: u280 :: u281 :: u282 :: u283 :: u284 :: u285 :: u286 :: u287 :: u288 :: u289 :: u290 :: u291 :: u292 :: u293 :: u294 :: u295 :: u296 :: u297 :: u298 :: u299 :: u300 :: u301 :: u302 :: u303 :: u304 :: u305 :: u306 :: u307 :: u308 :: u309 :: u310 :: u311 :: u312 :: u313 :: u314 :: u315 :: u316 :: u317 :: u318 :: u319 :: u320 :: u321 :: u322 :: u323 :: u324 :: u325 :: u326 :: u327 :: u328 :: u329 :: u330 :: u331 :: u332 :: u333 :: u334 :: u335 :: u336 :: u337 :: u338 :: u339 :: u340 :: u341 :: u342 :: u343 :: []), []⟩ w8 := by
  subst hC
  unfold HJp at hJ
  unfold HRp at hR
  have x0 : w8.cell? ⟨bn, 0, none⟩ = some (.int .u8 25) := HA8.out.i.cell 0
  have x1 : w8.cell? ⟨bn, 1, none⟩ = some (.int .i64 a) := HA8.out.i.cell 1
  have x2 : w8.cell? ⟨bn, 2, none⟩ = some (.int .i64 b) := HA8.out.i.cell 2
  have x3 : w8.cell? ⟨bn, 3, none⟩ = some (.int .i64 c) := HA8.out.i.cell 3
  have x4 : w8.cell? ⟨bn, 4, none⟩ = some (.int .i64 i) := HA8.out.i.cell 4
  have hl7 := HA8.out.st.lt
  have hl13 := HA8.out.i.lt
  have hl15 := HA8.out.o.lt
  conv => arg 2; whnf
  obtain ⟨tR, hz⟩ := HA8.out.z
  have HZo := Lib.hid hz
  clear hz
  have hw64 : IntKind.i64.wrap va = va := IntWalk.i64_in _ ⟨by unfold W32 at hva32; omega, by unfold W32 at hva32; omega⟩
  by_cases h1 : va < 0
  · skip
    go_wp2_with (first | (refine wpList_store_row rfl 46 (.tmp 10) (.tmp 272) rfl br _ rfl rfl tR _ HZo.out info29h.out rfl zone29.out ?_; simp only [put_noS]))
    refine hR _ _ _ _ _ _ _ _ _ _ _ _ _ _ _ _ _ _ _ _ _ _ _ _ _ _ _ _ _ _ _ _ _ _ _ _ _ _ _ _ _ _ _ _ _ _ _ _ _ _ _ _ _ _ _ _ _ _ _ _ _ _ _ _ _ _ _ _ _ _ _ _ _ _ _ _ _ _ _ _ _ _ _ _ _ _ _ _ _ _ _ _ _ _ _ _ _ _ _ _ _ _ _ _ _ _ _ _ _ _ _ _ _ _ _ _ _ _ _ _ _ _ _ _ _ _ _ _ _ _ _ _ _ _ _ _ _ _ _ _ _ _ _ _ _ _ _ _ _ _ _ _ _ _ _ _ _ _ _ _ _ _ _ _ _ _ _ _ _ _ _ _ _ _ _ _ _ _ _ _ _ _ _ _ _ _ _ _ _ _ _ _ _ _ _ _ _ _ _ _ _ _ _ _ _ _ _ _ _ _ _ _ _ _ _ _ _ _ _ _ _ _ _ _ _ _ _ _ _ _ _ _ _ 11 _ rfl (by simp [stepI, -List.getD_eq_getElem?_getD, ← HVA.out]; omega) ⟨_, setRow_heap _ _ _ _ _ _ HZo.out⟩ (bRowS (by have := HBK.out.lo; omega) HA8.out.bel)
  · by_cases h2 : i ≤ va
    · have h2I : va ≥ i := h2
      go_wp2_with (first | (refine wpList_store_row rfl 46 (.tmp 10) (.tmp 272) rfl br _ rfl rfl tR _ HZo.out info29h.out rfl zone29.out ?_; simp only [put_noS]))
      refine hR _ _ _ _ _ _ _ _ _ _ _ _ _ _ _ _ _ _ _ _ _ _ _ _ _ _ _ _ _ _ _ _ _ _ _ _ _ _ _ _ _ _ _ _ _ _ _ _ _ _ _ _ _ _ _ _ _ _ _ _ _ _ _ _ _ _ _ _ _ _ _ _ _ _ _ _ _ _ _ _ _ _ _ _ _ _ _ _ _ _ _ _ _ _ _ _ _ _ _ _ _ _ _ _ _ _ _ _ _ _ _ _ _ _ _ _ _ _ _ _ _ _ _ _ _ _ _ _ _ _ _ _ _ _ _ _ _ _ _ _ _ _ _ _ _ _ _ _ _ _ _ _ _ _ _ _ _ _ _ _ _ _ _ _ _ _ _ _ _ _ _ _ _ _ _ _ _ _ _ _ _ _ _ _ _ _ _ _ _ _ _ _ _ _ _ _ _ _ _ _ _ _ _ _ _ _ _ _ _ _ _ _ _ _ _ _ _ _ _ _ _ _ _ _ _ _ _ _ _ _ _ _ _ 11 _ rfl (by simp [stepI, -List.getD_eq_getElem?_getD, ← HVA.out]; omega) ⟨_, setRow_heap _ _ _ _ _ _ HZo.out⟩ (bRowS (by have := HBK.out.lo; omega) HA8.out.bel)
    · have h2I : ¬ va ≥ i := h2
      go_wp2_with fail
      all_goals refine Met.intro ?_
      all_goals apply hJ
      all_goals exact ⟨s, sh, false, (-1), 0, _, _, false, rfl, rfl, rfl, HA8.out, rfl, rfl, rfl, ((by simp [stepI, -List.getD_eq_getElem?_getD, ← HVA.out]; omega : stepI lk 25 a b c i s sh inp = .ok ({ s with pc := s.pc + 1 }, sh, false, -1, 0)).trans (by rw [HPC.out]; rfl))⟩

set_option maxHeartbeats 3200000 in
set_option maxRecDepth 100000 in
theorem sw_18 {C : Code} (hC : C = swC) {w w8 : World} {bi bs br bo bn : Nat} {s : St} {sh : List Int} {px pm : Option Addr} {cx cm : Nat} {lk : Int} {a b c : Nat} {i inp : Int} {pc : Nat} {va vb vc : Int} {u0 u1 u2 u6 u8 u9 u12 u14 u23 u24 u25 u26 u27 u28 u29 u30 u31 u32 u33 u34 u35 u36 u37 u38 u39 u40 u41 u42 u43 u44 u45 u46 u47 u48 u49 u50 u51 u52 u53 u54 u55 u56 u57 u58 u59 u60 u61 u62 u63 u64 u65 u66 u67 u68 u69 u70 u71 u72 u73 u74 u75 u76 u77 u78 u79 u80 u81 u82 u83 u84 u85 u86 u87 u88 u89 u90 u91 u92 u93 u94 u95 u96 u97 u98 u99 u100 u101 u102 u103 u104 u105 u106 u107 u108 u109 u110 u111 u112 u113 u114 u115 u116 u117 u118 u119 u120 u121 u122 u123 u124 u125 u126 u127 u128 u129 u130 u131 u132 u133 u134 u135 u136 u137 u138 u139 u140 u141 u142 u143 u144 u145 u146 u147 u148 u149 u150 u151 u152 u153 u154 u155 u156 u157 u158 u159 u160 u161 u162 u163 u164 u165 u166 u167 u168 u169 u170 u171 u172 u173 u174 u175 u176 u177 u178 u179 u180 u181 u182 u183 u184 u185 u186 u187 u188 u189 u190 u191 u192 u193 u194 u195 u196 u197 u198 u199 u200 u201 u202 u203 u204 u205 u206 u207 u208 u209 u210 u211 u212 u213 u214 u215 u216 u217 u218 u219 u220 u221 u222 u223 u224 u225 u226 u227 u228 u229 u230 u231 u232 u233 u234 u235 u236 u237 u238 u239 u240 u241 u242 u243 u244 u245 u246 u247 u248 u249 u250 u251 u252 u253 u254 u255 u256 u257 u258 u259 u260 u261 u262 u263 u264 u265 u266 u267 u268 u269 u270 u271 u272 u273 u274 u275 u276 u277 u278 u279 u280 u281 u282 u283 u284 u285 u286 u287 u288 u289 u290 u291 u292 u293 u294 u295 u296 u297 u298 u299 u300 u301 u302 u303 u304 u305 u306 u307 u308 u309 u310 u311 u312 u313 u314 u315 u316 u317 u318 u319 u320 u321 u322 u323 u324 u325 u326 u327 u328 u329 u330 u331 u332 u333 u334 u335 u336 u337 u338 u339 u340 u341 u342 u343 : Value} {J K' : Act → World → Prop} {Q' : Exit → Act → World → Prop} (hr16 : s.r.length = 16) (HA8 : Hid (SwAt w w8 bs br bo bn s (.slice px s.d.length cx) (.slice pm sh.length cm) sh (oL 18 a b c i false (-1) 0) [.int .u8 18, .int .i64 a, .int .i64 b, .int .i64 c, .int .i64 i])) (HBK : Hid (SwBk w.heap.size bs br bo bn (.slice px s.d.length cx) (.slice pm sh.length cm))) (HIM : Hid (bi < w8.heap.size ∧ w8.cell? ⟨bi, 3, none⟩ = some (.int .i64 lk)))
    (HPC : Hid (s.pc = pc)) (HVA : Hid (va = s.r.getD a 0)) (HVB : Hid (vb = s.r.getD b 0)) (HVC : Hid (vc = s.r.getD c 0)) (hpc : pc ≤ 140737488351232) (hva32 : W32 va) (hvb32 : W32 vb) (hvc32 : W32 vc) (hin : W32 inp) (hii0 : -131072 ≤ i) (hii1 : i ≤ 262143) (hdl : s.d.length ≤ 1000) (hsl : sh.length ≤ 1000)
    (hM : ∀ a' w', Met J a' w' → K' a' w') (hJ : HJp J w bi bs br bo bn s sh px pm cx cm lk 18 a b c i inp va vb vc u0 u1 u2 u6 u8 u9 u12 u14 u27 u28 u29 u30 u31 u32 u33 u34 u35 u36 u37 u38 u39 u40 u41 u42 u43 u44 u45 u46 u47 u48 u49 u50 u51 u52 u53 u54 u55 u56 u57 u58 u59 u60 u61 u62 u63 u64 u65 u66 u67 u68 u69 u70 u71 u72 u73 u74 u75 u76 u77 u78 u79 u80 u81 u82 u83 u84 u85 u86 u87 u88 u89 u90 u91 u92 u93 u94 u95 u96 u97 u98 u99 u100 u326 u327 u328 u329 u330 u331 u332 u333 u334 u335 u336 u337 u338 u339 u340 u341 u342 u343) (hR : HRp Q' w bi bs br bo bn s sh px pm cx cm lk 18 a b c i inp va vb vc u0 u1 u2 u6 u8 u9 u12 u14 u27 u28 u29 u30 u31 u32 u33 u34 u35 u36 u37 u38 u39 u40 u41 u42 u43 u44 u45 u46 u47 u48 u49 u50 u51 u52 u53 u54 u55 u56 u57 u58 u59 u60 u61 u62 u63 u64 u65 u66 u67 u68 u69 u70 u71 u72 u73 u74 u75 u76 u77 u78 u79 u80 u81 u82 u83 u84 u85 u86 u87 u88 u89 u90 u91 u92 u93 u94 u95 u96 u97 u98 u99 u100 u326 u327 u328 u329 u330 u331 u332 u333 u334 u335 u336 u337 u338 u339 u340 u341 u342 u343) :
    Code.wp Tryd.prog C (Exit.then K' Q') ⟨List.toArray (u0 :: u1 :: u2 :: (.slice pm sh.length cm) :: .int .i32 inp :: .pointer (some ⟨bi, 0, none⟩) :: u6 :: .pointer (some ⟨bs, 0, none⟩) :: u8 :: u9 :: .pointer (some ⟨br, 0, none⟩) :: .int .i64 0 :: u12 :: .pointer (some ⟨bn, 0, none⟩) :: u14 :: .pointer (some ⟨bo, 0, none⟩) :: .int .i64 ((pc : Int) + 1) :: .int .i32 va :: .int .i32 vb :: .int .i32 vc :: .int .i64 (vb + i) :: .bool false :: .int .i32 0 :: u23 :: u24 :: u25 :: u26 :: u27 :: u28 :: u29 :: u30 :: u31 :: u32 :: u33 :: u34 :: u35 :: u36 :: u37 :: u38 :: u39 :: u40 :: u41 :: u42 :: u43 :: u44 :: u45 :: u46 :: u47 :: u48 :: u49 :: u50 :: u51 :: u52 :: u53 :: u54 :: u55 :: u56 :: u57 :: u58 :: u59 :: u60 :: u61 :: u62 :: u63 :: u64 :: u65 :: u66 :: u67 :: u68 :: u69 :: u70 :: u71 :: u72 :: u73 :: u74 :: u75 :: u76 :: u77 :: u78 :: u79 :: u80 :: u81 :: u82 :: u83 :: u84 :: u85 :: u86 :: u87 :: u88 :: u89 :: u90 :: u91 :: u92 :: u93 :: u94 :: u95 :: u96 :: u97 :: u98 :: u99 :: u100 :: u101 :: u102 :: u103 :: u104 :: u105 :: u106 :: u107 :: u108 :: u109 :: u110 :: u111 :: u112 :: u113 :: u114 :: u115 :: u116 :: u117 :: u118 :: u119 :: u120 :: u121 :: u122 :: u123 :: u124 :: u125 :: u126 :: u127 :: u128 :: u129 :: u130 :: u131 :: u132 :: u133 :: u134 :: u135 :: u136 :: u137 :: u138 :: u139 :: u140 :: u141 :: u142 :: u143 :: u144 :: u145 :: u146 :: u147 :: u148 :: u149 :: u150 :: u151 :: u152 :: u153 :: u154 :: u155 :: u156 :: u157 :: u158 :: u159 :: u160 :: u161 :: u162 :: u163 :: u164 :: u165 :: u166 :: u167 :: u168 :: u169 :: u170 :: u171 :: u172 :: u173 :: u174 :: u175 :: u176 :: u177 :: u178 :: u179 :: u180 :: u181 :: u182 :: u183 :: u184 :: u185 :: u186 :: u187 :: u188 :: u189 :: u190 :: u191 :: u192 :: u193 :: u194 :: u195 :: u196 :: u197 :: u198 :: u199 :: u200 :: u201 :: u202 :: u203 :: u204 :: u205 :: u206 :: u207 :: u208 :: u209 :: u210 :: u211 :: u212 :: u213 :: u214 :: u215 :: u216 :: u217 :: u218 :: u219 :: u220 :: u221 :: u222 :: u223 :: u224 :: u225 :: u226 :: u227 :: u228 :: u229 :: u230 :: u231 :: u232 :: u233 :: u234 :: u235 :: u236 :: u237 :: u238 :: u239 :: u240 :: u241 :: u242 :: u243 :: u244 :: u245 :: u246 :: u247 :: u248 :: u249 :: u250 :: u251 :: u252 :: u253 :: u254 :: u255 :: u256 :: u257 :: u258 :: u259 :: u260 :: u261 :: u262 :: u263 :: u264 :: u265 :: u266 :: u267 :: u268 :: u269 :: u270 :: u271 :: u272 :: u273 :: u274 :: u275 :: u276 :: u277 :: u278 :: u279 :: u280 :: u281 :: u282 :: u283 :: u284 :: u285 :: u286 :: u287 :: u288 :: u289 :: u290 :: u291 :: u292 :: u293 :: u294 :: u295 :: u296 :: u297 :: u298 :: u299 :: u300 :: u301 :: u302 :: u303 :: u304 :: u305 :: u306 :: u307 :: u308 :: u309 :: u310 :: u311 :: u312 :: u313 :: u314 :: u315 :: u316 :: u317 :: u318 :: u319 :: u320 :: u321 :: u322 :: u323 :: u324 :: u325 :: u326 :: u327 :: u328 :: u329 :: u330 :: u331 :: u332 :: u333 :: u334 :: u335 :: u336 :: u337 :: u338 :: u339 :: u340 :: u341 :: u342 :: u343 :: []), []⟩ w8 := by
  subst hC
  unfold HJp at hJ
  unfold HRp at hR
  have x0 : w8.cell? ⟨bn, 0, none⟩ = some (.int .u8 18) := HA8.out.i.cell 0
  have x1 : w8.cell? ⟨bn, 1, none⟩ = some (.int .i64 a) := HA8.out.i.cell 1
  have x2 : w8.cell? ⟨bn, 2, none⟩ = some (.int .i64 b) := HA8.out.i.cell 2
  have x3 : w8.cell? ⟨bn, 3, none⟩ = some (.int .i64 c) := HA8.out.i.cell 3
  have x4 : w8.cell? ⟨bn, 4, none⟩ = some (.int .i64 i) := HA8.out.i.cell 4
  have hl7 := HA8.out.st.lt
  have hl13 := HA8.out.i.lt
  have hl15 := HA8.out.o.lt
  conv => arg 2; whnf
  obtain ⟨tR, hz⟩ := HA8.out.z
  have HZo := Lib.hid hz
  clear hz
  have o27 : w8.cell? ⟨bo, 27, none⟩ = some (.int .i64 (-1)) := HA8.out.o.cell 27
  have g27 : w8.frozen? ⟨bo, 27, none⟩ = false := HA8.out.o.frozen 27
  have HST : StAt w8 bs s (.slice px s.d.length cx) := ⟨hr16, HA8.out.st⟩
  have s17 : w8.cell? ⟨bs, 17, none⟩ = some (.slice px s.d.length cx) := HST.d
  have t17 : w8.frozen? ⟨bs, 17, none⟩ = false := HST.frozen 17
  clear HST
  by_cases h1 : vb + i < 0
  · have hse : stepI lk 18 a b c i s sh inp = .error 10 := by
      simp only [stepI]
      rw [← HVB.out]
      simp; omega
    have HSE := Lib.hid hse
    clear hse
    go_wp2_with (first | (refine wpList_store_row rfl 46 (.tmp 10) (.tmp 180) rfl br _ rfl rfl tR _ HZo.out info29h.out rfl zone29.out ?_; simp only [put_noS]))
    refine hR _ _ _ _ _ _ _ _ _ _ _ _ _ _ _ _ _ _ _ _ _ _ _ _ _ _ _ _ _ _ _ _ _ _ _ _ _ _ _ _ _ _ _ _ _ _ _ _ _ _ _ _ _ _ _ _ _ _ _ _ _ _ _ _ _ _ _ _ _ _ _ _ _ _ _ _ _ _ _ _ _ _ _ _ _ _ _ _ _ _ _ _ _ _ _ _ _ _ _ _ _ _ _ _ _ _ _ _ _ _ _ _ _ _ _ _ _ _ _ _ _ _ _ _ _ _ _ _ _ _ _ _ _ _ _ _ _ _ _ _ _ _ _ _ _ _ _ _ _ _ _ _ _ _ _ _ _ _ _ _ _ _ _ _ _ _ _ _ _ _ _ _ _ _ _ _ _ _ _ _ _ _ _ _ _ _ _ _ _ _ _ _ _ _ _ _ _ _ _ _ _ _ _ _ _ _ _ _ _ _ _ _ _ _ _ _ _ _ _ _ _ _ _ _ _ _ _ _ _ _ _ _ _ 10 _ rfl HSE.out ⟨_, setRow_heap _ _ _ _ _ _ HZo.out⟩ (bRowS (by have := HBK.out.lo; omega) HA8.out.bel)
  · by_cases h2 : vb + i ≥ s.d.length
    · have hse : stepI lk 18 a b c i s sh inp = .error 10 := by
        simp only [stepI]
        rw [← HVB.out]
        simp; omega
      have HSE := Lib.hid hse
      clear hse
      go_wp2_with (first | (refine wpList_store_row rfl 46 (.tmp 10) (.tmp 180) rfl br _ rfl rfl tR _ HZo.out info29h.out rfl zone29.out ?_; simp only [put_noS]))
      refine hR _ _ _ _ _ _ _ _ _ _ _ _ _ _ _ _ _ _ _ _ _ _ _ _ _ _ _ _ _ _ _ _ _ _ _ _ _ _ _ _ _ _ _ _ _ _ _ _ _ _ _ _ _ _ _ _ _ _ _ _ _ _ _ _ _ _ _ _ _ _ _ _ _ _ _ _ _ _ _ _ _ _ _ _ _ _ _ _ _ _ _ _ _ _ _ _ _ _ _ _ _ _ _ _ _ _ _ _ _ _ _ _ _ _ _ _ _ _ _ _ _ _ _ _ _ _ _ _ _ _ _ _ _ _ _ _ _ _ _ _ _ _ _ _ _ _ _ _ _ _ _ _ _ _ _ _ _ _ _ _ _ _ _ _ _ _ _ _ _ _ _ _ _ _ _ _ _ _ _ _ _ _ _ _ _ _ _ _ _ _ _ _ _ _ _ _ _ _ _ _ _ _ _ _ _ _ _ _ _ _ _ _ _ _ _ _ _ _ _ _ _ _ _ _ _ _ _ _ _ _ _ _ _ 10 _ rfl HSE.out ⟨_, setRow_heap _ _ _ _ _ _ HZo.out⟩ (bRowS (by have := HBK.out.lo; omega) HA8.out.bel)
    · obtain ⟨k, hk⟩ := Int.eq_ofNat_of_zero_le (show 0 ≤ vb + i by omega)
      have hkl : k < s.d.length := by omega
      have hkI : ¬ (k : Int) ≥ s.d.length := by omega
      have hkn : ¬ (k : Int) < 0 := by omega
      obtain ⟨vv, hvv⟩ : ∃ v, v = s.d.getD k 0 := ⟨_, rfl⟩
      have HSE := Lib.hid (show stepI lk 18 a b c i s sh inp = .ok ({ s with pc := s.pc + 1, r := if a = 0 then s.r else s.r.set a vv }, sh, false, (k : Int), 0) by
        simp only [stepI]
        rw [← HVB.out, hk]
        rw [hvv]; simp [hkl, -List.getD_eq_getElem?_getD])
      rw [hk] at hJ hR ⊢
      clear hR h1 h2
      obtain ⟨q, off, cap, e0, hq, hqc, hqf, hset⟩ := HA8.out.d.at k hkl
      rw [← hvv] at hqc
      clear hvv
      injection e0 with e0a _ e0c
      subst e0a e0c
      have HSET := Lib.hid hset
      have hqo : q ≠ bo := (HBK.out.x q rfl).2.2.1
      have hqo2 : bo ≠ q := fun e => hqo e.symm
      clear hset
      have HX := Lib.hid ((HA8.out.setO HBK.out 27 (.int .i64 (k : Int))))
      go_upto_region 33 with fail
      go_region
      all_goals (
        go_wp2_with fail
        all_goals refine Met.intro ?_
        all_goals apply hJ
        all_goals exact ⟨s, sh, false, (k : Int), 0, _, _, true, rfl, rfl, rfl, (HX.out.below (by first | exact Below.drew (Below.refl _ _) | exact bDrewN (Below.refl _ _))), rfl, rfl, rfl, (HSE.out.trans (by rw [HPC.out]; rfl))⟩)

set_option maxHeartbeats 3200000 in
set_option maxRecDepth 100000 in
theorem sw_19 {C : Code} (hC : C = swC) {w w8 : World} {bi bs br bo bn : Nat} {s : St} {sh : List Int} {px pm : Option Addr} {cx cm : Nat} {lk : Int} {a b c : Nat} {i inp : Int} {pc : Nat} {va vb vc : Int} {u0 u1 u2 u6 u8 u9 u12 u14 u23 u24 u25 u26 u27 u28 u29 u30 u31 u32 u33 u34 u35 u36 u37 u38 u39 u40 u41 u42 u43 u44 u45 u46 u47 u48 u49 u50 u51 u52 u53 u54 u55 u56 u57 u58 u59 u60 u61 u62 u63 u64 u65 u66 u67 u68 u69 u70 u71 u72 u73 u74 u75 u76 u77 u78 u79 u80 u81 u82 u83 u84 u85 u86 u87 u88 u89 u90 u91 u92 u93 u94 u95 u96 u97 u98 u99 u100 u101 u102 u103 u104 u105 u106 u107 u108 u109 u110 u111 u112 u113 u114 u115 u116 u117 u118 u119 u120 u121 u122 u123 u124 u125 u126 u127 u128 u129 u130 u131 u132 u133 u134 u135 u136 u137 u138 u139 u140 u141 u142 u143 u144 u145 u146 u147 u148 u149 u150 u151 u152 u153 u154 u155 u156 u157 u158 u159 u160 u161 u162 u163 u164 u165 u166 u167 u168 u169 u170 u171 u172 u173 u174 u175 u176 u177 u178 u179 u180 u181 u182 u183 u184 u185 u186 u187 u188 u189 u190 u191 u192 u193 u194 u195 u196 u197 u198 u199 u200 u201 u202 u203 u204 u205 u206 u207 u208 u209 u210 u211 u212 u213 u214 u215 u216 u217 u218 u219 u220 u221 u222 u223 u224 u225 u226 u227 u228 u229 u230 u231 u232 u233 u234 u235 u236 u237 u238 u239 u240 u241 u242 u243 u244 u245 u246 u247 u248 u249 u250 u251 u252 u253 u254 u255 u256 u257 u258 u259 u260 u261 u262 u263 u264 u265 u266 u267 u268 u269 u270 u271 u272 u273 u274 u275 u276 u277 u278 u279 u280 u281 u282 u283 u284 u285 u286 u287 u288 u289 u290 u291 u292 u293 u294 u295 u296 u297 u298 u299 u300 u301 u302 u303 u304 u305 u306 u307 u308 u309 u310 u311 u312 u313 u314 u315 u316 u317 u318 u319 u320 u321 u322 u323 u324 u325 u326 u327 u328 u329 u330 u331 u332 u333 u334 u335 u336 u337 u338 u339 u340 u341 u342 u343 : Value} {J K' : Act → World → Prop} {Q' : Exit → Act → World → Prop} (hr16 : s.r.length = 16) (HA8 : Hid (SwAt w w8 bs br bo bn s (.slice px s.d.length cx) (.slice pm sh.length cm) sh (oL 19 a b c i false (-1) 0) [.int .u8 19, .int .i64 a, .int .i64 b, .int .i64 c, .int .i64 i])) (HBK : Hid (SwBk w.heap.size bs br bo bn (.slice px s.d.length cx) (.slice pm sh.length cm))) (HIM : Hid (bi < w8.heap.size ∧ w8.cell? ⟨bi, 3, none⟩ = some (.int .i64 lk)))
    (HPC : Hid (s.pc = pc)) (HVA : Hid (va = s.r.getD a 0)) (HVB : Hid (vb = s.r.getD b 0)) (HVC : Hid (vc = s.r.getD c 0)) (hpc : pc ≤ 140737488351232) (hva32 : W32 va) (hvb32 : W32 vb) (hvc32 : W32 vc) (hin : W32 inp) (hii0 : -131072 ≤ i) (hii1 : i ≤ 262143) (hdl : s.d.length ≤ 1000) (hsl : sh.length ≤ 1000)
    (hM : ∀ a' w', Met J a' w' → K' a' w') (hJ : HJp J w bi bs br bo bn s sh px pm cx cm lk 19 a b c i inp va vb vc u0 u1 u2 u6 u8 u9 u12 u14 u27 u28 u29 u30 u31 u32 u33 u34 u35 u36 u37 u38 u39 u40 u41 u42 u43 u44 u45 u46 u47 u48 u49 u50 u51 u52 u53 u54 u55 u56 u57 u58 u59 u60 u61 u62 u63 u64 u65 u66 u67 u68 u69 u70 u71 u72 u73 u74 u75 u76 u77 u78 u79 u80 u81 u82 u83 u84 u85 u86 u87 u88 u89 u90 u91 u92 u93 u94 u95 u96 u97 u98 u99 u100 u326 u327 u328 u329 u330 u331 u332 u333 u334 u335 u336 u337 u338 u339 u340 u341 u342 u343) (hR : HRp Q' w bi bs br bo bn s sh px pm cx cm lk 19 a b c i inp va vb vc u0 u1 u2 u6 u8 u9 u12 u14 u27 u28 u29 u30 u31 u32 u33 u34 u35 u36 u37 u38 u39 u40 u41 u42 u43 u44 u45 u46 u47 u48 u49 u50 u51 u52 u53 u54 u55 u56 u57 u58 u59 u60 u61 u62 u63 u64 u65 u66 u67 u68 u69 u70 u71 u72 u73 u74 u75 u76 u77 u78 u79 u80 u81 u82 u83 u84 u85 u86 u87 u88 u89 u90 u91 u92 u93 u94 u95 u96 u97 u98 u99 u100 u326 u327 u328 u329 u330 u331 u332 u333 u334 u335 u336 u337 u338 u339 u340 u341 u342 u343) :
    Code.wp Tryd.prog C (Exit.then K' Q') ⟨List.toArray (u0 :: u1 :: u2 :: (.slice pm sh.length cm) :: .int .i32 inp :: .pointer (some ⟨bi, 0, none⟩) :: u6 :: .pointer (some ⟨bs, 0, none⟩) :: u8 :: u9 :: .pointer (some ⟨br, 0, none⟩) :: .int .i64 0 :: u12 :: .pointer (some ⟨bn, 0, none⟩) :: u14 :: .pointer (some ⟨bo, 0, none⟩) :: .int .i64 ((pc : Int) + 1) :: .int .i32 va :: .int .i32 vb :: .int .i32 vc :: .int .i64 (vb + i) :: .bool false :: .int .i32 0 :: u23 :: u24 :: u25 :: u26 :: u27 :: u28 :: u29 :: u30 :: u31 :: u32 :: u33 :: u34 :: u35 :: u36 :: u37 :: u38 :: u39 :: u40 :: u41 :: u42 :: u43 :: u44 :: u45 :: u46 :: u47 :: u48 :: u49 :: u50 :: u51 :: u52 :: u53 :: u54 :: u55 :: u56 :: u57 :: u58 :: u59 :: u60 :: u61 :: u62 :: u63 :: u64 :: u65 :: u66 :: u67 :: u68 :: u69 :: u70 :: u71 :: u72 :: u73 :: u74 :: u75 :: u76 :: u77 :: u78 :: u79 :: u80 :: u81 :: u82 :: u83 :: u84 :: u85 :: u86 :: u87 :: u88 :: u89 :: u90 :: u91 :: u92 :: u93 :: u94 :: u95 :: u96 :: u97 :: u98 :: u99 :: u100 :: u101 :: u102 :: u103 :: u104 :: u105 :: u106 :: u107 :: u108 :: u109 :: u110 :: u111 :: u112 :: u113 :: u114 :: u115 :: u116 :: u117 :: u118 :: u119 :: u120 :: u121 :: u122 :: u123 :: u124 :: u125 :: u126 :: u127 :: u128 :: u129 :: u130 :: u131 :: u132 :: u133 :: u134 :: u135 :: u136 :: u137 :: u138 :: u139 :: u140 :: u141 :: u142 :: u143 :: u144 :: u145 :: u146 :: u147 :: u148 :: u149 :: u150 :: u151 :: u152 :: u153 :: u154 :: u155 :: u156 :: u157 :: u158 :: u159 :: u160 :: u161 :: u162 :: u163 :: u164 :: u165 :: u166 :: u167 :: u168 :: u169 :: u170 :: u171 :: u172 :: u173 :: u174 :: u175 :: u176 :: u177 :: u178 :: u179 :: u180 :: u181 :: u182 :: u183 :: u184 :: u185 :: u186 :: u187 :: u188 :: u189 :: u190 :: u191 :: u192 :: u193 :: u194 :: u195 :: u196 :: u197 :: u198 :: u199 :: u200 :: u201 :: u202 :: u203 :: u204 :: u205 :: u206 :: u207 :: u208 :: u209 :: u210 :: u211 :: u212 :: u213 :: u214 :: u215 :: u216 :: u217 :: u218 :: u219 :: u220 :: u221 :: u222 :: u223 :: u224 :: u225 :: u226 :: u227 :: u228 :: u229 :: u230 :: u231 :: u232 :: u233 :: u234 :: u235 :: u236 :: u237 :: u238 :: u239 :: u240 :: u241 :: u242 :: u243 :: u244 :: u245 :: u246 :: u247 :: u248 :: u249 :: u250 :: u251 :: u252 :: u253 :: u254 :: u255 :: u256 :: u257 :: u258 :: u259 :: u260 :: u261 :: u262 :: u263 :: u264 :: u265 :: u266 :: u267 :: u268 :: u269 :: u270 :: u271 :: u272 :: u273 :: u274 :: u275 :: u276 :: u277 :: u278 :: u279 :: u280 :: u281 :: u282 :: u283 :: u284 :: u285 :: u286 :: u287 :: u288 :: u289 :: u290 :: u291 :: u292 :: u293 :: u294 :: u295 :: u296 :: u297 :: u298 :: u299 :: u300 :: u301 :: u302 :: u303 :: u304 :: u305 :: u306 :: u307 :: u308 :: u309 :: u310 :: u311 :: u312 :: u313 :: u314 :: u315 :: u316 :: u317 :: u318 :: u319 :: u320 :: u321 :: u322 :: u323 :: u324 :: u325 :: u326 :: u327 :: u328 :: u329 :: u330 :: u331 :: u332 :: u333 :: u334 :: u335 :: u336 :: u337 :: u338 :: u339 :: u340 :: u341 :: u342 :: u343 :: []), []⟩ w8 := by
  subst hC
  unfold HJp at hJ
  unfold HRp at hR
  have x0 : w8.cell? ⟨bn, 0, none⟩ = some (.int .u8 19) := HA8.out.i.cell 0
  have x1 : w8.cell? ⟨bn, 1, none⟩ = some (.int .i64 a) := HA8.out.i.cell 1
  have x2 : w8.cell? ⟨bn, 2, none⟩ = some (.int .i64 b) := HA8.out.i.cell 2
  have x3 : w8.cell? ⟨bn, 3, none⟩ = some (.int .i64 c) := HA8.out.i.cell 3
  have x4 : w8.cell? ⟨bn, 4, none⟩ = some (.int .i64 i) := HA8.out.i.cell 4
  have hl7 := HA8.out.st.lt
  have hl13 := HA8.out.i.lt
  have hl15 := HA8.out.o.lt
  conv => arg 2; whnf
  obtain ⟨tR, hz⟩ := HA8.out.z
  have HZo := Lib.hid hz
  clear hz
  have o27 : w8.cell? ⟨bo, 27, none⟩ = some (.int .i64 (-1)) := HA8.out.o.cell 27
  have g27 : w8.frozen? ⟨bo, 27, none⟩ = false := HA8.out.o.frozen 27
  have HST : StAt w8 bs s (.slice px s.d.length cx) := ⟨hr16, HA8.out.st⟩
  have s17 : w8.cell? ⟨bs, 17, none⟩ = some (.slice px s.d.length cx) := HST.d
  have t17 : w8.frozen? ⟨bs, 17, none⟩ = false := HST.frozen 17
  clear HST
  by_cases h1 : vb + i < 0
  · have hse : stepI lk 19 a b c i s sh inp = .error 10 := by
      simp only [stepI]
      rw [← HVB.out]
      simp; omega
    have HSE := Lib.hid hse
    clear hse
    go_wp2_with (first | (refine wpList_store_row rfl 46 (.tmp 10) (.tmp 180) rfl br _ rfl rfl tR _ HZo.out info29h.out rfl zone29.out ?_; simp only [put_noS]))
    refine hR _ _ _ _ _ _ _ _ _ _ _ _ _ _ _ _ _ _ _ _ _ _ _ _ _ _ _ _ _ _ _ _ _ _ _ _ _ _ _ _ _ _ _ _ _ _ _ _ _ _ _ _ _ _ _ _ _ _ _ _ _ _ _ _ _ _ _ _ _ _ _ _ _ _ _ _ _ _ _ _ _ _ _ _ _ _ _ _ _ _ _ _ _ _ _ _ _ _ _ _ _ _ _ _ _ _ _ _ _ _ _ _ _ _ _ _ _ _ _ _ _ _ _ _ _ _ _ _ _ _ _ _ _ _ _ _ _ _ _ _ _ _ _ _ _ _ _ _ _ _ _ _ _ _ _ _ _ _ _ _ _ _ _ _ _ _ _ _ _ _ _ _ _ _ _ _ _ _ _ _ _ _ _ _ _ _ _ _ _ _ _ _ _ _ _ _ _ _ _ _ _ _ _ _ _ _ _ _ _ _ _ _ _ _ _ _ _ _ _ _ _ _ _ _ _ _ _ _ _ _ _ _ _ 10 _ rfl HSE.out ⟨_, setRow_heap _ _ _ _ _ _ HZo.out⟩ (bRowS (by have := HBK.out.lo; omega) HA8.out.bel)
  · by_cases h2 : vb + i ≥ s.d.length
    · have hse : stepI lk 19 a b c i s sh inp = .error 10 := by
        simp only [stepI]
        rw [← HVB.out]
        simp; omega
      have HSE := Lib.hid hse
      clear hse
      go_wp2_with (first | (refine wpList_store_row rfl 46 (.tmp 10) (.tmp 180) rfl br _ rfl rfl tR _ HZo.out info29h.out rfl zone29.out ?_; simp only [put_noS]))
      refine hR _ _ _ _ _ _ _ _ _ _ _ _ _ _ _ _ _ _ _ _ _ _ _ _ _ _ _ _ _ _ _ _ _ _ _ _ _ _ _ _ _ _ _ _ _ _ _ _ _ _ _ _ _ _ _ _ _ _ _ _ _ _ _ _ _ _ _ _ _ _ _ _ _ _ _ _ _ _ _ _ _ _ _ _ _ _ _ _ _ _ _ _ _ _ _ _ _ _ _ _ _ _ _ _ _ _ _ _ _ _ _ _ _ _ _ _ _ _ _ _ _ _ _ _ _ _ _ _ _ _ _ _ _ _ _ _ _ _ _ _ _ _ _ _ _ _ _ _ _ _ _ _ _ _ _ _ _ _ _ _ _ _ _ _ _ _ _ _ _ _ _ _ _ _ _ _ _ _ _ _ _ _ _ _ _ _ _ _ _ _ _ _ _ _ _ _ _ _ _ _ _ _ _ _ _ _ _ _ _ _ _ _ _ _ _ _ _ _ _ _ _ _ _ _ _ _ _ _ _ _ _ _ _ 10 _ rfl HSE.out ⟨_, setRow_heap _ _ _ _ _ _ HZo.out⟩ (bRowS (by have := HBK.out.lo; omega) HA8.out.bel)
    · obtain ⟨k, hk⟩ := Int.eq_ofNat_of_zero_le (show 0 ≤ vb + i by omega)
      have hkl : k < s.d.length := by omega
      have hkI : ¬ (k : Int) ≥ s.d.length := by omega
      have hkn : ¬ (k : Int) < 0 := by omega
      have HSE := Lib.hid (show stepI lk 19 a b c i s sh inp = .ok ({ s with pc := s.pc + 1, d := s.d.set k (s.r.getD a 0) }, sh, false, (k : Int), 0) by
        simp only [stepI]
        rw [← HVB.out, hk]
        simp [hkl, -List.getD_eq_getElem?_getD])
      rw [hk] at hJ hR ⊢
      clear hR h1 h2
      obtain ⟨q, off, cap, e0, hq, hqc, hqf, hset⟩ := HA8.out.d.at k hkl
      skip
      skip
      injection e0 with e0a _ e0c
      subst e0a e0c
      have HSET := Lib.hid hset
      have hqo : q ≠ bo := (HBK.out.x q rfl).2.2.1
      have hqo2 : bo ≠ q := fun e => hqo e.symm
      clear hset
      have HX := Lib.hid (HA8.out.setO HBK.out 27 (.int .i64 (k : Int)))
      obtain ⟨q', off', cap', e1, _, _, _, hset2⟩ := HX.out.d.at k hkl
      injection e1 with e1a _ e1z
      subst e1z
      injection e1a with e1b
      injection e1b with e1c e1d
      subst e1c e1d
      have HS2 := Lib.hid (HX.out.setD HBK.out rfl (hset2 va))
      clear hset2
      go_wp2_with fail
      all_goals refine Met.intro ?_
      all_goals apply hJ
      all_goals exact ⟨{ s with d := s.d.set k va }, sh, false, (k : Int), 0, _, _, false, rfl, rfl, rfl, HS2.out, rfl, (by simp), rfl, (HSE.out.trans (by rw [HPC.out, ← HVA.out]; rfl))⟩

set_option maxHeartbeats 3200000 in
set_option maxRecDepth 100000 in
theorem sw_20 {C : Code} (hC : C = swC) {w w8 : World} {bi bs br bo bn : Nat} {s : St} {sh : List Int} {px pm : Option Addr} {cx cm : Nat} {lk : Int} {a b c : Nat} {i inp : Int} {pc : Nat} {va vb vc : Int} {u0 u1 u2 u6 u8 u9 u12 u14 u23 u24 u25 u26 u27 u28 u29 u30 u31 u32 u33 u34 u35 u36 u37 u38 u39 u40 u41 u42 u43 u44 u45 u46 u47 u48 u49 u50 u51 u52 u53 u54 u55 u56 u57 u58 u59 u60 u61 u62 u63 u64 u65 u66 u67 u68 u69 u70 u71 u72 u73 u74 u75 u76 u77 u78 u79 u80 u81 u82 u83 u84 u85 u86 u87 u88 u89 u90 u91 u92 u93 u94 u95 u96 u97 u98 u99 u100 u101 u102 u103 u104 u105 u106 u107 u108 u109 u110 u111 u112 u113 u114 u115 u116 u117 u118 u119 u120 u121 u122 u123 u124 u125 u126 u127 u128 u129 u130 u131 u132 u133 u134 u135 u136 u137 u138 u139 u140 u141 u142 u143 u144 u145 u146 u147 u148 u149 u150 u151 u152 u153 u154 u155 u156 u157 u158 u159 u160 u161 u162 u163 u164 u165 u166 u167 u168 u169 u170 u171 u172 u173 u174 u175 u176 u177 u178 u179 u180 u181 u182 u183 u184 u185 u186 u187 u188 u189 u190 u191 u192 u193 u194 u195 u196 u197 u198 u199 u200 u201 u202 u203 u204 u205 u206 u207 u208 u209 u210 u211 u212 u213 u214 u215 u216 u217 u218 u219 u220 u221 u222 u223 u224 u225 u226 u227 u228 u229 u230 u231 u232 u233 u234 u235 u236 u237 u238 u239 u240 u241 u242 u243 u244 u245 u246 u247 u248 u249 u250 u251 u252 u253 u254 u255 u256 u257 u258 u259 u260 u261 u262 u263 u264 u265 u266 u267 u268 u269 u270 u271 u272 u273 u274 u275 u276 u277 u278 u279 u280 u281 u282 u283 u284 u285 u286 u287 u288 u289 u290 u291 u292 u293 u294 u295 u296 u297 u298 u299 u300 u301 u302 u303 u304 u305 u306 u307 u308 u309 u310 u311 u312 u313 u314 u315 u316 u317 u318 u319 u320 u321 u322 u323 u324 u325 u326 u327 u328 u329 u330 u331 u332 u333 u334 u335 u336 u337 u338 u339 u340 u341 u342 u343 : Value} {J K' : Act → World → Prop} {Q' : Exit → Act → World → Prop} (HA8 : Hid (SwAt w w8 bs br bo bn s (.slice px s.d.length cx) (.slice pm sh.length cm) sh (oL 20 a b c i false (-1) 0) [.int .u8 20, .int .i64 a, .int .i64 b, .int .i64 c, .int .i64 i])) (HBK : Hid (SwBk w.heap.size bs br bo bn (.slice px s.d.length cx) (.slice pm sh.length cm))) (HIM : Hid (bi < w8.heap.size ∧ w8.cell? ⟨bi, 3, none⟩ = some (.int .i64 lk)))
    (HPC : Hid (s.pc = pc)) (HVA : Hid (va = s.r.getD a 0)) (HVB : Hid (vb = s.r.getD b 0)) (HVC : Hid (vc = s.r.getD c 0)) (hpc : pc ≤ 140737488351232) (hva32 : W32 va) (hvb32 : W32 vb) (hvc32 : W32 vc) (hin : W32 inp) (hii0 : -131072 ≤ i) (hii1 : i ≤ 262143) (hdl : s.d.length ≤ 1000) (hsl : sh.length ≤ 1000)
    (hM : ∀ a' w', Met J a' w' → K' a' w') (hJ : HJp J w bi bs br bo bn s sh px pm cx cm lk 20 a b c i inp va vb vc u0 u1 u2 u6 u8 u9 u12 u14 u27 u28 u29 u30 u31 u32 u33 u34 u35 u36 u37 u38 u39 u40 u41 u42 u43 u44 u45 u46 u47 u48 u49 u50 u51 u52 u53 u54 u55 u56 u57 u58 u59 u60 u61 u62 u63 u64 u65 u66 u67 u68 u69 u70 u71 u72 u73 u74 u75 u76 u77 u78 u79 u80 u81 u82 u83 u84 u85 u86 u87 u88 u89 u90 u91 u92 u93 u94 u95 u96 u97 u98 u99 u100 u326 u327 u328 u329 u330 u331 u332 u333 u334 u335 u336 u337 u338 u339 u340 u341 u342 u343) (hR : HRp Q' w bi bs br bo bn s sh px pm cx cm lk 20 a b c i inp va vb vc u0 u1 u2 u6 u8 u9 u12 u14 u27 u28 u29 u30 u31 u32 u33 u34 u35 u36 u37 u38 u39 u40 u41 u42 u43 u44 u45 u46 u47 u48 u49 u50 u51 u52 u53 u54 u55 u56 u57 u58 u59 u60 u61 u62 u63 u64 u65 u66 u67 u68 u69 u70 u71 u72 u73 u74 u75 u76 u77 u78 u79 u80 u81 u82 u83 u84 u85 u86 u87 u88 u89 u90 u91 u92 u93 u94 u95 u96 u97 u98 u99 u100 u326 u327 u328 u329 u330 u331 u332 u333 u334 u335 u336 u337 u338 u339 u340 u341 u342 u343) :
    Code.wp Tryd.prog C (Exit.then K' Q') ⟨List.toArray (u0 :: u1 :: u2 :: (.slice pm sh.length cm) :: .int .i32 inp :: .pointer (some ⟨bi, 0, none⟩) :: u6 :: .pointer (some ⟨bs, 0, none⟩) :: u8 :: u9 :: .pointer (some ⟨br, 0, none⟩) :: .int .i64 0 :: u12 :: .pointer (some ⟨bn, 0, none⟩) :: u14 :: .pointer (some ⟨bo, 0, none⟩) :: .int .i64 ((pc : Int) + 1) :: .int .i32 va :: .int .i32 vb :: .int .i32 vc :: .int .i64 (vb + i) :: .bool false :: .int .i32 0 :: u23 :: u24 :: u25 :: u26 :: u27 :: u28 :: u29 :: u30 :: u31 :: u32 :: u33 :: u34 :: u35 :: u36 :: u37 :: u38 :: u39 :: u40 :: u41 :: u42 :: u43 :: u44 :: u45 :: u46 :: u47 :: u48 :: u49 :: u50 :: u51 :: u52 :: u53 :: u54 :: u55 :: u56 :: u57 :: u58 :: u59 :: u60 :: u61 :: u62 :: u63 :: u64 :: u65 :: u66 :: u67 :: u68 :: u69 :: u70 :: u71 :: u72 :: u73 :: u74 :: u75 :: u76 :: u77 :: u78 :: u79 :: u80 :: u81 :: u82 :: u83 :: u84 :: u85 :: u86 :: u87 :: u88 :: u89 :: u90 :: u91 :: u92 :: u93 :: u94 :: u95 :: u96 :: u97 :: u98 :: u99 :: u100 :: u101 :: u102 :: u103 :: u104 :: u105 :: u106 :: u107 :: u108 :: u109 :: u110 :: u111 :: u112 :: u113 :: u114 :: u115 :: u116 :: u117 :: u118 :: u119 :: u120 :: u121 :: u122 :: u123 :: u124 :: u125 :: u126 :: u127 :: u128 :: u129 :: u130 :: u131 :: u132 :: u133 :: u134 :: u135 :: u136 :: u137 :: u138 :: u139 :: u140 :: u141 :: u142 :: u143 :: u144 :: u145 :: u146 :: u147 :: u148 :: u149 :: u150 :: u151 :: u152 :: u153 :: u154 :: u155 :: u156 :: u157 :: u158 :: u159 :: u160 :: u161 :: u162 :: u163 :: u164 :: u165 :: u166 :: u167 :: u168 :: u169 :: u170 :: u171 :: u172 :: u173 :: u174 :: u175 :: u176 :: u177 :: u178 :: u179 :: u180 :: u181 :: u182 :: u183 :: u184 :: u185 :: u186 :: u187 :: u188 :: u189 :: u190 :: u191 :: u192 :: u193 :: u194 :: u195 :: u196 :: u197 :: u198 :: u199 :: u200 :: u201 :: u202 :: u203 :: u204 :: u205 :: u206 :: u207 :: u208 :: u209 :: u210 :: u211 :: u212 :: u213 :: u214 :: u215 :: u216 :: u217 :: u218 :: u219 :: u220 :: u221 :: u222 :: u223 :: u224 :: u225 :: u226 :: u227 :: u228 :: u229 :: u230 :: u231 :: u232 :: u233 :: u234 :: u235 :: u236 :: u237 :: u238 :: u239 :: u240 :: u241 :: u242 :: u243 :: u244 :: u245 :: u246 :: u247 :: u248 :: u249 :: u250 :: u251 :: u252 :: u253 :: u254 :: u255 :: u256 :: u257 :: u258 :: u259 :: u260 :: u261 :: u262 :: u263 :: u264 :: u265 :: u266 :: u267 :: u268 :: u269 :: u270 :: u271 :: u272 :: u273 :: u274 :: u275 :: u276 :: u277 :: u278 :: u279 :: u280 :: u281 :: u282 :: u283 :: u284 :: u285 :: u286 :: u287 :: u288 :: u289 :: u290 :: u291 :: u292 :: u293 :: u294 :: u295 :: u296 :: u297 :: u298 :: u299 :: u300 :: u301 :: u302 :: u303 :: u304 :: u305 :: u306 :: u307 :: u308 :: u309 :: u310 :: u311 :: u312 :: u313 :: u314 :: u315 :: u316 :: u317 :: u318 :: u319 :: u320 :: u321 :: u322 :: u323 :: u324 :: u325 :: u326 :: u327 :: u328 :: u329 :: u330 :: u331 :: u332 :: u333 :: u334 :: u335 :: u336 :: u337 :: u338 :: u339 :: u340 :: u341 :: u342 :: u343 :: []), []⟩ w8 := by
  subst hC
  unfold HJp at hJ
  unfold HRp at hR
  have x0 : w8.cell? ⟨bn, 0, none⟩ = some (.int .u8 20) := HA8.out.i.cell 0
  have x1 : w8.cell? ⟨bn, 1, none⟩ = some (.int .i64 a) := HA8.out.i.cell 1
  have x2 : w8.cell? ⟨bn, 2, none⟩ = some (.int .i64 b) := HA8.out.i.cell 2
  have x3 : w8.cell? ⟨bn, 3, none⟩ = some (.int .i64 c) := HA8.out.i.cell 3
  have x4 : w8.cell? ⟨bn, 4, none⟩ = some (.int .i64 i) := HA8.out.i.cell 4
  have hl7 := HA8.out.st.lt
  have hl13 := HA8.out.i.lt
  have hl15 := HA8.out.o.lt
  conv => arg 2; whnf
  obtain ⟨tR, hz⟩ := HA8.out.z
  have HZo := Lib.hid hz
  clear hz
  have o27 : w8.cell? ⟨bo, 27, none⟩ = some (.int .i64 (-1)) := HA8.out.o.cell 27
  have g27 : w8.frozen? ⟨bo, 27, none⟩ = false := HA8.out.o.frozen 27
  by_cases h1 : vb + i < 0
  · have hse : stepI lk 20 a b c i s sh inp = .error 10 := by
      simp only [stepI]
      rw [← HVB.out]
      simp; omega
    have HSE := Lib.hid hse
    clear hse
    go_wp2_with (first | (refine wpList_store_row rfl 46 (.tmp 10) (.tmp 213) rfl br _ rfl rfl tR _ HZo.out info29h.out rfl zone29.out ?_; simp only [put_noS]))
    refine hR _ _ _ _ _ _ _ _ _ _ _ _ _ _ _ _ _ _ _ _ _ _ _ _ _ _ _ _ _ _ _ _ _ _ _ _ _ _ _ _ _ _ _ _ _ _ _ _ _ _ _ _ _ _ _ _ _ _ _ _ _ _ _ _ _ _ _ _ _ _ _ _ _ _ _ _ _ _ _ _ _ _ _ _ _ _ _ _ _ _ _ _ _ _ _ _ _ _ _ _ _ _ _ _ _ _ _ _ _ _ _ _ _ _ _ _ _ _ _ _ _ _ _ _ _ _ _ _ _ _ _ _ _ _ _ _ _ _ _ _ _ _ _ _ _ _ _ _ _ _ _ _ _ _ _ _ _ _ _ _ _ _ _ _ _ _ _ _ _ _ _ _ _ _ _ _ _ _ _ _ _ _ _ _ _ _ _ _ _ _ _ _ _ _ _ _ _ _ _ _ _ _ _ _ _ _ _ _ _ _ _ _ _ _ _ _ _ _ _ _ _ _ _ _ _ _ _ _ _ _ _ _ _ 10 _ rfl HSE.out ⟨_, setRow_heap _ _ _ _ _ _ HZo.out⟩ (bRowS (by have := HBK.out.lo; omega) HA8.out.bel)
  · by_cases h2 : vb + i ≥ sh.length
    · have hse : stepI lk 20 a b c i s sh inp = .error 10 := by
        simp only [stepI]
        rw [← HVB.out]
        simp; omega
      have HSE := Lib.hid hse
      clear hse
      go_wp2_with (first | (refine wpList_store_row rfl 46 (.tmp 10) (.tmp 213) rfl br _ rfl rfl tR _ HZo.out info29h.out rfl zone29.out ?_; simp only [put_noS]))
      refine hR _ _ _ _ _ _ _ _ _ _ _ _ _ _ _ _ _ _ _ _ _ _ _ _ _ _ _ _ _ _ _ _ _ _ _ _ _ _ _ _ _ _ _ _ _ _ _ _ _ _ _ _ _ _ _ _ _ _ _ _ _ _ _ _ _ _ _ _ _ _ _ _ _ _ _ _ _ _ _ _ _ _ _ _ _ _ _ _ _ _ _ _ _ _ _ _ _ _ _ _ _ _ _ _ _ _ _ _ _ _ _ _ _ _ _ _ _ _ _ _ _ _ _ _ _ _ _ _ _ _ _ _ _ _ _ _ _ _ _ _ _ _ _ _ _ _ _ _ _ _ _ _ _ _ _ _ _ _ _ _ _ _ _ _ _ _ _ _ _ _ _ _ _ _ _ _ _ _ _ _ _ _ _ _ _ _ _ _ _ _ _ _ _ _ _ _ _ _ _ _ _ _ _ _ _ _ _ _ _ _ _ _ _ _ _ _ _ _ _ _ _ _ _ _ _ _ _ _ _ _ _ _ _ 10 _ rfl HSE.out ⟨_, setRow_heap _ _ _ _ _ _ HZo.out⟩ (bRowS (by have := HBK.out.lo; omega) HA8.out.bel)
    · obtain ⟨k, hk⟩ := Int.eq_ofNat_of_zero_le (show 0 ≤ vb + i by omega)
      have hkl : k < sh.length := by omega
      have hkI : ¬ (k : Int) ≥ sh.length := by omega
      have hkn : ¬ (k : Int) < 0 := by omega
      obtain ⟨vv, hvv⟩ : ∃ v, v = sh.getD k 0 := ⟨_, rfl⟩
      have HSE := Lib.hid (show stepI lk 20 a b c i s sh inp = .ok ({ s with pc := s.pc + 1, r := if a = 0 then s.r else s.r.set a vv }, sh, false, (k : Int), 0) by
        simp only [stepI]
        rw [← HVB.out, hk]
        rw [hvv]; simp [hkl, -List.getD_eq_getElem?_getD])
      rw [hk] at hJ hR ⊢
      clear hR h1 h2
      obtain ⟨q, off, cap, e0, hq, hqc, hqf, hset⟩ := HA8.out.m.at k hkl
      rw [← hvv] at hqc
      clear hvv
      injection e0 with e0a _ e0c
      subst e0a e0c
      have HSET := Lib.hid hset
      have hqo : q ≠ bo := (HBK.out.m q rfl).2.2.1
      have hqo2 : bo ≠ q := fun e => hqo e.symm
      clear hset
      have HX := Lib.hid ((HA8.out.setO HBK.out 27 (.int .i64 (k : Int))))
      go_upto_region 40 with fail
      go_region
      all_goals (
        go_wp2_with fail
        all_goals refine Met.intro ?_
        all_goals apply hJ
        all_goals exact ⟨s, sh, false, (k : Int), 0, _, _, true, rfl, rfl, rfl, (HX.out.below (by first | exact Below.drew (Below.refl _ _) | exact bDrewN (Below.refl _ _))), rfl, rfl, rfl, (HSE.out.trans (by rw [HPC.out]; rfl))⟩)

set_option maxHeartbeats 3200000 in
set_option maxRecDepth 100000 in
theorem sw_21 {C : Code} (hC : C = swC) {w w8 : World} {bi bs br bo bn : Nat} {s : St} {sh : List Int} {px pm : Option Addr} {cx cm : Nat} {lk : Int} {a b c : Nat} {i inp : Int} {pc : Nat} {va vb vc : Int} {u0 u1 u2 u6 u8 u9 u12 u14 u23 u24 u25 u26 u27 u28 u29 u30 u31 u32 u33 u34 u35 u36 u37 u38 u39 u40 u41 u42 u43 u44 u45 u46 u47 u48 u49 u50 u51 u52 u53 u54 u55 u56 u57 u58 u59 u60 u61 u62 u63 u64 u65 u66 u67 u68 u69 u70 u71 u72 u73 u74 u75 u76 u77 u78 u79 u80 u81 u82 u83 u84 u85 u86 u87 u88 u89 u90 u91 u92 u93 u94 u95 u96 u97 u98 u99 u100 u101 u102 u103 u104 u105 u106 u107 u108 u109 u110 u111 u112 u113 u114 u115 u116 u117 u118 u119 u120 u121 u122 u123 u124 u125 u126 u127 u128 u129 u130 u131 u132 u133 u134 u135 u136 u137 u138 u139 u140 u141 u142 u143 u144 u145 u146 u147 u148 u149 u150 u151 u152 u153 u154 u155 u156 u157 u158 u159 u160 u161 u162 u163 u164 u165 u166 u167 u168 u169 u170 u171 u172 u173 u174 u175 u176 u177 u178 u179 u180 u181 u182 u183 u184 u185 u186 u187 u188 u189 u190 u191 u192 u193 u194 u195 u196 u197 u198 u199 u200 u201 u202 u203 u204 u205 u206 u207 u208 u209 u210 u211 u212 u213 u214 u215 u216 u217 u218 u219 u220 u221 u222 u223 u224 u225 u226 u227 u228 u229 u230 u231 u232 u233 u234 u235 u236 u237 u238 u239 u240 u241 u242 u243 u244 u245 u246 u247 u248 u249 u250 u251 u252 u253 u254 u255 u256 u257 u258 u259 u260 u261 u262 u263 u264 u265 u266 u267 u268 u269 u270 u271 u272 u273 u274 u275 u276 u277 u278 u279 u280 u281 u282 u283 u284 u285 u286 u287 u288 u289 u290 u291 u292 u293 u294 u295 u296 u297 u298 u299 u300 u301 u302 u303 u304 u305 u306 u307 u308 u309 u310 u311 u312 u313 u314 u315 u316 u317 u318 u319 u320 u321 u322 u323 u324 u325 u326 u327 u328 u329 u330 u331 u332 u333 u334 u335 u336 u337 u338 u339 u340 u341 u342 u343 : Value} {J K' : Act → World → Prop} {Q' : Exit → Act → World → Prop} (HA8 : Hid (SwAt w w8 bs br bo bn s (.slice px s.d.length cx) (.slice pm sh.length cm) sh (oL 21 a b c i false (-1) 0) [.int .u8 21, .int .i64 a, .int .i64 b, .int .i64 c, .int .i64 i])) (HBK : Hid (SwBk w.heap.size bs br bo bn (.slice px s.d.length cx) (.slice pm sh.length cm))) (HIM : Hid (bi < w8.heap.size ∧ w8.cell? ⟨bi, 3, none⟩ = some (.int .i64 lk)))
    (HPC : Hid (s.pc = pc)) (HVA : Hid (va = s.r.getD a 0)) (HVB : Hid (vb = s.r.getD b 0)) (HVC : Hid (vc = s.r.getD c 0)) (hpc : pc ≤ 140737488351232) (hva32 : W32 va) (hvb32 : W32 vb) (hvc32 : W32 vc) (hin : W32 inp) (hii0 : -131072 ≤ i) (hii1 : i ≤ 262143) (hdl : s.d.length ≤ 1000) (hsl : sh.length ≤ 1000)
    (hM : ∀ a' w', Met J a' w' → K' a' w') (hJ : HJp J w bi bs br bo bn s sh px pm cx cm lk 21 a b c i inp va vb vc u0 u1 u2 u6 u8 u9 u12 u14 u27 u28 u29 u30 u31 u32 u33 u34 u35 u36 u37 u38 u39 u40 u41 u42 u43 u44 u45 u46 u47 u48 u49 u50 u51 u52 u53 u54 u55 u56 u57 u58 u59 u60 u61 u62 u63 u64 u65 u66 u67 u68 u69 u70 u71 u72 u73 u74 u75 u76 u77 u78 u79 u80 u81 u82 u83 u84 u85 u86 u87 u88 u89 u90 u91 u92 u93 u94 u95 u96 u97 u98 u99 u100 u326 u327 u328 u329 u330 u331 u332 u333 u334 u335 u336 u337 u338 u339 u340 u341 u342 u343) (hR : HRp Q' w bi bs br bo bn s sh px pm cx cm lk 21 a b c i inp va vb vc u0 u1 u2 u6 u8 u9 u12 u14 u27 u28 u29 u30 u31 u32 u33 u34 u35 u36 u37 u38 u39 u40 u41 u42 u43 u44 u45 u46 u47 u48 u49 u50 u51 u52 u53 u54 u55 u56 u57 u58 u59 u60 u61 u62 u63 u64 u65 u66 u67 u68 u69 u70 u71 u72 u73 u74 u75 u76 u77 u78 u79 u80 u81 u82 u83 u84 u85 u86 u87 u88 u89 u90 u91 u92 u93 u94 u95 u96 u97 u98 u99 u100 u326 u327 u328 u329 u330 u331 u332 u333 u334 u335 u336 u337 u338 u339 u340 u341 u342 u343) :
    Code.wp Tryd.prog C (Exit.then K' Q') ⟨List.toArray (u0 :: u1 :: u2 :: (.slice pm sh.length cm) :: .int .i32 inp :: .pointer (some ⟨bi, 0, none⟩) :: u6 :: .pointer (some ⟨bs, 0, none⟩) :: u8 :: u9 :: .pointer (some ⟨br, 0, none⟩) :: .int .i64 0 :: u12 :: .pointer (some ⟨bn, 0, none⟩) :: u14 :: .pointer (some ⟨bo, 0, none⟩) :: .int .i64 ((pc : Int) + 1) :: .int .i32 va :: .int .i32 vb :: .int .i32 vc :: .int .i64 (vb + i) :: .bool false :: .int .i32 0 :: u23 :: u24 :: u25 :: u26 :: u27 :: u28 :: u29 :: u30 :: u31 :: u32 :: u33 :: u34 :: u35 :: u36 :: u37 :: u38 :: u39 :: u40 :: u41 :: u42 :: u43 :: u44 :: u45 :: u46 :: u47 :: u48 :: u49 :: u50 :: u51 :: u52 :: u53 :: u54 :: u55 :: u56 :: u57 :: u58 :: u59 :: u60 :: u61 :: u62 :: u63 :: u64 :: u65 :: u66 :: u67 :: u68 :: u69 :: u70 :: u71 :: u72 :: u73 :: u74 :: u75 :: u76 :: u77 :: u78 :: u79 :: u80 :: u81 :: u82 :: u83 :: u84 :: u85 :: u86 :: u87 :: u88 :: u89 :: u90 :: u91 :: u92 :: u93 :: u94 :: u95 :: u96 :: u97 :: u98 :: u99 :: u100 :: u101 :: u102 :: u103 :: u104 :: u105 :: u106 :: u107 :: u108 :: u109 :: u110 :: u111 :: u112 :: u113 :: u114 :: u115 :: u116 :: u117 :: u118 :: u119 :: u120 :: u121 :: u122 :: u123 :: u124 :: u125 :: u126 :: u127 :: u128 :: u129 :: u130 :: u131 :: u132 :: u133 :: u134 :: u135 :: u136 :: u137 :: u138 :: u139 :: u140 :: u141 :: u142 :: u143 :: u144 :: u145 :: u146 :: u147 :: u148 :: u149 :: u150 :: u151 :: u152 :: u153 :: u154 :: u155 :: u156 :: u157 :: u158 :: u159 :: u160 :: u161 :: u162 :: u163 :: u164 :: u165 :: u166 :: u167 :: u168 :: u169 :: u170 :: u171 :: u172 :: u173 :: u174 :: u175 :: u176 :: u177 :: u178 :: u179 :: u180 :: u181 :: u182 :: u183 :: u184 :: u185 :: u186 :: u187 :: u188 :: u189 :: u190 :: u191 :: u192 :: u193 :: u194 :: u195 :: u196 :: u197 :: u198 :: u199 :: u200 :: u201 :: u202 :: u203 :: u204 :: u205 :: u206 :: u207 :: u208 :: u209 :: u210 :: u211 :: u212 :: u213 :: u214 :: u215 :: u216 :: u217 :: u218 :: u219 :: u220 :: u221 :: u222 :: u223 :: u224 :: u225 :: u226 :: u227 :: u228 :: u229 :: u230 :: u231 :: u232 :: u233 :: u234 :: u235 :: u236 :: u237 :: u238 :: u239 :: u240 :: u241 :: u242 :: u243 :: u244 :: u245 :: u246 :: u247 :: u248 :: u249 :: u250 :: u251 :: u252 :: u253 :: u254 :: u255 :: u256 :: u257 :: u258 :: u259 :: u260 :: u261 :: u262 :: u263 :: u264 :: u265 :: u266 :: u267 :: u268 :: u269 :: u270 :: u271 :: u272 :: u273 :: u274 :: u275 :: u276 :: u277 :: u278 :: u279 :: u280 :: u281 :: u282 :: u283 :: u284 :: u285 :: u286 :: u287 :: u288 :: u289 :: u290 :: u291 :: u292 :: u293 :: u294 :: u295 :: u296 :: u297 :: u298 :: u299 :: u300 :: u301 :: u302 :: u303 :: u304 :: u305 :: u306 :: u307 :: u308 :: u309 :: u310 :: u311 :: u312 :: u313 :: u314 :: u315 :: u316 :: u317 :: u318 :: u319 :: u320 :: u321 :: u322 :: u323 :: u324 :: u325 :: u326 :: u327 :: u328 :: u329 :: u330 :: u331 :: u332 :: u333 :: u334 :: u335 :: u336 :: u337 :: u338 :: u339 :: u340 :: u341 :: u342 :: u343 :: []), []⟩ w8 := by
  subst hC
  unfold HJp at hJ
  unfold HRp at hR
  have x0 : w8.cell? ⟨bn, 0, none⟩ = some (.int .u8 21) := HA8.out.i.cell 0
  have x1 : w8.cell? ⟨bn, 1, none⟩ = some (.int .i64 a) := HA8.out.i.cell 1
  have x2 : w8.cell? ⟨bn, 2, none⟩ = some (.int .i64 b) := HA8.out.i.cell 2
  have x3 : w8.cell? ⟨bn, 3, none⟩ = some (.int .i64 c) := HA8.out.i.cell 3
  have x4 : w8.cell? ⟨bn, 4, none⟩ = some (.int .i64 i) := HA8.out.i.cell 4
  have hl7 := HA8.out.st.lt
  have hl13 := HA8.out.i.lt
  have hl15 := HA8.out.o.lt
  conv => arg 2; whnf
  obtain ⟨tR, hz⟩ := HA8.out.z
  have HZo := Lib.hid hz
  clear hz
  have o27 : w8.cell? ⟨bo, 27, none⟩ = some (.int .i64 (-1)) := HA8.out.o.cell 27
  have g27 : w8.frozen? ⟨bo, 27, none⟩ = false := HA8.out.o.frozen 27
  by_cases h1 : vb + i < 0
  · have hse : stepI lk 21 a b c i s sh inp = .error 10 := by
      simp only [stepI]
      rw [← HVB.out]
      simp; omega
    have HSE := Lib.hid hse
    clear hse
    go_wp2_with (first | (refine wpList_store_row rfl 46 (.tmp 10) (.tmp 213) rfl br _ rfl rfl tR _ HZo.out info29h.out rfl zone29.out ?_; simp only [put_noS]))
    refine hR _ _ _ _ _ _ _ _ _ _ _ _ _ _ _ _ _ _ _ _ _ _ _ _ _ _ _ _ _ _ _ _ _ _ _ _ _ _ _ _ _ _ _ _ _ _ _ _ _ _ _ _ _ _ _ _ _ _ _ _ _ _ _ _ _ _ _ _ _ _ _ _ _ _ _ _ _ _ _ _ _ _ _ _ _ _ _ _ _ _ _ _ _ _ _ _ _ _ _ _ _ _ _ _ _ _ _ _ _ _ _ _ _ _ _ _ _ _ _ _ _ _ _ _ _ _ _ _ _ _ _ _ _ _ _ _ _ _ _ _ _ _ _ _ _ _ _ _ _ _ _ _ _ _ _ _ _ _ _ _ _ _ _ _ _ _ _ _ _ _ _ _ _ _ _ _ _ _ _ _ _ _ _ _ _ _ _ _ _ _ _ _ _ _ _ _ _ _ _ _ _ _ _ _ _ _ _ _ _ _ _ _ _ _ _ _ _ _ _ _ _ _ _ _ _ _ _ _ _ _ _ _ _ 10 _ rfl HSE.out ⟨_, setRow_heap _ _ _ _ _ _ HZo.out⟩ (bRowS (by have := HBK.out.lo; omega) HA8.out.bel)
  · by_cases h2 : vb + i ≥ sh.length
    · have hse : stepI lk 21 a b c i s sh inp = .error 10 := by
        simp only [stepI]
        rw [← HVB.out]
        simp; omega
      have HSE := Lib.hid hse
      clear hse
      go_wp2_with (first | (refine wpList_store_row rfl 46 (.tmp 10) (.tmp 213) rfl br _ rfl rfl tR _ HZo.out info29h.out rfl zone29.out ?_; simp only [put_noS]))
      refine hR _ _ _ _ _ _ _ _ _ _ _ _ _ _ _ _ _ _ _ _ _ _ _ _ _ _ _ _ _ _ _ _ _ _ _ _ _ _ _ _ _ _ _ _ _ _ _ _ _ _ _ _ _ _ _ _ _ _ _ _ _ _ _ _ _ _ _ _ _ _ _ _ _ _ _ _ _ _ _ _ _ _ _ _ _ _ _ _ _ _ _ _ _ _ _ _ _ _ _ _ _ _ _ _ _ _ _ _ _ _ _ _ _ _ _ _ _ _ _ _ _ _ _ _ _ _ _ _ _ _ _ _ _ _ _ _ _ _ _ _ _ _ _ _ _ _ _ _ _ _ _ _ _ _ _ _ _ _ _ _ _ _ _ _ _ _ _ _ _ _ _ _ _ _ _ _ _ _ _ _ _ _ _ _ _ _ _ _ _ _ _ _ _ _ _ _ _ _ _ _ _ _ _ _ _ _ _ _ _ _ _ _ _ _ _ _ _ _ _ _ _ _ _ _ _ _ _ _ _ _ _ _ _ 10 _ rfl HSE.out ⟨_, setRow_heap _ _ _ _ _ _ HZo.out⟩ (bRowS (by have := HBK.out.lo; omega) HA8.out.bel)
    · obtain ⟨k, hk⟩ := Int.eq_ofNat_of_zero_le (show 0 ≤ vb + i by omega)
      have hkl : k < sh.length := by omega
      have hkI : ¬ (k : Int) ≥ sh.length := by omega
      have hkn : ¬ (k : Int) < 0 := by omega
      have HSE := Lib.hid (show stepI lk 21 a b c i s sh inp = .ok ({ s with pc := s.pc + 1 }, sh.set k (s.r.getD a 0), false, (k : Int), 0) by
        simp only [stepI]
        rw [← HVB.out, hk]
        simp [hkl, -List.getD_eq_getElem?_getD])
      rw [hk] at hJ hR ⊢
      clear hR h1 h2
      obtain ⟨q, off, cap, e0, hq, hqc, hqf, hset⟩ := HA8.out.m.at k hkl
      skip
      skip
      injection e0 with e0a _ e0c
      subst e0a e0c
      have HSET := Lib.hid hset
      have hqo : q ≠ bo := (HBK.out.m q rfl).2.2.1
      have hqo2 : bo ≠ q := fun e => hqo e.symm
      clear hset
      have HX := Lib.hid (HA8.out.setO HBK.out 27 (.int .i64 (k : Int)))
      obtain ⟨q', off', cap', e1, _, _, _, hset2⟩ := HX.out.m.at k hkl
      injection e1 with e1a _ e1z
      subst e1z
      injection e1a with e1b
      injection e1b with e1c e1d
      subst e1c e1d
      have HS2 := Lib.hid (HX.out.setM HBK.out rfl (hset2 va))
      clear hset2
      go_wp2_with fail
      all_goals refine Met.intro ?_
      all_goals apply hJ
      all_goals exact ⟨s, (sh.set k va), false, (k : Int), 0, _, _, false, rfl, rfl, rfl, HS2.out, rfl, rfl, (by simp), (HSE.out.trans (by rw [HPC.out, ← HVA.out]; rfl))⟩
end Go.Proofs.YtdfofelchjpioaaDoor
