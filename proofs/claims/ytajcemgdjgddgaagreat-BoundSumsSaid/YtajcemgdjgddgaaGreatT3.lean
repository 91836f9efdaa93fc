/- The texts of the functions of this chapter, as the abstract machine has them. No condition. -/
import Derived.Test.YtajcemgdjgddgaaGreatT2
set_option linter.unnecessarySimpa false
set_option linter.defProp false
set_option linter.unusedSectionVars false
set_option linter.unusedSimpArgs false
set_option linter.unusedVariables false
namespace Go.Am
open Go Go.Proofs
def eb (h36:Heap) (a13:D) (a22:D) (a29:D) (a33:D) (a1:D) (a2:D) (a6:D) (J37:List D->Heap->Prop):Prop :=
  ∃(I239:Nat->List D->Heap->Prop) (n₀:Nat),I239 n₀ [(.int .i64 0)] h36/\∀(n240:Nat) (f241:Nat->D) (h242:Heap),I239 n240 [f241 12] h242 ->
  aa PP (.fadd (.c a13) 7) h242 fun a243 h244 =>
  aa PP (.ld (.c a243) 1 false) h244 fun a245 h246 =>
  cJ a245 h246 fun a247 =>
  vbin .lss (f241 12) a247 fun a248 =>
  vcond a248 (∃(J249:List D->Heap->Prop),(∀(f250:Nat->D) (h251:Heap),J249 [] h251 ->
  aa PP (.iadd (.c a22) (.c (f241 12)) 1) h251 fun a252 h253 =>
  aa PP (.ld (.c a252) 1 false) h253 fun a254 h255 =>
  aa PP (.iadd (.c a29) (.c (f241 12)) 1) h255 fun a256 h257 =>
  aa PP (.st (.c a256) (.c a254) 1) h257 fun a258 h259 =>
  ∃(J260:List D->Heap->Prop),(∀(f261:Nat->D) (h262:Heap),J260 [] h262 ->
  aa PP (.fadd (.c a13) 7) h262 fun a263 h264 =>
  aa PP (.ld (.c a263) 1 false) h264 fun a265 h266 =>
  cJ a265 h266 fun a267 =>
  aa PP (.mk 1 8 (.int .i64 0) (.c a267) (.c a267)) h266 fun a268 h269 =>
  aa PP (.iadd (.c a22) (.c (f241 12)) 1) h269 fun a270 h271 =>
  aa PP (.ld (.c a270) 1 false) h271 fun a272 h273 =>
  aa PP (.iadd (.c a268) (.c (f241 12)) 1) h273 fun a274 h275 =>
  aa PP (.st (.c a274) (.c a272) 1) h275 fun a276 h277 =>
  ag PP (.ld (.c a13) 8 true) h277 fun a278 =>
  ag PP (.ld (.c a13) 8 true) h277 fun a279 =>
  ai PP dh [a279,a268] h277 fun a280 h281 =>
  ((ag PP (.ld (.c a13) 8 true) h281 fun a282=>bR [a282] [a278])/\True) /\
  ai PP bL [a278,a280] h281 fun a283 h284 =>
  aa PP (.alloc (.agg [(.int .i64 0),(.int .i64 0),(.int .i64 0),(.int .i64 0)])) h284 fun a285 h286 =>
  ((ag PP (.ld (.c a13) 8 true) h286 fun a287=>bR [a287] [a278])/\(ag PP (.ld (.c a13) 8 true) h286 fun a288=>bR [a288] [a279])/\True) /\
  aa PP (.st (.c a285) (.c a283) 4) h286 fun a289 h290 =>
  aa PP (.fadd (.c a33) 0) h290 fun a291 h292 =>
  aa PP (.ld (.c a291) 1 false) h292 fun a293 h294 =>
  aa PP (.fadd (.c a285) 0) h294 fun a295 h296 =>
  aa PP (.ld (.c a295) 1 false) h296 fun a297 h298 =>
  vbin .add a293 a297 fun a299 =>
  aa PP (.fadd (.c a33) 0) h298 fun a300 h301 =>
  aa PP (.st (.c a300) (.c a299) 1) h301 fun a302 h303 =>
  aa PP (.fadd (.c a33) 1) h303 fun a304 h305 =>
  aa PP (.ld (.c a304) 1 false) h305 fun a306 h307 =>
  aa PP (.fadd (.c a285) 1) h307 fun a308 h309 =>
  aa PP (.ld (.c a308) 1 false) h309 fun a310 h311 =>
  vbin .add a306 a310 fun a312 =>
  aa PP (.fadd (.c a33) 1) h311 fun a313 h314 =>
  aa PP (.st (.c a313) (.c a312) 1) h314 fun a315 h316 =>
  aa PP (.fadd (.c a33) 2) h316 fun a317 h318 =>
  aa PP (.ld (.c a317) 1 false) h318 fun a319 h320 =>
  aa PP (.fadd (.c a285) 2) h320 fun a321 h322 =>
  aa PP (.ld (.c a321) 1 false) h322 fun a323 h324 =>
  vbin .add a319 a323 fun a325 =>
  aa PP (.fadd (.c a33) 2) h324 fun a326 h327 =>
  aa PP (.st (.c a326) (.c a325) 1) h327 fun a328 h329 =>
  aa PP (.fadd (.c a33) 3) h329 fun a330 h331 =>
  aa PP (.ld (.c a330) 1 false) h331 fun a332 h333 =>
  aa PP (.fadd (.c a285) 3) h333 fun a334 h335 =>
  aa PP (.ld (.c a334) 1 false) h335 fun a336 h337 =>
  vbin .add a332 a336 fun a338 =>
  aa PP (.fadd (.c a33) 3) h337 fun a339 h340 =>
  aa PP (.st (.c a339) (.c a338) 1) h340 fun a341 h342 =>
  vbin .add (f241 12) (.int .i64 1) fun a343 =>
  bR [a1,a2,a6,a13,a22,a29,a33] [a1,a2,a6,a13,a22,a29,a33]/\∃m,m<n240/\I239 m [a343] h342) /\
  cJ a2 h259 fun a344 =>
  vbin .gtr a344 (.int .i64 0) fun a345 =>
  vcond a345 (ag PP (.iadd (.c a29) (.c (f241 12)) 1) h259 fun a346 =>
  ag PP (.ld (.c a346) 1 false) h259 fun a347 =>
  cJ a2 h259 fun a348 =>
  vbin .rem (f241 12) a348 fun a349 =>
  ag PP (.iadd (.c a2) (.c a349) 1) h259 fun a350 =>
  ag PP (.ld (.c a350) 1 false) h259 fun a351 =>
  ag PP (.conv .i64 (.c a351)) h259 fun a352 =>
  vbin .add a347 a352 fun a353 =>
  ag PP (.iadd (.c a29) (.c (f241 12)) 1) h259 fun a354 =>
  aa PP (.st (.c a354) (.c a353) 1) h259 fun a355 h356 =>
  bR [a1,a2,a6,a13,a22,a29,a33,(f241 12)] [a1,a2,a6,a13,a22,a29,a33,(f241 12)]/\J260 [] h356) (
  bR [a1,a2,a6,a13,a22,a29,a33,(f241 12)] [a1,a2,a6,a13,a22,a29,a33,(f241 12)]/\J260 [] h259)) /\
  cJ a1 h246 fun a357 =>
  vbin .gtr a357 (.int .i64 0) fun a358 =>
  vcond a358 (cJ a1 h246 fun a359 =>
  vbin .rem (f241 12) a359 fun a360 =>
  aa PP (.iadd (.c a1) (.c a360) 1) h246 fun a361 h362 =>
  aa PP (.ld (.c a361) 1 false) h362 fun a363 h364 =>
  aa PP (.conv .i64 (.c a363)) h364 fun a365 h366 =>
  aa PP (.iadd (.c a22) (.c (f241 12)) 1) h366 fun a367 h368 =>
  aa PP (.st (.c a367) (.c a365) 1) h368 fun a369 h370 =>
  bR [a1,a2,a6,a13,a22,a29,a33,(f241 12)] [a1,a2,a6,a13,a22,a29,a33,(f241 12)]/\J249 [] h370) (
  bR [a1,a2,a6,a13,a22,a29,a33,(f241 12)] [a1,a2,a6,a13,a22,a29,a33,(f241 12)]/\J249 [] h246)) (
  bR [a6,a13,a22,a29,a33] [a6,a13,a22,a29,a33]/\J37 [] h246)
def lR (a0:D) (a1:D) (a2:D) (h0:Heap) (K:D->Heap->Prop):Prop :=
  aa PP (.box (.c a0)) h0 fun a4 h5 =>
  ai PP il [] h5 fun a6 h7 =>
  vun .not a6 fun a8 =>
  vcond a8 (K (.bool false) h7) (
  aa PP (.ld (.c a4) 1 true) h7 fun a9 h10 =>
  ai PP kh [a9] h10 fun a11 h12 =>
  aa PP (.alloc (.agg [(.int .i64 0),(.int .i64 0),(.int .i64 0),(.int .i64 0),(.int .i64 0),.nil,.nil,.nil])) h12 fun a13 h14 =>
  aa PP (.st (.c a13) (.c a11) 8) h14 fun a15 h16 =>
  aa PP (.fadd (.c a13) 7) h16 fun a17 h18 =>
  aa PP (.ld (.c a17) 1 false) h18 fun a19 h20 =>
  cJ a19 h20 fun a21 =>
  aa PP (.mk 1 8 (.int .i64 0) (.c a21) (.c a21)) h20 fun a22 h23 =>
  aa PP (.fadd (.c a13) 7) h23 fun a24 h25 =>
  aa PP (.ld (.c a24) 1 false) h25 fun a26 h27 =>
  cJ a26 h27 fun a28 =>
  aa PP (.mk 1 8 (.int .i64 0) (.c a28) (.c a28)) h27 fun a29 h30 =>
  aa PP (.bld [(.int .i64 0),(.int .i64 0),(.int .i64 0),(.int .i64 0)] []) h30 fun a31 h32 =>
  aa PP (.alloc (.agg [(.int .i64 0),(.int .i64 0),(.int .i64 0),(.int .i64 0)])) h32 fun a33 h34 =>
  aa PP (.st (.c a33) (.c a31) 4) h34 fun a35 h36 =>
  ∃(J37:List D->Heap->Prop),(∀(f38:Nat->D) (h39:Heap),J37 [] h39 ->
  ag PP (.ld (.c a13) 8 true) h39 fun a40 =>
  ag PP (.ld (.c a13) 8 true) h39 fun a41 =>
  ai PP dh [a41,a22] h39 fun a42 h43 =>
  ((ag PP (.ld (.c a13) 8 true) h43 fun a44=>bR [a44] [a40])/\True) /\
  ai PP bL [a40,a42] h43 fun a45 h46 =>
  aa PP (.alloc (.agg [(.int .i64 0),(.int .i64 0),(.int .i64 0),(.int .i64 0)])) h46 fun a47 h48 =>
  ((ag PP (.ld (.c a13) 8 true) h48 fun a49=>bR [a49] [a40])/\(ag PP (.ld (.c a13) 8 true) h48 fun a50=>bR [a50] [a41])/\True) /\
  aa PP (.st (.c a47) (.c a45) 4) h48 fun a51 h52 =>
  ag PP (.ld (.c a13) 8 true) h52 fun a53 =>
  ag PP (.ld (.c a13) 8 true) h52 fun a54 =>
  ai PP dh [a54,a29] h52 fun a55 h56 =>
  ((ag PP (.ld (.c a13) 8 true) h56 fun a57=>bR [a57] [a53])/\True) /\
  ai PP bL [a53,a55] h56 fun a58 h59 =>
  aa PP (.alloc (.agg [(.int .i64 0),(.int .i64 0),(.int .i64 0),(.int .i64 0)])) h59 fun a60 h61 =>
  ((ag PP (.ld (.c a13) 8 true) h61 fun a62=>bR [a62] [a53])/\(ag PP (.ld (.c a13) 8 true) h61 fun a63=>bR [a63] [a54])/\True) /\
  aa PP (.st (.c a60) (.c a58) 4) h61 fun a64 h65 =>
  vguard a6 true (fun G66 =>
  aa PP (.ld (.c a47) 4 true) h65 fun a69 h70 =>
  G66 a69 h70) h65 fun a67 h68 =>
  vguard a6 true (fun G71 =>
  aa PP (.ld (.c a33) 4 true) h68 fun a74 h75 =>
  G71 a74 h75) h68 fun a72 h73 =>
  vguard a6 true (fun G76 =>
  aa PP (.eqv false true [.i,.i,.i,.i] (.c a67) (.c a72)) h73 fun a79 h80 =>
  G76 a79 h80) h73 fun a77 h78 =>
  aa PP (.pick (.c a6) (.c a77) (.c (.bool false))) h78 fun a81 h82 =>
  vguard a81 true (fun G83 =>
  aa PP (.fadd (.c a47) 0) h82 fun a86 h87 =>
  G83 a86 h87) h82 fun a84 h85 =>
  vguard a81 true (fun G88 =>
  aa PP (.ld (.c a84) 1 false) h85 fun a91 h92 =>
  G88 a91 h92) h85 fun a89 h90 =>
  vguard a81 true (fun G93 =>
  aa PP (.fadd (.c a60) 0) h90 fun a96 h97 =>
  G93 a96 h97) h90 fun a94 h95 =>
  vguard a81 true (fun G98 =>
  aa PP (.ld (.c a94) 1 false) h95 fun a101 h102 =>
  G98 a101 h102) h95 fun a99 h100 =>
  vguard a81 true (fun G103 =>
  vbin .leq a89 a99 fun a106 =>
  G103 a106 h100) h100 fun a104 h105 =>
  aa PP (.pick (.c a81) (.c a104) (.c (.bool false))) h105 fun a107 h108 =>
  vguard a107 true (fun G109 =>
  aa PP (.fadd (.c a47) 1) h108 fun a112 h113 =>
  G109 a112 h113) h108 fun a110 h111 =>
  vguard a107 true (fun G114 =>
  aa PP (.ld (.c a110) 1 false) h111 fun a117 h118 =>
  G114 a117 h118) h111 fun a115 h116 =>
  vguard a107 true (fun G119 =>
  aa PP (.fadd (.c a60) 1) h116 fun a122 h123 =>
  G119 a122 h123) h116 fun a120 h121 =>
  vguard a107 true (fun G124 =>
  aa PP (.ld (.c a120) 1 false) h121 fun a127 h128 =>
  G124 a127 h128) h121 fun a125 h126 =>
  vguard a107 true (fun G129 =>
  vbin .leq a115 a125 fun a132 =>
  G129 a132 h126) h126 fun a130 h131 =>
  aa PP (.pick (.c a107) (.c a130) (.c (.bool false))) h131 fun a133 h134 =>
  vguard a133 true (fun G135 =>
  aa PP (.fadd (.c a47) 2) h134 fun a138 h139 =>
  G135 a138 h139) h134 fun a136 h137 =>
  vguard a133 true (fun G140 =>
  aa PP (.ld (.c a136) 1 false) h137 fun a143 h144 =>
  G140 a143 h144) h137 fun a141 h142 =>
  vguard a133 true (fun G145 =>
  aa PP (.fadd (.c a60) 2) h142 fun a148 h149 =>
  G145 a148 h149) h142 fun a146 h147 =>
  vguard a133 true (fun G150 =>
  aa PP (.ld (.c a146) 1 false) h147 fun a153 h154 =>
  G150 a153 h154) h147 fun a151 h152 =>
  vguard a133 true (fun G155 =>
  vbin .leq a141 a151 fun a158 =>
  G155 a158 h152) h152 fun a156 h157 =>
  aa PP (.pick (.c a133) (.c a156) (.c (.bool false))) h157 fun a159 h160 =>
  vguard a159 true (fun G161 =>
  aa PP (.fadd (.c a47) 3) h160 fun a164 h165 =>
  G161 a164 h165) h160 fun a162 h163 =>
  vguard a159 true (fun G166 =>
  aa PP (.ld (.c a162) 1 false) h163 fun a169 h170 =>
  G166 a169 h170) h163 fun a167 h168 =>
  vguard a159 true (fun G171 =>
  aa PP (.fadd (.c a60) 3) h168 fun a174 h175 =>
  G171 a174 h175) h168 fun a172 h173 =>
  vguard a159 true (fun G176 =>
  aa PP (.ld (.c a172) 1 false) h173 fun a179 h180 =>
  G176 a179 h180) h173 fun a177 h178 =>
  vguard a159 true (fun G181 =>
  vbin .leq a167 a177 fun a184 =>
  G181 a184 h178) h178 fun a182 h183 =>
  aa PP (.pick (.c a159) (.c a182) (.c (.bool false))) h183 fun a185 h186 =>
  vguard a185 true (fun G187 =>
  aa PP (.fadd (.c a47) 1) h186 fun a190 h191 =>
  G187 a190 h191) h186 fun a188 h189 =>
  vguard a185 true (fun G192 =>
  aa PP (.ld (.c a188) 1 false) h189 fun a195 h196 =>
  G192 a195 h196) h189 fun a193 h194 =>
  vguard a185 true (fun G197 =>
  aa PP (.fadd (.c a47) 0) h194 fun a200 h201 =>
  G197 a200 h201) h194 fun a198 h199 =>
  vguard a185 true (fun G202 =>
  aa PP (.ld (.c a198) 1 false) h199 fun a205 h206 =>
  G202 a205 h206) h199 fun a203 h204 =>
  vguard a185 true (fun G207 =>
  vbin .leq a193 a203 fun a210 =>
  G207 a210 h204) h204 fun a208 h209 =>
  aa PP (.pick (.c a185) (.c a208) (.c (.bool false))) h209 fun a211 h212 =>
  vguard a211 true (fun G213 =>
  aa PP (.fadd (.c a47) 2) h212 fun a216 h217 =>
  G213 a216 h217) h212 fun a214 h215 =>
  vguard a211 true (fun G218 =>
  aa PP (.ld (.c a214) 1 false) h215 fun a221 h222 =>
  G218 a221 h222) h215 fun a219 h220 =>
  vguard a211 true (fun G223 =>
  aa PP (.fadd (.c a47) 1) h220 fun a226 h227 =>
  G223 a226 h227) h220 fun a224 h225 =>
  vguard a211 true (fun G228 =>
  aa PP (.ld (.c a224) 1 false) h225 fun a231 h232 =>
  G228 a231 h232) h225 fun a229 h230 =>
  vguard a211 true (fun G233 =>
  vbin .leq a219 a229 fun a236 =>
  G233 a236 h230) h230 fun a234 h235 =>
  aa PP (.pick (.c a211) (.c a234) (.c (.bool false))) h235 fun a237 h238 =>
  K a237 h238) /\
  eb h36 a13 a22 a29 a33 a1 a2 a6 J37)
set_option maxHeartbeats 0 in
theorem rU (a0:D) (a1:D) (a2:D) (h0:Heap) (K:D->Heap->Prop):lR a0 a1 a2 h0 K=vcC PP gE.code (fun x e h'=>match x with|.exit _=>False|.pan=>False|.jump _=>False|_=>cY PP gE.res K e h') (params [a0,a1,a2] 0) h0:=by kernel_rfl
end Go.Am
namespace Go.Am
open Go Go.Proofs
def fsz0 (f:FuncId):Option af:=match f with
  | 4=>some nS
  | 6=>some iE
  | 8=>some pO
  | 9=>some xR
  | 10=>some xf
  | 11=>some uu
  | 12=>some nI
  | 21=>some iD
  | 23=>some zM
  | 24=>some xK
  | 25=>some zN
  | 26=>some tY
  | 27=>some nV
  | 28=>some hQ
  | 29=>some jT
  | 30=>some xO
  | 31=>some zT
  | 37=>some uc
  | 38=>some gZ
  | 39=>some jc
  | 40=>some jd
  | 41=>some xN
  | 42=>some eU
  | 43=>some CQ
  | 44=>some zQ
  | 45=>some zR
  | 46=>some lb
  | 47=>some pQ
  | 48=>some jU
  | 49=>some jV
  | _=>none
theorem KX {f:FuncId}{F:af}(h:fsz0 f=some F):∃fz loops dr,cFn PP fz f loops dr=some F/\qw PP F.nt dr:=by
  unfold fsz0 at h
  split at h
  · cases h;exact⟨_,_,_,tp,ab _ _ _⟩
  · cases h;exact⟨_,_,_,nY,ab _ _ _⟩
  · cases h;exact⟨_,_,_,vC,ab _ _ _⟩
  · cases h;exact⟨_,_,_,A7,ab _ _ _⟩
  · cases h;exact⟨_,_,_,AK,ab _ _ _⟩
  · cases h;exact⟨_,_,_,zj,ab _ _ _⟩
  · cases h;exact⟨_,_,_,tg,ab _ _ _⟩
  · cases h;exact⟨_,_,_,nU,ab _ _ _⟩
  · cases h;exact⟨_,_,_,CJ,ab _ _ _⟩
  · cases h;exact⟨_,_,_,A3,ab _ _ _⟩
  · cases h;exact⟨_,_,_,CM,ab _ _ _⟩
  · cases h;exact⟨_,_,_,yT,ab _ _ _⟩
  · cases h;exact⟨_,_,_,tt,ab _ _ _⟩
  · cases h;exact⟨_,_,_,mE,ab _ _ _⟩
  · cases h;exact⟨_,_,_,pn,ab _ _ _⟩
  · cases h;exact⟨_,_,_,A6,ab _ _ _⟩
  · cases h;exact⟨_,_,_,CW,ab _ _ _⟩
  · cases h;exact⟨_,_,_,yY,ab _ _ _⟩
  · cases h;exact⟨_,_,_,my,ab _ _ _⟩
  · cases h;exact⟨_,_,_,nC,ab _ _ _⟩
  · cases h;exact⟨_,_,_,nD,ab _ _ _⟩
  · cases h;exact⟨_,_,_,A4,ab _ _ _⟩
  · cases h;exact⟨_,_,_,kr,ab _ _ _⟩
  · cases h;exact⟨_,_,_,Dm,ab _ _ _⟩
  · cases h;exact⟨_,_,_,CP,ab _ _ _⟩
  · cases h;exact⟨_,_,_,CT,ab _ _ _⟩
  · cases h;exact⟨_,_,_,qu,ab _ _ _⟩
  · cases h;exact⟨_,_,_,vE,ab _ _ _⟩
  · cases h;exact⟨_,_,_,po,ab _ _ _⟩
  · cases h;exact⟨_,_,_,pq,ab _ _ _⟩
  · cases h
def fsz1 (f:FuncId):Option af:=match f with
  | 50=>some jl
  | 51=>some cV
  | 52=>some sE
  | 54=>some uk
  | 55=>some pK
  | 56=>some nL
  | 57=>some pJ
  | 58=>some kW
  | 59=>some CF
  | 60=>some sf
  | 61=>some eF
  | 62=>some pN
  | 63=>some sB
  | 64=>some zO
  | 65=>some pP
  | 66=>some ur
  | 67=>some hP
  | 68=>some zP
  | 69=>some lf
  | 70=>some zS
  | 71=>some CV
  | 72=>some sD
  | 73=>some jk
  | 74=>some gF
  | 75=>some pR
  | 76=>some fK
  | 77=>some dM
  | 78=>some sm
  | 79=>some xw
  | 80=>some hH
  | _=>none
theorem KW {f:FuncId}{F:af}(h:fsz1 f=some F):∃fz loops dr,cFn PP fz f loops dr=some F/\qw PP F.nt dr:=by
  unfold fsz1 at h
  split at h
  · cases h;exact⟨_,_,_,nX,ab _ _ _⟩
  · cases h;exact⟨_,_,_,fL,ab _ _ _⟩
  · cases h;exact⟨_,_,_,xQ,ab _ _ _⟩
  · cases h;exact⟨_,_,_,ze,ab _ _ _⟩
  · cases h;exact⟨_,_,_,vv,ab _ _ _⟩
  · cases h;exact⟨_,_,_,tj,ab _ _ _⟩
  · cases h;exact⟨_,_,_,vu,ab _ _ _⟩
  · cases h;exact⟨_,_,_,qo,ab _ _ _⟩
  · cases h;exact⟨_,_,_,Di,ab _ _ _⟩
  · cases h;exact⟨_,_,_,xh,ab _ _ _⟩
  · cases h;exact⟨_,_,_,jz,ab _ _ _⟩
  · cases h;exact⟨_,_,_,vA,ab _ _ _⟩
  · cases h;exact⟨_,_,_,xL,ab _ _ _⟩
  · cases h;exact⟨_,_,_,CN,ab _ _ _⟩
  · cases h;exact⟨_,_,_,vD,ab _ _ _⟩
  · cases h;exact⟨_,_,_,zi,ab _ _ _⟩
  · cases h;exact⟨_,_,_,mD,ab _ _ _⟩
  · cases h;exact⟨_,_,_,CO,ab _ _ _⟩
  · cases h;exact⟨_,_,_,qv,ab _ _ _⟩
  · cases h;exact⟨_,_,_,CU,ab _ _ _⟩
  · cases h;exact⟨_,_,_,Dp,ab _ _ _⟩
  · cases h;exact⟨_,_,_,xP,ab _ _ _⟩
  · cases h;exact⟨_,_,_,nW,ab _ _ _⟩
  · cases h;exact⟨_,_,_,lE,ab _ _ _⟩
  · cases h;exact⟨_,_,_,vF,ab _ _ _⟩
  · cases h;exact⟨_,_,_,lg,ab _ _ _⟩
  · cases h;exact⟨_,_,_,ix,ab _ _ _⟩
  · cases h;exact⟨_,_,_,xv,ab _ _ _⟩
  · cases h;exact⟨_,_,_,AR,ab _ _ _⟩
  · cases h;exact⟨_,_,_,mB,ab _ _ _⟩
  · cases h
def fsz2 (f:FuncId):Option af:=match f with
  | 81=>some xy
  | 82=>some ub
  | 83=>some nK
  | 84=>some nJ
  | 85=>some lW
  | 86=>some rY
  | 87=>some gX
  | 88=>some gY
  | 89=>some je
  | 90=>some jK
  | 91=>some zJ
  | 94=>some jb
  | 96=>some jL
  | 99=>some lZ
  | 100=>some l7
  | 101=>some eE
  | 102=>some kZ
  | 103=>some nT
  | 104=>some sC
  | 105=>some b8
  | 106=>some CR
  | 107=>some bt
  | 108=>some fJ
  | 109=>some k0
  | 110=>some xt
  | 111=>some xx
  | 112=>some xp
  | 113=>some xq
  | 114=>some uo
  | 115=>some sq
  | _=>none
theorem KV {f:FuncId}{F:af}(h:fsz2 f=some F):∃fz loops dr,cFn PP fz f loops dr=some F/\qw PP F.nt dr:=by
  unfold fsz2 at h
  split at h
  · cases h;exact⟨_,_,_,AT,ab _ _ _⟩
  · cases h;exact⟨_,_,_,yX,ab _ _ _⟩
  · cases h;exact⟨_,_,_,ti,ab _ _ _⟩
  · cases h;exact⟨_,_,_,th,ab _ _ _⟩
  · cases h;exact⟨_,_,_,rZ,ab _ _ _⟩
  · cases h;exact⟨_,_,_,xg,ab _ _ _⟩
  · cases h;exact⟨_,_,_,mv,ab _ _ _⟩
  · cases h;exact⟨_,_,_,mw,ab _ _ _⟩
  · cases h;exact⟨_,_,_,nE,ab _ _ _⟩
  · cases h;exact⟨_,_,_,o6,ab _ _ _⟩
  · cases h;exact⟨_,_,_,CC,ab _ _ _⟩
  · cases h;exact⟨_,_,_,nB,ab _ _ _⟩
  · cases h;exact⟨_,_,_,o7,ab _ _ _⟩
  · cases h;exact⟨_,_,_,sx,ab _ _ _⟩
  · cases h;exact⟨_,_,_,sA,ab _ _ _⟩
  · cases h;exact⟨_,_,_,jx,ab _ _ _⟩
  · cases h;exact⟨_,_,_,qq,ab _ _ _⟩
  · cases h;exact⟨_,_,_,tq,ab _ _ _⟩
  · cases h;exact⟨_,_,_,xM,ab _ _ _⟩
  · cases h;exact⟨_,_,_,dN,ab _ _ _⟩
  · cases h;exact⟨_,_,_,Dn,ab _ _ _⟩
  · cases h;exact⟨_,_,_,cw,ab _ _ _⟩
  · cases h;exact⟨_,_,_,la,ab _ _ _⟩
  · cases h;exact⟨_,_,_,qt,ab _ _ _⟩
  · cases h;exact⟨_,_,_,AQ,ab _ _ _⟩
  · cases h;exact⟨_,_,_,AS,ab _ _ _⟩
  · cases h;exact⟨_,_,_,AO,ab _ _ _⟩
  · cases h;exact⟨_,_,_,AP,ab _ _ _⟩
  · cases h;exact⟨_,_,_,zg,ab _ _ _⟩
  · cases h;exact⟨_,_,_,xz,ab _ _ _⟩
  · cases h
def MH (f:FuncId):Option af:=match f with
  | 116=>some xl
  | 117=>some sg
  | 118=>some ug
  | 120=>some uh
  | 121=>some um
  | 122=>some jM
  | 123=>some jR
  | 124=>some jP
  | 125=>some CH
  | 126=>some jQ
  | 127=>some hO
  | 128=>some jN
  | 131=>some jj
  | 133=>some kX
  | 134=>some lX
  | 135=>some nR
  | 136=>some zK
  | 138=>some lY
  | 140=>some ua
  | 142=>some tZ
  | 143=>some ja
  | 145=>some gA
  | 146=>some bK
  | 147=>some bF
  | 148=>some xj
  | 149=>some zL
  | 150=>some ss
  | 152=>some uf
  | 154=>some sk
  | 155=>some CI
  | _=>none
theorem KU {f:FuncId}{F:af}(h:MH f=some F):∃fz loops dr,cFn PP fz f loops dr=some F/\qw PP F.nt dr:=by
  unfold MH at h
  split at h
  · cases h;exact⟨_,_,_,AN,ab _ _ _⟩
  · cases h;exact⟨_,_,_,xk,ab _ _ _⟩
  · cases h;exact⟨_,_,_,y7,ab _ _ _⟩
  · cases h;exact⟨_,_,_,y8,ab _ _ _⟩
  · cases h;exact⟨_,_,_,zf,ab _ _ _⟩
  · cases h;exact⟨_,_,_,pc,ab _ _ _⟩
  · cases h;exact⟨_,_,_,ph,ab _ _ _⟩
  · cases h;exact⟨_,_,_,pf,ab _ _ _⟩
  · cases h;exact⟨_,_,_,Dj,ab _ _ _⟩
  · cases h;exact⟨_,_,_,pg,ab _ _ _⟩
  · cases h;exact⟨_,_,_,mC,ab _ _ _⟩
  · cases h;exact⟨_,_,_,pd,ab _ _ _⟩
  · cases h;exact⟨_,_,_,nP,ab _ _ _⟩
  · cases h;exact⟨_,_,_,qp,ab _ _ _⟩
  · cases h;exact⟨_,_,_,so,ab _ _ _⟩
  · cases h;exact⟨_,_,_,tm,ab _ _ _⟩
  · cases h;exact⟨_,_,_,CE,ab _ _ _⟩
  · cases h;exact⟨_,_,_,sw,ab _ _ _⟩
  · cases h;exact⟨_,_,_,yW,ab _ _ _⟩
  · cases h;exact⟨_,_,_,yU,ab _ _ _⟩
  · cases h;exact⟨_,_,_,nA,ab _ _ _⟩
  · cases h;exact⟨_,_,_,lD,ab _ _ _⟩
  · cases h;exact⟨_,_,_,dp,ab _ _ _⟩
  · cases h;exact⟨_,_,_,cU,ab _ _ _⟩
  · cases h;exact⟨_,_,_,AM,ab _ _ _⟩
  · cases h;exact⟨_,_,_,CG,ab _ _ _⟩
  · cases h;exact⟨_,_,_,xI,ab _ _ _⟩
  · cases h;exact⟨_,_,_,y6,ab _ _ _⟩
  · cases h;exact⟨_,_,_,xu,ab _ _ _⟩
  · cases h;exact⟨_,_,_,Dl,ab _ _ _⟩
  · cases h
def MG (f:FuncId):Option af:=match f with
  | 156=>some xB
  | 157=>some xA
  | 158=>some ud
  | 159=>some ui
  | 160=>some jh
  | 161=>some jS
  | 162=>some xG
  | 163=>some xH
  | 166=>some pL
  | 167=>some su
  | 169=>some si
  | 170=>some nQ
  | 171=>some uj
  | 172=>some ue
  | 173=>some xi
  | 174=>some sj
  | 175=>some g9
  | 176=>some jO
  | 177=>some sh
  | 178=>some ji
  | 182=>some pM
  | 183=>some xE
  | 185=>some sr
  | 186=>some uq
  | 188=>some xD
  | _=>none
theorem KT {f:FuncId}{F:af}(h:MG f=some F):∃fz loops dr,cFn PP fz f loops dr=some F/\qw PP F.nt dr:=by
  unfold MG at h
  split at h
  · cases h;exact⟨_,_,_,AV,ab _ _ _⟩
  · cases h;exact⟨_,_,_,AU,ab _ _ _⟩
  · cases h;exact⟨_,_,_,yZ,ab _ _ _⟩
  · cases h;exact⟨_,_,_,y9,ab _ _ _⟩
  · cases h;exact⟨_,_,_,nM,ab _ _ _⟩
  · cases h;exact⟨_,_,_,pj,ab _ _ _⟩
  · cases h;exact⟨_,_,_,AY,ab _ _ _⟩
  · cases h;exact⟨_,_,_,AZ,ab _ _ _⟩
  · cases h;exact⟨_,_,_,vw,ab _ _ _⟩
  · cases h;exact⟨_,_,_,xJ,ab _ _ _⟩
  · cases h;exact⟨_,_,_,xo,ab _ _ _⟩
  · cases h;exact⟨_,_,_,tk,ab _ _ _⟩
  · cases h;exact⟨_,_,_,zc,ab _ _ _⟩
  · cases h;exact⟨_,_,_,y5,ab _ _ _⟩
  · cases h;exact⟨_,_,_,AL,ab _ _ _⟩
  · cases h;exact⟨_,_,_,xr,ab _ _ _⟩
  · cases h;exact⟨_,_,_,mA,ab _ _ _⟩
  · cases h;exact⟨_,_,_,pe,ab _ _ _⟩
  · cases h;exact⟨_,_,_,xn,ab _ _ _⟩
  · cases h;exact⟨_,_,_,nN,ab _ _ _⟩
  · cases h;exact⟨_,_,_,vz,ab _ _ _⟩
  · cases h;exact⟨_,_,_,AX,ab _ _ _⟩
  · cases h;exact⟨_,_,_,xF,ab _ _ _⟩
  · cases h;exact⟨_,_,_,zh,ab _ _ _⟩
  · cases h;exact⟨_,_,_,AW,ab _ _ _⟩
  · cases h
def fsz (f:FuncId):Option af:=match fsz0 f with
  | some F=>some F
  | none=>match fsz1 f with
  | some F=>some F
  | none=>match fsz2 f with
  | some F=>some F
  | none=>match MH f with
  | some F=>some F
  | none=>match MG f with
  | some F=>some F
  | none=>none
theorem MF {f:FuncId}{F:af}(h:fsz f=some F):∃fz loops dr,cFn PP fz f loops dr=some F/\qw PP F.nt dr:=by
  unfold fsz at h
  split at h
  · rename_i h1;cases h;exact KX h1
  split at h
  · rename_i h1;cases h;exact KW h1
  split at h
  · rename_i h1;cases h;exact KV h1
  split at h
  · rename_i h1;cases h;exact KU h1
  split at h
  · rename_i h1;cases h;exact KT h1
  cases h
theorem LD:∀f F,fsz f=some F->∀ds K h,Kf PP F ds K h->ai PP f ds h K:=by
  intro f F hf ds K h hv
  obtain⟨fz,loops,dr,h1,h2⟩:=MF hf
  exact Cw h1 h2 hv
end Go.Am
namespace Go.Am
open Go Go.Proofs
noncomputable def LK:DV PP fsz where
  a:=LD
  spec:=fun _=>none
  sp:=fun _ _ h=>by cases h
def Mk (f:FuncId):Bool:=f == cn||f == aV
noncomputable def EE (n:Nat) (f:FuncId) (ds:List D):Option D:=OH LK Mk 100 n f ds
theorem oP {n:Nat}{f:FuncId}{ds:List D}{r:D}(h:(EE n f ds).any (D.same r)=true):bf PP f ds (· = r):=Dv LK Mk 100 n h
end Go.Am
