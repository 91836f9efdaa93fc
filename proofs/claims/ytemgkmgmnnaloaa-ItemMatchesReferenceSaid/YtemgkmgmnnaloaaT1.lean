/- The texts of the functions of this chapter, as the abstract machine has them. No condition. -/
import Derived.Test.YtemgkmgmnnaloaaProg
import Derived.KernelRfl
import Derived.Test.YtemgkmgmnnaloaaA3
set_option linter.unnecessarySimpa false
set_option linter.defProp false
set_option linter.unusedSectionVars false
set_option linter.unusedSimpArgs false
set_option linter.unusedVariables false
namespace Go.Am
open Go Go.Proofs
noncomputable abbrev PP : Program := Try.prog
abbrev xL (a : D) (n : Nat) (b : Bool) (h : Heap) (K : HK) : Prop := ab PP (.ld (.c a) n b) h K
abbrev yL (a : D) (n : Nat) (b : Bool) (h : Heap) (K : D -> Prop) : Prop := an PP (.ld (.c a) n b) h K
abbrev xF (a : D) (n : Nat) (h : Heap) (K : HK) : Prop := ab PP (.fadd (.c a) n) h K
abbrev yF (a : D) (n : Nat) (h : Heap) (K : D -> Prop) : Prop := an PP (.fadd (.c a) n) h K
abbrev xI (a b : D) (n : Nat) (h : Heap) (K : HK) : Prop := ab PP (.iadd (.c a) (.c b) n) h K
abbrev yI (a b : D) (n : Nat) (h : Heap) (K : D -> Prop) : Prop := an PP (.iadd (.c a) (.c b) n) h K
abbrev xS (a b : D) (n : Nat) (h : Heap) (K : HK) : Prop := ab PP (.st (.c a) (.c b) n) h K
abbrev eD (F : aI) (K : HK) (l : List D) (h : Heap) : Prop := vcC PP F.code (fun x e h' => match x with | .exit _ => False | .pan => False | _ => iB PP F.res K e h') (params l 0) h
abbrev zI : D := .int .i64 0
abbrev zJ : D := .int .i32 0
def aS : Option aI -> bV
 | some F => F.code
 | none => .skip
abbrev fK : FuncId := 3
abbrev jo : FuncId := 9
abbrev lD : FuncId := 10
abbrev fA : FuncId := 11
abbrev iF : FuncId := 12
abbrev iJ : FuncId := 13
abbrev iH : FuncId := 14
abbrev eH : FuncId := 15
abbrev hO : FuncId := 16
abbrev jm : FuncId := 17
abbrev iG : FuncId := 18
abbrev bX : FuncId := 19
abbrev jF : FuncId := 20
abbrev jG : FuncId := 21
abbrev kV : FuncId := 22
abbrev kS : FuncId := 23
abbrev iI : FuncId := 25
abbrev fy : FuncId := 27
abbrev dC : FuncId := 29
abbrev hU : FuncId := 30
abbrev ou : FuncId := 31
abbrev lz : FuncId := 32
abbrev lB : FuncId := 33
abbrev mQ : FuncId := 34
abbrev lA : FuncId := 35
abbrev qO : FuncId := 36
abbrev gQ : FuncId := 37
abbrev mP : FuncId := 38
abbrev qP : FuncId := 39
abbrev oy : FuncId := 40
abbrev fx : FuncId := 41
abbrev er : FuncId := 42
abbrev fN : FuncId := 43
abbrev mV : FuncId := 44
abbrev bW : FuncId := 45
abbrev bH : FuncId := 46
abbrev jw : FuncId := 50
abbrev ak : FuncId := 51
abbrev lC : FuncId := 52
abbrev eo : FuncId := 53
abbrev dD : FuncId := 54
abbrev bg : FuncId := 55
abbrev bb : FuncId := 56
abbrev aZ : FuncId := 57
abbrev cn : FuncId := 58
abbrev gu : FuncId := 59
abbrev et : FuncId := 60
abbrev aQ : FuncId := 61
abbrev jy : FuncId := 62
abbrev gI : FuncId := 63
abbrev ly : FuncId := 64
abbrev cj : FuncId := 65
abbrev lx : FuncId := 66
abbrev kU : FuncId := 67
abbrev mR : FuncId := 68
abbrev bB : FuncId := 69
abbrev gH : FuncId := 70
abbrev jx : FuncId := 71
abbrev dB : FuncId := 72
abbrev eO : FuncId := 73
abbrev gV : FuncId := 74
abbrev jn : FuncId := 75
abbrev kT : FuncId := 76
abbrev cO : FuncId := 77
abbrev mS : FuncId := 78
abbrev aK : FuncId := 79
abbrev dj : FuncId := 80
abbrev eF : FuncId := 81
abbrev ic : FuncId := 82
abbrev fL : FuncId := 83
abbrev fM : FuncId := 84
abbrev kR : FuncId := 85
abbrev jq : FuncId := 86
abbrev kg : FuncId := 87
abbrev qL : FuncId := 88
abbrev me : FuncId := 89
abbrev ox : FuncId := 90
abbrev ow : FuncId := 91
abbrev mU : FuncId := 92
abbrev cP : FuncId := 93
abbrev gG : FuncId := 94
abbrev eG : FuncId := 95
abbrev mT : FuncId := 96
abbrev eU : FuncId := 97
abbrev gd : FuncId := 98
abbrev iE : FuncId := 99
abbrev lv : FuncId := 100
abbrev gF : FuncId := 101
abbrev qK : FuncId := 102
abbrev qN : FuncId := 103
abbrev vz : FuncId := 104
abbrev ck : FuncId := 105
abbrev qM : FuncId := 106
end Go.Am
namespace Go.Am
open Go Go.Proofs
def iL : TL
 | 1000016 => some ([5, 7, 8], []) | 11 => some ([5, 7, 8], [15]) | _ => none
def jk : TT
 | 5 => some ([0, 1, 0, 4, 0, 16, 0, 64, 255, 0, 512, 0, 2048, 0, 8192, 24576, 0, 65536, 196608, 0, 524288, 1572864, 4128768, 0, 8388608, 33554431, 0, 0, 268435455, 536870911], [26, 27, 28, 29], []) | 6 => some ([0, 1, 0, 4, 12, 0, 32, 96, 255, 0, 512, 0, 2048, 6144, 0, 16384, 49152, 131071, 0, 0, 1048575, 2097151], [18, 19, 20, 21], []) | 7 => some ([0, 1, 0, 4, 0, 16, 63, 0, 128, 0, 512, 0, 2048, 8191, 0, 0, 65535, 131071], [14, 15, 16, 17], []) | 13 => some ([0, 1, 3, 0, 8, 31, 0, 64, 192, 448, 0, 1984, 4032, 8191], [4, 5], [999999]) | 15 => some ([0, 1, 3, 0, 8, 24, 56, 127, 0, 256, 768, 2047, 4095, 8191, 16383, 32767], [6, 7], [999999]) | _ => none
noncomputable abbrev fT := cFn PP true fK iL (cDr PP 152 jk)
noncomputable def fV : aI := ⟨152, aS fT, [.t 6]⟩
theorem jd : fT = some fV := by kernel_rfl
end Go.Am
namespace Go.Am
open Go Go.Proofs
def vO : TL
 | 1000005 => some ([3, 4, 5], []) | _ => none
def zr : TT
 | 6 => some ([0, 1, 0, 4, 0, 0, 32, 96, 224, 0, 512, 0, 2048, 7680, 16383, 32767, 65535], [16], []) | _ => none
noncomputable abbrev so := cFn PP true lD vO (cDr PP 51 zr)
noncomputable def sJ : aI := ⟨51, aS so, [.cell 4 21 true]⟩
theorem yX : so = some sJ := by kernel_rfl
def zP : TL
 | _ => none
def DN : TT
 | _ => none
noncomputable abbrev yp := cFn PP true fA zP (cDr PP 36 DN)
noncomputable def yW : aI := ⟨36, aS yp, [.cell 8 11 true]⟩
theorem C0 : yp = some yW := by kernel_rfl
def xV (a : D) (b : D) (c : D) (d : D) (e : Heap) (K : HK) : Prop :=
 ab PP (.box (.c a)) e fun a e => ab PP (.box (.c b)) e fun b e => ab PP (.box (.c c)) e fun c e => ab PP (.alloc (.agg [zI, zI, zI, zI, .nil, .nil, .nil, .nil, .nil, .nil, zI])) e fun e f => xL a 8 true f fun a f => xL b 2 true f fun b f => xF c 0 f fun f g => xL f 7 true g fun f g => xF c 7 g fun g h => xL g 1 false h fun g h => xF c 8 h fun c h => xL c 1 false h fun c h => ag PP qO [a, b, f, g, c, d] h fun a b => ab PP (.ext (.c a) 0) b fun b c => ab PP (.ext (.c a) 1) c fun c d => ab PP (.ext (.c a) 2) d fun d f => ab PP (.ext (.c a) 3) f fun f g => ab PP (.ext (.c a) 4) g fun a g => ab PP (.alloc (.agg [zI, zI, zI, zI, .nil, .nil, .nil])) g fun g h => xS g b 7 h fun b h => xL g 7 true h fun b g => ab PP (.bld [zI, zI, zI, zI, .nil, .nil, .nil, .nil, .nil, .nil, zI] [(0, 7, (.c b)), (7, 1, (.c c)), (8, 1, (.c d)), (9, 1, (.c f)), (10, 1, (.c a))]) g fun a b => xS e a 11 b fun a b => xL e 11 true b fun a c => K a b
theorem CF (a0 : D) (a1 : D) (a2 : D) (a3 : D) (h0 : Heap) (K : HK) : xV a0 a1 a2 a3 h0 K = eD yW K [a0, a1, a2, a3] h0 := by kernel_rfl
def vG : TL
 | 1000015 => some ([5, 10, 12], []) | 8 => some ([4, 5, 6, 7, 10, 11, 12, 13], [14]) | _ => none
def zl : TT
 | 5 => some ([0, 1, 0, 4, 15, 0, 32, 127, 255, 0, 1023], [1, 4, 7, 9, 10], [999998, 3]) | 10 => some ([0, 0, 0, 0, 0, 24, 56, 0, 128, 0, 0, 1024, 0, 8064, 16383, 32767], [14, 15], [999999]) | _ => none
noncomputable abbrev rZ := cFn PP true iF vG (cDr PP 76 zl)
noncomputable def sB : aI := ⟨76, aS rZ, [.cell 10 11 true]⟩
theorem yD : rZ = some sB := by kernel_rfl
def ml (a : Heap) (b : D) (c : D) (d : D) (e : D) (f : D) (g : D) (h : D) (i : D) (j : HJ) (K : HK) : Prop :=
 ∃(k : Nat -> HJ) (l : Nat), k l [zI] a /\ ∀(a : Nat) (l : Nat -> D) (m : Heap), k a [l 14] m -> cq b m fun n => vbin .lss (l 14) n fun n => vcond n (yL c 8 true m fun j => yL d 2 true m fun n => yL e 11 true m fun o => yI b (l 14) 15 m fun p => yL p 15 true m fun p => yF f 0 m fun q => yL q 1 false m fun q => yF f 2 m fun r => yL r 1 false m fun r => an PP (.bld [zI, zI, zI, zI, zI, zI, zI, zI, zJ] [(2, 1, (.c q)), (3, 1, (.c g)), (4, 1, (.c r)), (5, 1, (.c (l 14)))]) m fun q => ag PP gQ [j, n, o, p, q] m fun j m => xS e j 11 m fun j m => xF e 10 m fun j m => xL j 1 false m fun j m => vbin .neq j zI fun j => vcond j (xF e 10 m fun a b => xL a 1 false b fun a b => xF h 10 b fun b c => xS b a 1 c fun a b => xL h 11 true b fun a b => xS i a 11 b fun a b => xL i 11 true b fun a c => K a b) (vbin .add (l 14) (.int .i64 1) fun j => aE [g, c, d, f, i, h, e, b] [g, c, d, f, i, h, e, b] /\ ∃b, b < a /\ k b [j] m)) (aE [c, i, e] [c, i, e] /\ j [] m)
def rJ (a : D) (b : D) (c : D) (d : D) (e : D) (f : Heap) (K : HK) : Prop :=
 ab PP (.box (.c a)) f fun a f => ab PP (.box (.c b)) f fun b f => ab PP (.box (.c c)) f fun c f => ab PP (.box (.c d)) f fun d f => ab PP (.alloc (.agg [zI, zI, zI, zI, .nil, .nil, .nil, .nil, .nil, .nil, zI])) f fun f g => xL c 7 true g fun g h => ab PP (.iadda (.c d) (.c zI) 2 1) h fun h i => xL h 1 false i fun h i => ab PP (.iadda (.c d) (.c (.int .i64 1)) 2 1) i fun i j => xL i 1 false j fun i j => ab PP (.bld [zI, zI, zI, zI, .nil, .nil, .nil, .nil, .nil, .nil, zI] [(0, 7, (.c g)), (7, 1, (.c h)), (8, 1, (.c i))]) j fun g h => ab PP (.alloc (.agg [zI, zI, zI, zI, .nil, .nil, .nil, .nil, .nil, .nil, zI])) h fun h i => xS h g 11 i fun g i => xF c 1 i fun g i => xL g 1 false i fun g i => vbin .neq g (.int .i64 1) fun g => vcond g (xF h 10 i fun a b => xS a (.int .i64 1) 1 b fun a b => xL h 11 true b fun a b => xS f a 11 b fun a b => xL f 11 true b fun a c => K a b) (yL c 7 true i fun g => an PP (.iadda (.c d) (.c zI) 2 1) i fun j => yL j 1 false i fun k => an PP (.iadda (.c d) (.c (.int .i64 1)) 2 1) i fun l => yL l 1 false i fun m => ag PP kS [g] i fun i n => ((an PP (.iadda (.c d) (.c zI) 2 1) n fun a => aE [a] [j]) /\ (yL j 1 false n fun a => aE [a] [k]) /\ (an PP (.iadda (.c d) (.c (.int .i64 1)) 2 1) n fun a => aE [a] [l]) /\ (yL l 1 false n fun a => aE [a] [m]) /\ True) /\ ag PP iI [k] n fun n o => ((an PP (.iadda (.c d) (.c (.int .i64 1)) 2 1) o fun a => aE [a] [l]) /\ (yL l 1 false o fun a => aE [a] [m]) /\ True) /\ ag PP iI [m] o fun o p => an PP (.bld [zI, zI, zI, zI, .nil, .nil, .nil, .nil, .nil, .nil, zI] [(0, 7, (.c i)), (7, 1, (.c n)), (8, 1, (.c o))]) p fun i => ab PP (.alloc (.agg [zI, zI, zI, zI, .nil, .nil, .nil, .nil, .nil, .nil, zI])) p fun n o => ((yL c 7 true o fun a => aE [a] [g]) /\ (an PP (.iadda (.c d) (.c zI) 2 1) o fun a => aE [a] [j]) /\ (yL j 1 false o fun a => aE [a] [k]) /\ (an PP (.iadda (.c d) (.c (.int .i64 1)) 2 1) o fun a => aE [a] [l]) /\ (yL l 1 false o fun a => aE [a] [m]) /\ True) /\ xS n i 11 o fun d g => xF a 7 g fun d g => xL d 1 false g fun d g => xF c 2 g fun g i => xL g 1 false i fun g i => xI d g 14 i fun d g => xF d 0 g fun d g => xL d 1 false g fun d g => ∃(i : HJ), ( ∀(b : Nat -> D) (c : Heap), i [] c -> xL a 8 true c fun a b => xF n 0 b fun b c => xL b 7 true c fun b c => ag PP mP [a, b] c fun a b => xF n 0 b fun b c => xS b a 7 c fun a b => xL n 11 true b fun a b => xS f a 11 b fun a b => xL f 11 true b fun a c => K a b) /\ ml g d a b n c e h f i K)
theorem xB (a0 : D) (a1 : D) (a2 : D) (a3 : D) (a4 : D) (h0 : Heap) (K : HK) : rJ a0 a1 a2 a3 a4 h0 K = eD sB K [a0, a1, a2, a3, a4] h0 := by kernel_rfl
def zQ : TL
 | _ => none
def DO : TT
 | _ => none
noncomputable abbrev yq := cFn PP true iJ zQ (cDr PP 19 DO)
noncomputable def yY : aI := ⟨19, aS yq, [.cell 6 8 true]⟩
theorem C2 : yq = some yY := by kernel_rfl
def xX (a : D) (b : D) (c : D) (d : Heap) (K : HK) : Prop :=
 ab PP (.box (.c a)) d fun a d => ab PP (.box (.c b)) d fun b d => ab PP (.alloc (.agg [zI, zI, zI, zI, .nil, .nil, .nil, zI])) d fun d e => xL a 8 true e fun a e => xL b 7 true e fun b e => ag PP qP [a, b, c] e fun a b => ab PP (.ext (.c a) 0) b fun b c => ab PP (.ext (.c a) 1) c fun a c => ab PP (.alloc (.agg [zI, zI, zI, zI, .nil, .nil, .nil])) c fun c e => xS c b 7 e fun b e => xL c 7 true e fun b c => ab PP (.bld [zI, zI, zI, zI, .nil, .nil, .nil, zI] [(0, 7, (.c b)), (7, 1, (.c a))]) c fun a b => xS d a 8 b fun a b => xL d 8 true b fun a c => K a b
theorem CG (a0 : D) (a1 : D) (a2 : D) (h0 : Heap) (K : HK) : xX a0 a1 a2 h0 K = eD yY K [a0, a1, a2] h0 := by kernel_rfl
def vH : TL
 | 1000008 => some ([6, 7, 8], []) | _ => none
def zm : TT
 | _ => none
noncomputable abbrev sf := cFn PP true iH vH (cDr PP 40 zm)
noncomputable def sC : aI := ⟨40, aS sf, [.cell 6 8 true]⟩
theorem yG : sf = some sC := by kernel_rfl
def rK (a : D) (b : D) (c : D) (d : Heap) (K : HK) : Prop :=
 ab PP (.box (.c a)) d fun a d => ab PP (.box (.c b)) d fun b d => ab PP (.alloc (.agg [zI, zI, zI, zI, .nil, .nil, .nil, zI])) d fun d e => xF b 1 e fun e f => xL e 1 false f fun e f => vbin .neq e (.int .i64 2) fun e => vcond e (xL b 7 true f fun a b => ab PP (.bld [zI, zI, zI, zI, .nil, .nil, .nil, zI] [(0, 7, (.c a)), (7, 1, (.c (.int .i64 1)))]) b fun a b => xS d a 8 b fun a b => xL d 8 true b fun a c => K a b) (xF a 7 f fun a e => xL a 1 false e fun a e => xF b 2 e fun e f => xL e 1 false f fun e f => xI a e 14 f fun a e => xF a 1 e fun a e => xL a 13 true e fun a e => ab PP (.alloc (.agg [zI, zI, zI, zI, zJ, zI, zI, zJ, zI, zI, zJ, zI, zI])) e fun e f => xS e a 13 f fun a f => xL b 7 true f fun a b => ag PP kS [a] b fun a b => ab PP (.alloc (.agg [zI, zI, zI, zI, .nil, .nil, .nil])) b fun b f => xS b a 7 f fun a f => ∃(a : HJ), ( ∀(c : Nat -> D) (f : Heap), a [] f -> xF b 1 f fun a c => xS a (.int .i64 1) 1 c fun a c => xF e 11 c fun a c => ab PP (.iadda (.c a) (.c zI) 2 1) c fun a c => xL a 1 false c fun a c => xF b 2 c fun c e => xS c a 1 e fun a c => xL b 7 true c fun a b => ab PP (.bld [zI, zI, zI, zI, .nil, .nil, .nil, zI] [(0, 7, (.c a))]) b fun a b => xS d a 8 b fun a b => xL d 8 true b fun a c => K a b) /\ xF e 0 f fun f g => xL f 1 false g fun f g => vbin .eql f (.int .i64 4) fun f => vcond f (xF b 4 g fun f g => xL f 1 false g fun f g => xF e 2 g fun g h => xF g 1 h fun g h => xL g 1 false h fun g h => xI f g 1 h fun f g => xS f c 1 g fun c f => aE [d, e, b] [d, e, b] /\ a [] f) (aE [d, e, b] [d, e, b] /\ a [] g))
theorem xD (a0 : D) (a1 : D) (a2 : D) (h0 : Heap) (K : HK) : rK a0 a1 a2 h0 K = eD sC K [a0, a1, a2] h0 := by kernel_rfl
def xg : TL
 | _ => none
def BX : TT
 | _ => none
noncomputable abbrev uE := cFn PP true eH xg (cDr PP 19 BX)
noncomputable def uU : aI := ⟨19, aS uE, [.cell 6 8 true]⟩
theorem AK : uE = some uU := by kernel_rfl
def uh (a : D) (b : D) (c : D) (d : Heap) (K : HK) : Prop :=
 ab PP (.box (.c a)) d fun a d => ab PP (.box (.c b)) d fun b d => ab PP (.alloc (.agg [zI, zI, zI, zI, .nil, .nil, .nil, zI])) d fun d e => xL a 8 true e fun a e => xL b 2 true e fun b e => ag PP oy [a, b, c] e fun a b => ab PP (.ext (.c a) 0) b fun b c => ab PP (.ext (.c a) 1) c fun a c => ab PP (.alloc (.agg [zI, zI, zI, zI, .nil, .nil, .nil])) c fun c e => xS c b 7 e fun b e => xL c 7 true e fun b c => ab PP (.bld [zI, zI, zI, zI, .nil, .nil, .nil, zI] [(0, 7, (.c b)), (7, 1, (.c a))]) c fun a b => xS d a 8 b fun a b => xL d 8 true b fun a c => K a b
theorem At (a0 : D) (a1 : D) (a2 : D) (h0 : Heap) (K : HK) : uh a0 a1 a2 h0 K = eD uU K [a0, a1, a2] h0 := by kernel_rfl
def tf : TL
 | _ => none
def wC : TT
 | 3 => some ([0, 0, 2, 6, 0, 16, 48, 0, 128, 384, 1023, 2047, 4095], [12], []) | _ => none
noncomputable abbrev pK := cFn PP true hO tf (cDr PP 31 wC)
noncomputable def pR : aI := ⟨31, aS pK, [.cell 6 8 true]⟩
theorem we : pK = some pR := by kernel_rfl
def pt (a : D) (b : D) (c : D) (d : Heap) (K : HK) : Prop :=
 ab PP (.box (.c a)) d fun a d => ab PP (.box (.c b)) d fun b d => ab PP (.alloc (.agg [zI, zI, zI, zI, .nil, .nil, .nil, zI])) d fun d e => vbin .lss c zI fun f => vguard f false (fun a => a c e) e fun e g => vguard f false (fun a => xF b 0 g fun b c => a b c) g fun b g => vguard f false (fun a => xL b 1 false g fun b c => a b c) g fun b g => vguard f false (fun b => xF a 0 g fun a c => b a c) g fun g h => vguard f false (fun a => xL g 1 false h fun b c => a b c) h fun g h => vguard f false (fun a => vbin .mul b g fun b => a b h) h fun b g => vguard f false (fun a => vbin .geq e b fun b => a b g) g fun b e => ab PP (.pick (.c f) (.c (.bool true)) (.c b)) e fun b e => vcond b (ab PP (.bld [zI, zI, zI, zI, .nil, .nil, .nil, zI] [(7, 1, (.c (.int .i64 1)))]) e fun a b => xS d a 8 b fun a b => xL d 8 true b fun a c => K a b) (yF a 2 e fun b => yL b 1 false e fun b => an PP (.mk 1 4 zJ (.c b) (.c b)) e fun b => yF a 5 e fun f => yL f 1 false e fun f => an PP (.call fx [(.c f), (.c (.int .i64 3))]) e fun f => yF a 3 e fun a => yL a 1 false e fun a => an PP (.mk 1 4 zJ (.c a) (.c a)) e fun a => an PP (.bld [zI, zI, zI, zI, .nil, .nil, .nil] [(0, 1, (.c c)), (1, 1, (.c (.int .i64 1))), (4, 1, (.c b)), (5, 1, (.c f)), (6, 1, (.c a))]) e fun a => an PP (.bld [zI, zI, zI, zI, .nil, .nil, .nil, zI] [(0, 7, (.c a))]) e fun a => xS d a 8 e fun a b => xL d 8 true b fun a c => K a b)
theorem vX (a0 : D) (a1 : D) (a2 : D) (h0 : Heap) (K : HK) : pt a0 a1 a2 h0 K = eD pR K [a0, a1, a2] h0 := by kernel_rfl
def qR : TL
 | _ => none
def vc : TT
 | _ => none
noncomputable abbrev nM := cFn PP true jm qR (cDr PP 38 vc)
noncomputable def nU : aI := ⟨38, aS nM, [.t 4]⟩
theorem tF : nM = some nU := by kernel_rfl
def nA (a : D) (b : D) (c : Heap) (K : HK) : Prop :=
 ab PP (.box (.c a)) c fun a c => ab PP (.box (.c b)) c fun b c => xF a 10 c fun c d => xL c 1 false d fun c d => xF b 10 d fun d e => xL d 1 false e fun d e => vbin .eql c d fun c => vguard c true (fun b => xF a 0 e fun a c => b a c) e fun d e => vguard c true (fun a => xL d 7 true e fun b c => a b c) e fun d e => vguard c true (fun a => xF b 0 e fun b c => a b c) e fun e f => vguard c true (fun a => xL e 7 true f fun b c => a b c) f fun e f => vguard c true (fun a => ag PP iG [d, e] f fun b c => a b c) f fun d e => ab PP (.pick (.c c) (.c d) (.c (.bool false))) e fun c d => vguard c true (fun b => xF a 7 d fun a c => b a c) d fun d e => vguard c true (fun a => xL d 1 false e fun b c => a b c) e fun d e => vguard c true (fun a => xF b 7 e fun b c => a b c) e fun e f => vguard c true (fun a => xL e 1 false f fun b c => a b c) f fun e f => vguard c true (fun a => ag PP fy [d, e] f fun b c => a b c) f fun d e => ab PP (.pick (.c c) (.c d) (.c (.bool false))) e fun c d => vguard c true (fun b => xF a 8 d fun a c => b a c) d fun d e => vguard c true (fun a => xL d 1 false e fun b c => a b c) e fun d e => vguard c true (fun a => xF b 8 e fun b c => a b c) e fun e f => vguard c true (fun a => xL e 1 false f fun b c => a b c) f fun e f => vguard c true (fun a => ag PP fy [d, e] f fun b c => a b c) f fun d e => ab PP (.pick (.c c) (.c d) (.c (.bool false))) e fun c d => vguard c true (fun b => xF a 9 d fun a c => b a c) d fun a d => vguard c true (fun b => xL a 1 false d fun a c => b a c) d fun a d => vguard c true (fun a => xF b 9 d fun b c => a b c) d fun b d => vguard c true (fun a => xL b 1 false d fun b c => a b c) d fun b d => vguard c true (fun c => ag PP dC [a, b] d fun a b => c a b) d fun a b => ab PP (.pick (.c c) (.c a) (.c (.bool false))) b fun a b => K a b
theorem tu (a0 : D) (a1 : D) (h0 : Heap) (K : HK) : nA a0 a1 h0 K = eD nU K [a0, a1] h0 := by kernel_rfl
end Go.Am
namespace Go.Am
open Go Go.Proofs
def zD : TL
 | _ => none
def DD : TT
 | _ => none
noncomputable abbrev yd := cFn PP true iG zD (cDr PP 52 DD)
noncomputable def yE : aI := ⟨52, aS yd, [.t 4]⟩
theorem CQ : yd = some yE := by kernel_rfl
def xC (a : D) (b : D) (c : Heap) (K : HK) : Prop :=
 ab PP (.box (.c a)) c fun a c => ab PP (.box (.c b)) c fun b c => xF a 0 c fun c d => xL c 1 false d fun c d => xF b 0 d fun d e => xL d 1 false e fun d e => vbin .eql c d fun c => vguard c true (fun b => xF a 1 e fun a c => b a c) e fun d e => vguard c true (fun a => xL d 1 false e fun b c => a b c) e fun d e => vguard c true (fun a => xF b 1 e fun b c => a b c) e fun e f => vguard c true (fun a => xL e 1 false f fun b c => a b c) f fun e f => vguard c true (fun a => vbin .eql d e fun b => a b f) f fun d e => ab PP (.pick (.c c) (.c d) (.c (.bool false))) e fun c d => vguard c true (fun b => xF a 2 d fun a c => b a c) d fun d e => vguard c true (fun a => xL d 1 false e fun b c => a b c) e fun d e => vguard c true (fun a => xF b 2 e fun b c => a b c) e fun e f => vguard c true (fun a => xL e 1 false f fun b c => a b c) f fun e f => vguard c true (fun a => vbin .eql d e fun b => a b f) f fun d e => ab PP (.pick (.c c) (.c d) (.c (.bool false))) e fun c d => vguard c true (fun b => xF a 3 d fun a c => b a c) d fun d e => vguard c true (fun a => xL d 1 false e fun b c => a b c) e fun d e => vguard c true (fun a => xF b 3 e fun b c => a b c) e fun e f => vguard c true (fun a => xL e 1 false f fun b c => a b c) f fun e f => vguard c true (fun a => vbin .eql d e fun b => a b f) f fun d e => ab PP (.pick (.c c) (.c d) (.c (.bool false))) e fun c d => vguard c true (fun b => xF a 4 d fun a c => b a c) d fun d e => vguard c true (fun a => xL d 1 false e fun b c => a b c) e fun d e => vguard c true (fun a => xF b 4 e fun b c => a b c) e fun e f => vguard c true (fun a => xL e 1 false f fun b c => a b c) f fun e f => vguard c true (fun a => ag PP er [d, e] f fun b c => a b c) f fun d e => ab PP (.pick (.c c) (.c d) (.c (.bool false))) e fun c d => vguard c true (fun b => xF a 5 d fun a c => b a c) d fun d e => vguard c true (fun a => xL d 1 false e fun b c => a b c) e fun d e => vguard c true (fun a => xF b 5 e fun b c => a b c) e fun e f => vguard c true (fun a => xL e 1 false f fun b c => a b c) f fun e f => vguard c true (fun a => ag PP fy [d, e] f fun b c => a b c) f fun d e => ab PP (.pick (.c c) (.c d) (.c (.bool false))) e fun c d => vguard c true (fun b => xF a 6 d fun a c => b a c) d fun a d => vguard c true (fun b => xL a 1 false d fun a c => b a c) d fun a d => vguard c true (fun a => xF b 6 d fun b c => a b c) d fun b d => vguard c true (fun a => xL b 1 false d fun b c => a b c) d fun b d => vguard c true (fun c => ag PP er [a, b] d fun a b => c a b) d fun a b => ab PP (.pick (.c c) (.c a) (.c (.bool false))) b fun a b => K a b
theorem Cv (a0 : D) (a1 : D) (h0 : Heap) (K : HK) : xC a0 a1 h0 K = eD yE K [a0, a1] h0 := by kernel_rfl
def zT : TL
 | _ => none
def DR : TT
 | _ => none
noncomputable abbrev yu := cFn PP true bX zT (cDr PP 16 DR)
noncomputable def y8 : aI := ⟨16, aS yu, [.t 4]⟩
theorem C5 : yu = some y8 := by kernel_rfl
def x0 (a : D) (b : D) (c : Heap) (K : HK) : Prop :=
 ab PP (.box (.c a)) c fun a c => ab PP (.box (.c b)) c fun b c => xF b 0 c fun c d => xL c 1 false d fun c d => vbin .eql c (.int .i64 2) fun c => vcond c (xF a 4 d fun a c => xL a 1 false c fun a c => xF b 1 c fun b c => xL b 1 false c fun b c => xI a b 1 c fun a b => xL a 1 false b fun a b => K a b) (xF b 2 d fun a b => xL a 1 false b fun a b => K a b)
theorem CJ (a0 : D) (a1 : D) (h0 : Heap) (K : HK) : x0 a0 a1 h0 K = eD y8 K [a0, a1] h0 := by kernel_rfl
def Ci : TL
 | _ => none
def Ff : TT
 | _ => none
noncomputable abbrev Bs := cFn PP true jF Ci (cDr PP 5 Ff)
noncomputable def BE : aI := ⟨5, aS Bs, [.cell 2 3 true]⟩
theorem E0 : Bs = some BE := by kernel_rfl
def Bf (a : D) (b : Heap) (K : HK) : Prop :=
 ab PP (.alloc (.agg [zI, zI, zJ])) b fun b c => ab PP (.bld [zI, zI, zJ] [(0, 1, (.c (.int .i64 2))), (1, 1, (.c a))]) c fun a c => xS b a 3 c fun a c => xL b 3 true c fun a b => K a c
theorem EJ (a0 : D) (h0 : Heap) (K : HK) : Bf a0 h0 K = eD BE K [a0] h0 := by kernel_rfl
def Cj : TL
 | _ => none
def Fg : TT
 | _ => none
noncomputable abbrev Bt := cFn PP true jG Cj (cDr PP 5 Fg)
noncomputable def BF : aI := ⟨5, aS Bt, [.cell 2 3 true]⟩
theorem E1 : Bt = some BF := by kernel_rfl
def Bg (a : D) (b : Heap) (K : HK) : Prop :=
 ab PP (.alloc (.agg [zI, zI, zJ])) b fun b c => ab PP (.bld [zI, zI, zJ] [(0, 1, (.c (.int .i64 1))), (2, 1, (.c a))]) c fun a c => xS b a 3 c fun a c => xL b 3 true c fun a b => K a c
theorem EK (a0 : D) (h0 : Heap) (K : HK) : Bg a0 h0 K = eD BF K [a0] h0 := by kernel_rfl
def zU : TL
 | 1000014 => some ([], []) | _ => none
def DS : TT
 | _ => none
noncomputable abbrev yv := cFn PP true kV zU (cDr PP 108 DS)
noncomputable def y9 : aI := ⟨108, aS yv, [.t 6]⟩
theorem C6 : yv = some y9 := by kernel_rfl
def ya (a : D) (b : D) (c : D) (d : Heap) (K : HK) : Prop :=
 ab PP (.box (.c a)) d fun a d => ab PP (.box (.c b)) d fun b d => ab PP (.box (.c c)) d fun c d => ∃(e : HJ), ( ∀(a : Nat -> D) (b : Heap), e [] b -> K (.bool false) b) /\ xF c 0 d fun d f => xL d 1 false f fun d f => vbin .lss d zI fun d => vguard d false (fun a => xF c 0 f fun b c => a b c) f fun f g => vguard d false (fun a => xL f 1 false g fun b c => a b c) g fun f g => vguard d false (fun a => xF b 0 g fun b c => a b c) g fun b g => vguard d false (fun a => xL b 1 false g fun b c => a b c) g fun b g => vguard d false (fun b => xF a 0 g fun a c => b a c) g fun g h => vguard d false (fun a => xL g 1 false h fun b c => a b c) h fun g h => vguard d false (fun a => vbin .mul b g fun b => a b h) h fun b g => vguard d false (fun a => vbin .geq f b fun b => a b g) g fun b f => ab PP (.pick (.c d) (.c (.bool true)) (.c b)) f fun b d => vguard b false (fun a => xF c 3 d fun b c => a b c) d fun d f => vguard b false (fun a => xL d 1 false f fun b c => a b c) f fun d f => vguard b false (fun a => vbin .lss d zI fun b => a b f) f fun d f => ab PP (.pick (.c b) (.c (.bool true)) (.c d)) f fun b d => vcond b (aE [] [] /\ e [] d) (xF c 2 d fun b d => xL b 1 false d fun b d => vbin .lss b zI fun b => vguard b false (fun a => xF c 2 d fun b c => a b c) d fun d f => vguard b false (fun a => xL d 1 false f fun b c => a b c) f fun d f => vguard b false (fun b => xF a 7 f fun a c => b a c) f fun f g => vguard b false (fun a => xL f 1 false g fun b c => a b c) g fun f g => vguard b false (fun a => cq f g fun b => a b g) g fun f g => vguard b false (fun a => vbin .geq d f fun b => a b g) g fun d f => ab PP (.pick (.c b) (.c (.bool true)) (.c d)) f fun b d => vcond b (aE [] [] /\ e [] d) (xF c 4 d fun b d => xL b 1 false d fun b d => cq b d fun b => xF a 2 d fun d f => xL d 1 false f fun d f => vbin .neq b d fun b => vguard b false (fun a => xF c 6 f fun b c => a b c) f fun d f => vguard b false (fun a => xL d 1 false f fun b c => a b c) f fun d f => vguard b false (fun a => cq d f fun b => a b f) f fun d f => vguard b false (fun b => xF a 3 f fun a c => b a c) f fun f g => vguard b false (fun a => xL f 1 false g fun b c => a b c) g fun f g => vguard b false (fun a => vbin .neq d f fun b => a b g) g fun d f => ab PP (.pick (.c b) (.c (.bool true)) (.c d)) f fun b d => vguard b false (fun b => xF a 5 d fun a c => b a c) d fun d f => vguard b false (fun a => xL d 1 false f fun b c => a b c) f fun d f => vguard b false (fun a => xF c 5 f fun b c => a b c) f fun f g => vguard b false (fun a => xL f 1 false g fun b c => a b c) g fun f g => vguard b false (fun a => ag PP mV [d, (.int .i64 3), f] g fun b c => a b c) g fun d f => vguard b false (fun a => vun .not d fun b => a b f) f fun d f => ab PP (.pick (.c b) (.c (.bool true)) (.c d)) f fun b d => vcond b (aE [] [] /\ e [] d) (xF c 1 d fun b d => xL b 1 false d fun b d => vbin .eql b (.int .i64 1) fun b => vcond b (K (.bool true) d) (xF c 1 d fun b d => xL b 1 false d fun b d => vbin .eql b (.int .i64 2) fun b => vcond b (xF a 7 d fun a b => xL a 1 false b fun a b => xF c 2 b fun b c => xL b 1 false c fun b c => xI a b 14 c fun a b => xF a 1 b fun a b => xF a 0 b fun a b => xL a 1 false b fun a b => vbin .eql a (.int .i64 3) fun c => vguard c false (fun c => c a b) b fun a b => vguard c false (fun c => vbin .eql a (.int .i64 4) fun a => c a b) b fun a b => ab PP (.pick (.c c) (.c (.bool true)) (.c a)) b fun a b => K a b) (xF c 1 d fun a b => xL a 1 false b fun a b => vbin .eql a (.int .i64 3) fun a => vcond a (xF c 4 b fun a b => xL a 1 false b fun a b => xF c 6 b fun b d => xL b 1 false d fun b d => ab PP (.bldS true 1 2 .nil [(0, (.c a)), (1, (.c b))]) d fun a b => xF c 5 b fun b d => xL b 1 false d fun b d => ab PP (.app (.c a) (.c b) 1 24 .nil) d fun a b => ag PP bW [a] b fun a b => xF c 2 b fun b c => xL b 1 false c fun b c => vbin .eql b zI fun b => vguard b true (fun b => b a c) c fun a c => vguard b true (fun a => a (.fn fN [] []) c) c fun c d => vguard b true (fun b => ag PP bH [a, c] d fun a c => b a c) d fun a c => vguard b true (fun b => vun .not a fun a => b a c) c fun a c => ab PP (.pick (.c b) (.c a) (.c (.bool false))) c fun a b => K a b) (aE [] [] /\ e [] b))))))
theorem CL (a0 : D) (a1 : D) (a2 : D) (h0 : Heap) (K : HK) : ya a0 a1 a2 h0 K = eD y9 K [a0, a1, a2] h0 := by kernel_rfl
def zE : TL
 | _ => none
def DE : TT
 | _ => none
noncomputable abbrev ye := cFn PP true kS zE (cDr PP 18 DE)
noncomputable def yJ : aI := ⟨18, aS ye, [.cell 2 7 true]⟩
theorem CR : ye = some yJ := by kernel_rfl
def xG (a : D) (b : Heap) (K : HK) : Prop :=
 ab PP (.box (.c a)) b fun a b => ab PP (.alloc (.agg [zI, zI, zI, zI, .nil, .nil, .nil])) b fun b c => ab PP (.bldS true 1 0 zJ []) c fun c d => xF a 4 d fun d e => xL d 1 false e fun d e => ab PP (.app (.c c) (.c d) 1 4 zJ) e fun c d => xF a 4 d fun d e => xS d c 1 e fun c d => xF a 5 d fun c d => xL c 1 false d fun c d => ag PP iI [c] d fun c d => xF a 5 d fun d e => xS d c 1 e fun c d => ab PP (.bldS true 1 0 zJ []) d fun c d => xF a 6 d fun d e => xL d 1 false e fun d e => ab PP (.app (.c c) (.c d) 1 4 zJ) e fun c d => xF a 6 d fun d e => xS d c 1 e fun c d => xL a 7 true d fun a c => xS b a 7 c fun a c => xL b 7 true c fun a b => K a c
theorem Cw (a0 : D) (h0 : Heap) (K : HK) : xG a0 h0 K = eD yJ K [a0] h0 := by kernel_rfl
def zL : TL
 | 1000007 => some ([], [3]) | 3 => some ([0], [3, 4]) | _ => none
def DJ : TT
 | _ => none
noncomputable abbrev yj := cFn PP false iI zL (cDr PP 22 DJ)
noncomputable def yR : aI := ⟨22, aS yj, [.t 2]⟩
theorem CW : yj = some yR := by kernel_rfl
def pC (a : D) (b : Heap) (c : D) (d : HJ) : Prop :=
 ∃(e : Nat -> HJ) (f : Nat), e f [a, zI] b /\ ∀(a : Nat) (b : Nat -> D) (f : Heap), e a [b 3, b 4] f -> cq c f fun g => vbin .lss (b 4) g fun g => vcond g (ab PP (.bldS false 1 0 zJ []) f fun d f => xI c (b 4) 1 f fun f g => xL f 1 false g fun f g => ab PP (.app (.c d) (.c f) 1 4 zJ) g fun d f => ab PP (.bldS false 1 1 .nil [(0, (.c d))]) f fun d f => ab PP (.app (.c (b 3)) (.c d) 1 24 .nil) f fun d f => vbin .add (b 4) (.int .i64 1) fun b => aE [c] [c] /\ ∃c, c < a /\ e c [d, b] f) (aE [] [] /\ d [(b 3)] f)
def xP (a : D) (b : Heap) (K : HK) : Prop :=
 ab PP (.bldS false 1 0 .nil []) b fun b c => ∃(d : HJ), ( ∀(a : Nat -> D) (b : Heap), d [a 3] b -> K (a 3) b) /\ pC b c a d
theorem CB (a0 : D) (h0 : Heap) (K : HK) : xP a0 h0 K = eD yR K [a0] h0 := by kernel_rfl
def zH : TL
 | 1000009 => some ([], []) | 4 => some ([0, 1], [5]) | _ => none
def DH : TT
 | 6 => some ([0, 0, 3, 7, 0, 0, 48, 112, 255, 511], [], []) | _ => none
noncomputable abbrev yh := cFn PP true fy zH (cDr PP 27 DH)
noncomputable def yN : aI := ⟨27, aS yh, [.t 4]⟩
theorem CU : yh = some yN := by kernel_rfl
def pB (a : Heap) (b : D) (c : D) (d : HJ) (K : HK) : Prop :=
 ∃(e : Nat -> HJ) (f : Nat), e f [zI] a /\ ∀(a : Nat) (f : Nat -> D) (g : Heap), e a [f 5] g -> cq b g fun h => vbin .lss (f 5) h fun h => vcond h (yI b (f 5) 1 g fun d => yL d 1 false g fun d => yI c (f 5) 1 g fun h => yL h 1 false g fun h => an PP (.call er [(.c d), (.c h)]) g fun d => vun .not d fun d => vcond d (K (.bool false) g) (vbin .add (f 5) (.int .i64 1) fun d => aE [b, c] [b, c] /\ ∃b, b < a /\ e b [d] g)) (aE [] [] /\ d [] g)
def xK (a : D) (b : D) (c : Heap) (K : HK) : Prop :=
 cq a c fun d => cq b c fun e => vbin .neq d e fun d => vcond d (K (.bool false) c) ( ∃(d : HJ), ( ∀(a : Nat -> D) (b : Heap), d [] b -> K (.bool true) b) /\ pB c a b d K)
theorem Cz (a0 : D) (a1 : D) (h0 : Heap) (K : HK) : xK a0 a1 h0 K = eD yN K [a0, a1] h0 := by kernel_rfl
def oD : TL
 | 1000009 => some ([], []) | 4 => some ([0, 1], [5]) | _ => none
def qz : TT
 | 6 => some ([0, 0, 3, 7, 0, 0, 48, 112, 255], [], []) | _ => none
noncomputable abbrev lP := cFn PP true dC oD (cDr PP 26 qz)
noncomputable def lV : aI := ⟨26, aS lP, [.t 4]⟩
theorem qj : lP = some lV := by kernel_rfl
def jg (a : Heap) (b : D) (c : D) (d : HJ) (K : HK) : Prop :=
 ∃(e : Nat -> HJ) (f : Nat), e f [zI] a /\ ∀(a : Nat) (f : Nat -> D) (g : Heap), e a [f 5] g -> cq b g fun h => vbin .lss (f 5) h fun h => vcond h (yI b (f 5) 9 g fun d => yL d 9 true g fun d => yI c (f 5) 9 g fun h => yL h 9 true g fun h => an PP (.eqv true true [.i, .i, .i, .i, .i, .i, .i, .i, .i] (.c d) (.c h)) g fun d => vcond d (K (.bool false) g) (vbin .add (f 5) (.int .i64 1) fun d => aE [b, c] [b, c] /\ ∃b, b < a /\ e b [d] g)) (aE [] [] /\ d [] g)
def lL (a : D) (b : D) (c : Heap) (K : HK) : Prop :=
 cq a c fun d => cq b c fun e => vbin .neq d e fun d => vcond d (K (.bool false) c) ( ∃(d : HJ), ( ∀(a : Nat -> D) (b : Heap), d [] b -> K (.bool true) b) /\ jg c a b d K)
theorem qe (a0 : D) (a1 : D) (h0 : Heap) (K : HK) : lL a0 a1 h0 K = eD lV K [a0, a1] h0 := by kernel_rfl
def tg : TL
 | _ => none
def wD : TT
 | _ => none
noncomputable abbrev pL := cFn PP true hU tg (cDr PP 18 wD)
noncomputable def pS : aI := ⟨18, aS pL, [.cell 2 8 true]⟩
theorem wg : pL = some pS := by kernel_rfl
def pE (a : D) (b : Heap) (K : HK) : Prop :=
 ab PP (.alloc (.agg [zI, zI, zI, zI, zI, .nil, .nil, .nil])) b fun b c => ag PP jF [zI] c fun c d => ab PP (.bld [zI, zI, zI, zI, zI, zJ, zI, zI, zJ, zI, zI, zJ, zI, zI, zJ] [(0, 1, (.c (.int .i64 5))), (1, 1, (.c (.int .i64 1))), (3, 3, (.c c))]) d fun c d => ag PP jF [zI] d fun d e => ag PP jG [(.int .i32 7)] e fun e f => ab PP (.bld [zI, zI, zI, zI, zI, zJ, zI, zI, zJ, zI, zI, zJ, zI, zI, zJ] [(0, 1, (.c (.int .i64 8))), (6, 3, (.c d)), (9, 3, (.c e))]) f fun d e => ab PP (.bldS true 15 2 (.agg [zI, zI, zI, zI, zI, zJ, zI, zI, zJ, zI, zI, zJ, zI, zI, zJ]) [(0, (.c c)), (1, (.c d))]) e fun c d => ab PP (.bld [(.str ⟨#[]⟩), zI, zI, zI] [(0, 1, (.c (.str ⟨#[97]⟩))), (1, 1, (.c (.int .i64 1))), (2, 1, (.c (.int .i64 1))), (3, 1, (.c a))]) d fun a d => ab PP (.bldS true 4 1 (.agg [(.str ⟨#[]⟩), zI, zI, zI]) [(0, (.c a))]) d fun a d => ab PP (.bld [zI, zI, zI, zI, zJ, zI, zI, zJ, zI, zI, zJ, zI, zI] [(0, 1, (.c (.int .i64 5)))]) d fun d e => ab PP (.bld [.nil, zI, zI, zI, zI, zJ, zI, zI, zJ, zI, zI, zJ, zI, zI] [(0, 1, (.c c)), (1, 13, (.c d))]) e fun c d => ab PP (.bldS true 14 1 (.agg [.nil, zI, zI, zI, zI, zJ, zI, zI, zJ, zI, zI, zJ, zI, zI]) [(0, (.c c))]) d fun c d => ab PP (.bld [zI, zI, zI, zI, zI, .nil, .nil, .nil] [(0, 1, (.c (.int .i64 4))), (1, 1, (.c (.int .i64 1))), (2, 1, (.c (.int .i64 1))), (5, 1, (.c a)), (7, 1, (.c c))]) d fun a c => xS b a 8 c fun a c => xL b 8 true c fun a b => K a c
theorem vY (a0 : D) (h0 : Heap) (K : HK) : pE a0 h0 K = eD pS K [a0] h0 := by kernel_rfl
def zF : TL
 | 1000008 => some ([2, 3], []) | 4 => some ([2, 3], [4]) | 1000019 => some ([2, 3], []) | 8 => some ([2, 3], [5]) | 1000010 => some ([2, 3, 5], []) | 1000015 => some ([2, 3, 5], []) | 1000024 => some ([2, 3], []) | _ => none
def DF : TT
 | 2 => some ([0, 0, 0, 4, 12, 30, 62, 12, 254, 511, 1023, 2047], [3, 11], [999999]) | 4 => some ([0, 1, 3, 7, 15, 31, 63, 127, 7, 263, 775, 1799, 3847, 7943, 16383, 32767, 65535], [], []) | 17 => some ([0, 1, 3, 7, 15, 0, 0, 64, 192, 448, 0, 1216, 0, 7360, 0, 31936, 0, 65536, 196608, 524224, 1048575, 2097151, 4194303], [7, 11, 13, 15, 22], [999999]) | 23 => some ([0, 1, 3, 7, 15, 0, 32, 96, 224, 480, 992, 2016, 0, 8191, 16383, 32767], [15], []) | _ => none
noncomputable abbrev yf := cFn PP true ou zF (cDr PP 153 DF)
noncomputable def yK : aI := ⟨153, aS yf, [.cell 2 8 true]⟩
theorem CS : yf = some yK := by kernel_rfl
def ko (a : D) (b : Heap) (c : D) (d : D) (e : HJ) : Prop :=
 ∃(f : Nat -> HJ) (g : Nat), f g [a] b /\ ∀(a : Nat) (b : Nat -> D) (g : Heap), f a [b 5] g -> vbin .gtr (b 5) zI fun h => vcond h ( ∃(e : HJ), ( ∀(g : Nat -> D) (h : Heap), e [] h -> vbin .sub (b 5) (.int .i64 1) fun b => aE [c, d] [c, d] /\ ∃c, c < a /\ f c [b] h) /\ ag PP ak [d] g fun a f => vbin .rem a (.int .i64 3) fun a => ag PP eo [d, a] f fun a f => ∃(a : HJ), ( ∀(f : Nat -> D) (g : Heap), a [] g -> xF d 0 g fun a f => xF a 2 f fun a f => xF a 7 f fun a f => xL a 1 false f fun a f => cq a f fun a => vbin .sub a (.int .i64 1) fun a => xF d 0 f fun f g => xF f 2 g fun f g => xF f 7 g fun f g => xL f 1 false g fun f g => vbin .add a (.int .i64 1) fun h => ab PP (.bld [zI, zI] [(0, 1, (.c h)), (1, 1, (.c zI))]) g fun g h => ab PP (.bld [zI, zI, zI, zI, zJ, zI, zI, zJ, zI, zI, zJ, zI, zI] [(0, 1, (.c (.int .i64 3))), (11, 2, (.c g))]) h fun g h => xI f a 14 h fun f h => xF f 1 h fun f h => xS f g 13 h fun f g => ag PP ak [d] g fun f g => vbin .rem f (.int .i64 3) fun f => vbin .eql f zI fun f => vcond f (yF d 0 g fun f => yF f 2 g fun h => yF h 7 g fun i => yL i 1 false g fun j => vbin .add a (.int .i64 1) fun k => an PP (.bld [zI, zI] [(0, 1, (.c k)), (1, 1, (.c zI))]) g fun k => ag PP ak [d] g fun g l => ((yF d 0 l fun a => aE [a] [f]) /\ (yF f 2 l fun a => aE [a] [h]) /\ (yF h 7 l fun a => aE [a] [i]) /\ (yL i 1 false l fun a => aE [a] [j]) /\ True) /\ vbin .rem g (.int .i64 6) fun g => vbin .add (.int .i64 1) g fun g => ag PP bb [d] l fun l m => ((yF d 0 m fun a => aE [a] [f]) /\ (yF f 2 m fun a => aE [a] [h]) /\ (yF h 7 m fun a => aE [a] [i]) /\ (yL i 1 false m fun a => aE [a] [j]) /\ True) /\ ag PP aZ [d] m fun m n => ((yF d 0 n fun a => aE [a] [f]) /\ (yF f 2 n fun a => aE [a] [h]) /\ (yF h 7 n fun a => aE [a] [i]) /\ (yL i 1 false n fun a => aE [a] [j]) /\ True) /\ ag PP aZ [d] n fun n o => ((yF d 0 o fun a => aE [a] [f]) /\ (yF f 2 o fun a => aE [a] [h]) /\ (yF h 7 o fun a => aE [a] [i]) /\ (yL i 1 false o fun a => aE [a] [j]) /\ True) /\ an PP (.bld [zI, zI, zI, zI, zJ, zI, zI, zJ, zI, zI, zJ, zI, zI] [(0, 1, (.c (.int .i64 4))), (1, 1, (.c g)), (2, 3, (.c l)), (5, 3, (.c m)), (8, 3, (.c n)), (11, 2, (.c k))]) o fun f => yI j a 14 o fun a => yF a 1 o fun a => xS a f 13 o fun a f => aE [c, d, (b 5)] [c, d, (b 5)] /\ e [] f) (aE [c, d, (b 5)] [c, d, (b 5)] /\ e [] g)) /\ ag PP ak [d] f fun e f => vbin .rem e (.int .i64 3) fun e => vbin .eql e zI fun e => vcond e (ag PP dD [d] f fun e f => ag PP bg [d] f fun e f => aE [c, d, (b 5)] [c, d, (b 5)] /\ a [] f) (aE [c, d, (b 5)] [c, d, (b 5)] /\ a [] f)) (aE [c, d] [c, d] /\ e [] g)
def kn (a : D) (b : Heap) (c : D) (d : D) (e : HJ) : Prop :=
 ∃(f : Nat -> HJ) (g : Nat), f g [a] b /\ ∀(a : Nat) (b : Nat -> D) (g : Heap), f a [b 4] g -> vbin .gtr (b 4) zI fun h => aO h true (fun a => a c) fun i => aO h true (fun a => yF i 0 g fun b => a b) fun i => aO h true (fun a => yF i 2 g fun b => a b) fun i => aO h true (fun a => yF i 0 g fun b => a b) fun i => aO h true (fun a => yL i 1 false g fun b => a b) fun i => aO h true (fun a => a c) fun j => aO h true (fun a => yF j 0 g fun b => a b) fun j => aO h true (fun a => yF j 2 g fun b => a b) fun j => aO h true (fun a => yF j 1 g fun b => a b) fun j => aO h true (fun a => yL j 1 false g fun b => a b) fun j => aO h true (fun a => vbin .mul (.int .i64 2) j fun b => a b) fun j => aO h true (fun a => vbin .rem i j fun b => a b) fun i => aO h true (fun a => vbin .eql i zI fun b => a b) fun i => an PP (.pick (.c h) (.c i) (.c (.bool false))) g fun h => vcond h (xF c 0 g fun e g => xF e 2 g fun e g => xF e 1 g fun e g => xL e 1 false g fun e g => vbin .mul (.int .i64 2) e fun e => xF c 0 g fun g h => xF g 2 h fun g h => xF g 1 h fun g h => xS g e 1 h fun e g => vbin .sub (b 4) (.int .i64 1) fun b => aE [d, c] [d, c] /\ ∃c, c < a /\ f c [b] g) (aE [d, c] [d, c] /\ e [] g)
def xH (a : D) (b : Heap) (K : HK) : Prop :=
 ab PP (.box (.c a)) b fun a b => ab PP (.alloc (.agg [zI, zI, zI, zI, zI, .nil, .nil, .nil])) b fun b c => xF a 0 c fun a c => xL a 1 false c fun a c => ab PP (.bld [.nil, zI, zI, zI, zI, zI, zI, .nil, .nil, .nil] [(0, 1, (.c a))]) c fun a c => ab PP (.box (.c a)) c fun a c => an PP (.bldS false 1 5 zI [(0, (.c (.int .i64 4))), (1, (.c (.int .i64 1))), (2, (.c (.int .i64 2))), (3, (.c (.int .i64 8))), (4, (.c (.int .i64 6)))]) c fun d => ag PP ak [a] c fun c e => vbin .rem c (.int .i64 5) fun c => yI d c 1 e fun c => yL c 1 false e fun c => an PP (.call lC []) e fun d => an PP (.bld [zI, zI, zI, zI, zI, .nil, .nil, .nil] [(0, 1, (.c c)), (1, 1, (.c (.int .i64 1))), (2, 1, (.c (.int .i64 6))), (4, 1, (.c (.int .i64 3))), (5, 1, (.c d))]) e fun c => yF a 0 e fun d => yF d 2 e fun d => xS d c 8 e fun c d => ∃(c : HJ), ( ∀(d : Nat -> D) (e : Heap), c [] e -> ∃(c : HJ), ( ∀(d : Nat -> D) (e : Heap), c [] e -> ag PP ak [a] e fun c d => vbin .rem c (.int .i64 3) fun c => ag PP eo [a, c] d fun c d => ∃(c : HJ), ( ∀(d : Nat -> D) (e : Heap), c [] e -> yF a 0 e fun c => yF c 2 e fun c => yF c 7 e fun c => yL c 1 false e fun c => yF a 0 e fun d => yF d 2 e fun d => yF d 7 e fun d => yL d 1 false e fun d => cq d e fun d => vbin .sub d (.int .i64 1) fun d => an PP (.bld [zI, zI, zI, zI, zJ, zI, zI, zJ, zI, zI, zJ, zI, zI] [(0, 1, (.c (.int .i64 5)))]) e fun f => yI c d 14 e fun c => yF c 1 e fun c => xS c f 13 e fun c d => xF a 0 d fun a c => xF a 2 c fun a c => xL a 8 true c fun a c => xS b a 8 c fun a c => xL b 8 true c fun a b => K a c) /\ ag PP ak [a] d fun d e => vbin .rem d (.int .i64 3) fun d => vbin .eql d zI fun d => vcond d (ag PP dD [a] e fun d e => ag PP bg [a] e fun d e => ag PP cn [a] e fun d e => aE [b, a] [b, a] /\ c [] e) (aE [b, a] [b, a] /\ c [] e)) /\ ag PP ak [a] e fun d e => vbin .rem d (.int .i64 3) fun d => ko d e b a c) /\ ag PP ak [a] d fun d e => vbin .rem d (.int .i64 3) fun d => kn d e a b c
theorem Cx (a0 : D) (h0 : Heap) (K : HK) : xH a0 h0 K = eD yK K [a0] h0 := by kernel_rfl
def vI : TL
 | 1000009 => some ([1, 2, 3], []) | 3 => some ([1, 2, 3], [4]) | _ => none
def zn : TT
 | _ => none
noncomputable abbrev sg := cFn PP true lz vI (cDr PP 32 zn)
noncomputable def sD : aI := ⟨32, aS sg, [.cell 2 8 true]⟩
theorem yH : sg = some sD := by kernel_rfl
def mm (a : Heap) (b : D) (c : D) (d : D) (e : HJ) : Prop :=
 ∃(f : Nat -> HJ) (g : Nat), f g [zI] a /\ ∀(a : Nat) (g : Nat -> D) (h : Heap), f a [g 4] h -> cq b h fun i => vbin .lss (g 4) i fun i => vcond i (xI b (g 4) 4 h fun e h => xL e 4 true h fun e h => ab PP (.alloc (.agg [(.str ⟨#[]⟩), zI, zI, zI])) h fun h i => xS h e 4 i fun e i => xF h 3 i fun e i => xL e 1 false i fun e i => vbin .quo e (.int .i64 2) fun e => ab PP (.mx (.c e) (.c (.int .i64 1))) i fun e i => xF h 3 i fun i j => xS i e 1 j fun e i => xL h 4 true i fun e h => xI b (g 4) 4 h fun h i => xS h e 4 i fun e h => vbin .add (g 4) (.int .i64 1) fun e => aE [c, d, b] [c, d, b] /\ ∃b, b < a /\ f b [e] h) (aE [c, d, b] [c, d, b] /\ e [] h)
def rL (a : D) (b : Heap) (K : HK) : Prop :=
 ab PP (.box (.c a)) b fun a b => ab PP (.alloc (.agg [zI, zI, zI, zI, zI, .nil, .nil, .nil])) b fun b c => ab PP (.bldS true 4 0 (.agg [(.str ⟨#[]⟩), zI, zI, zI]) []) c fun c d => xF a 5 d fun d e => xL d 1 false e fun d e => ab PP (.app (.c c) (.c d) 4 40 (.agg [(.str ⟨#[]⟩), zI, zI, zI])) e fun c d => ∃(e : HJ), ( ∀(d : Nat -> D) (f : Heap), e [] f -> xF a 5 f fun d e => xS d c 1 e fun c d => xL a 8 true d fun a c => xS b a 8 c fun a c => xL b 8 true c fun a b => K a c) /\ mm d c a b e
theorem xE (a0 : D) (h0 : Heap) (K : HK) : rL a0 h0 K = eD sD K [a0] h0 := by kernel_rfl
def vK : TL
 | 1000005 => some ([2, 3, 4, 5], []) | 1000009 => some ([4, 5], []) | 5 => some ([2, 3, 4, 5], [6]) | _ => none
def zp : TT
 | 3 => some ([0, 1, 0, 4, 12, 31, 63, 127, 255], [8], []) | 7 => some ([0, 1, 0, 4, 0, 28, 60, 124, 252, 511, 1023, 2047], [9, 11], []) | _ => none
noncomputable abbrev sj := cFn PP true lB vK (cDr PP 42 zp)
noncomputable def sH : aI := ⟨42, aS sj, [.cell 4 2 true]⟩
theorem yP : sj = some sH := by kernel_rfl
def mz (a : Heap) (b : D) (c : D) (d : D) (e : D) (f : HJ) : Prop :=
 ∃(g : Nat -> HJ) (h : Nat), g h [zI] a /\ ∀(a : Nat) (h : Nat -> D) (i : Heap), g a [h 6] i -> xF b 4 i fun i j => xL i 1 false j fun i j => vbin .lss (h 6) i fun i => vcond i (yF c 1 j fun f => yL f 1 false j fun f => vbin .rem (h 6) (.int .i64 8) fun i => yF d 1 j fun k => an PP (.iadda (.c k) (.c i) 8 1) j fun i => yL i 1 false j fun i => an PP (.conv .i32 (.c i)) j fun i => an PP (.bldS false 1 1 zJ [(0, (.c i))]) j fun i => yF c 1 j fun k => ab PP (.app (.c f) (.c i) 1 4 zJ) j fun f i => xS k f 1 i fun f i => vbin .add (h 6) (.int .i64 1) fun f => aE [b, d, e, c] [b, d, e, c] /\ ∃b, b < a /\ g b [f] i) (aE [e, c] [e, c] /\ f [] j)
def rP (a : D) (b : D) (c : Heap) (K : HK) : Prop :=
 ab PP (.box (.c a)) c fun a c => ab PP (.box (.c b)) c fun b c => ab PP (.alloc (.agg [zI, .nil])) c fun c d => xF b 0 d fun d e => xL d 1 false e fun d e => vbin .rem d (.int .u8 3) fun d => ab PP (.conv .i64 (.c d)) e fun d e => vbin .add (.int .i64 1) d fun d => ab PP (.bld [zI, .nil] [(0, 1, (.c d))]) e fun d e => ab PP (.alloc (.agg [zI, .nil])) e fun e f => xS e d 2 f fun d f => ∃(d : HJ), ( ∀(f : Nat -> D) (g : Heap), d [] g -> ∃(d : HJ), ( ∀(a : Nat -> D) (b : Heap), d [] b -> xL e 2 true b fun a b => xS c a 2 b fun a b => xL c 2 true b fun a c => K a b) /\ mz g a e b c d) /\ xF a 0 f fun f g => xL f 1 false g fun f g => vbin .gtr f zI fun f => vcond f (yF e 0 g fun f => yL f 1 false g fun f => yF a 0 g fun h => yL h 1 false g fun h => vbin .quo (.int .i64 4096) h fun h => an PP (.mn (.c f) (.c h)) g fun f => an PP (.mx (.c f) (.c (.int .i64 1))) g fun f => yF e 0 g fun h => xS h f 1 g fun f g => aE [a, b, c, e] [a, b, c, e] /\ d [] g) (aE [a, b, c, e] [a, b, c, e] /\ d [] g)
theorem xN (a0 : D) (a1 : D) (h0 : Heap) (K : HK) : rP a0 a1 h0 K = eD sH K [a0, a1] h0 := by kernel_rfl
end Go.Am
namespace Go.Am
open Go Go.Proofs
def w7 : TL
 | 1000012 => some ([10, 11], []) | 3 => some ([3, 5, 6, 10, 11], [12]) | 1000005 => some ([3, 5, 6, 10, 11, 12], []) | _ => none
def BO : TT
 | 1 => some ([0, 0, 0, 7, 15, 0, 0, 64, 207, 511, 0, 2047], [3, 8, 10, 11], [999998, 2]) | _ => none
noncomputable abbrev uu := cFn PP true mQ w7 (cDr PP 66 BO)
noncomputable def uL : aI := ⟨66, aS uu, [.cell 10 11 true]⟩
theorem AA : uu = some uL := by kernel_rfl
def nB (a : Heap) (b : D) (c : D) (d : D) (e : D) (f : D) (g : HJ) (K : HK) : Prop :=
 ∃(h : Nat -> HJ) (i : Nat), h i [zI] a /\ ∀(a : Nat) (i : Nat -> D) (j : Heap), h a [i 12] j -> vbin .lss (i 12) b fun k => vguard k true (fun a => xF c 0 j fun b c => a b c) j fun j l => vguard k true (fun a => xF j 1 l fun b c => a b c) l fun j l => vguard k true (fun a => xL j 1 false l fun b c => a b c) l fun j l => vguard k true (fun a => vbin .neq j (.int .i64 3) fun b => a b l) l fun j l => ab PP (.pick (.c k) (.c j) (.c (.bool false))) l fun j k => vcond j ( ∃(g : HJ), ( ∀(j : Nat -> D) (k : Heap), g [] k -> vbin .add (i 12) (.int .i64 1) fun g => aE [b, d, e, f, c] [b, d, e, f, c] /\ ∃b, b < a /\ h b [g] k) /\ xF c 0 k fun a h => xF a 1 h fun a h => xL a 1 false h fun a h => vbin .eql a (.int .i64 2) fun a => vcond a (xL d 8 true h fun a h => xF c 0 h fun h j => xL h 7 true j fun h j => vbin .rem (i 12) (.int .i64 3) fun k => ab PP (.conv .i32 (.c k)) j fun j k => ag PP iH [a, h, j] k fun a h => ab PP (.fld (.c a) 0 7 true) h fun a h => xF c 0 h fun h j => xS h a 7 j fun a h => aE [b, d, e, f, c, (i 12)] [b, d, e, f, c, (i 12)] /\ g [] h) (xL d 8 true h fun a h => xL e 2 true h fun h j => xF c 0 j fun j k => xL j 7 true k fun j k => xF c 7 k fun k l => xL k 1 false l fun k l => xF c 8 l fun l m => xL l 1 false m fun l m => ab PP (.bld [.nil, .nil] [(0, 1, (.c k)), (1, 1, (.c l))]) m fun k l => ag PP iF [a, h, j, k, (i 12)] l fun a h => ab PP (.alloc (.agg [zI, zI, zI, zI, .nil, .nil, .nil, .nil, .nil, .nil, zI])) h fun h j => xS h a 11 j fun a j => xF h 10 j fun a j => xL a 1 false j fun a j => vbin .neq a zI fun a => vcond a (xL c 11 true j fun a b => xS f a 11 b fun a b => xL f 11 true b fun a c => K a b) (xL h 11 true j fun a h => xS c a 11 h fun a h => aE [b, d, e, f, c, (i 12)] [b, d, e, f, c, (i 12)] /\ g [] h))) (aE [f, c] [f, c] /\ g [] k)
def tW (a : D) (b : D) (c : D) (d : D) (e : D) (f : Heap) (K : HK) : Prop :=
 ab PP (.box (.c a)) f fun a f => ab PP (.box (.c b)) f fun b f => ab PP (.alloc (.agg [zI, zI, zI, zI, .nil, .nil, .nil, .nil, .nil, .nil, zI])) f fun f g => yL a 8 true g fun h => yL b 2 true g fun i => yF a 5 g fun j => yL j 1 false g fun k => ag PP hO [h, i, c] g fun c g => ((yF a 5 g fun a => aE [a] [j]) /\ (yL j 1 false g fun a => aE [a] [k]) /\ True) /\ an PP (.fld (.c c) 0 7 true) g fun c => ag PP fx [k, (.int .i64 2)] g fun g l => an PP (.bld [zI, zI, zI, zI, .nil, .nil, .nil, .nil, .nil, .nil, zI] [(0, 7, (.c c)), (7, 1, (.c e)), (8, 1, (.c g))]) l fun c => ab PP (.alloc (.agg [zI, zI, zI, zI, .nil, .nil, .nil, .nil, .nil, .nil, zI])) l fun e g => ((yL a 8 true g fun a => aE [a] [h]) /\ (yL b 2 true g fun a => aE [a] [i]) /\ (yF a 5 g fun a => aE [a] [j]) /\ (yL j 1 false g fun a => aE [a] [k]) /\ True) /\ xS e c 11 g fun c g => ∃(c : HJ), ( ∀(a : Nat -> D) (b : Heap), c [] b -> xF e 9 b fun a b => ab PP (.st (.c a) (.c .nil) 1) b fun a b => xL e 11 true b fun a b => xS f a 11 b fun a b => xL f 11 true b fun a c => K a b) /\ nB g d e a b f c K
theorem Aj (a0 : D) (a1 : D) (a2 : D) (a3 : D) (a4 : D) (h0 : Heap) (K : HK) : tW a0 a1 a2 a3 a4 h0 K = eD uL K [a0, a1, a2, a3, a4] h0 := by kernel_rfl
def vJ : TL
 | 1000010 => some ([5], []) | 3 => some ([3, 5], [6]) | 1000005 => some ([3, 5, 6], []) | 6 => some ([3, 5, 6], [7]) | _ => none
def zo : TT
 | 8 => some ([0, 0, 3, 7, 0, 0, 0, 96, 224, 0, 992, 2016, 4064, 0, 0, 24576, 57344, 122880, 262112, 524287, 1048575], [20], []) | _ => none
noncomputable abbrev si := cFn PP true lA vJ (cDr PP 47 zo)
noncomputable def sG : aI := ⟨47, aS si, [.t 4]⟩
theorem yO : si = some sG := by kernel_rfl
def my (a : Heap) (b : D) (c : Nat -> D) (d : D) (e : HJ) : Prop :=
 ∃(f : Nat -> HJ) (g : Nat), f g [zI] a /\ ∀(a : Nat) (g : Nat -> D) (h : Heap), f a [g 7] h -> xI b (c 6) 1 h fun h i => xL h 1 false i fun h i => cq h i fun h => vbin .lss (g 7) h fun h => vcond h (yI b (c 6) 1 i fun e => yL e 1 false i fun e => vbin .add (c 6) (g 7) fun h => vbin .rem h (.int .i64 4) fun h => yF d 9 i fun j => an PP (.iadda (.c j) (.c h) 4 1) i fun h => yL h 1 false i fun h => an PP (.conv .i32 (.c h)) i fun h => vbin .mul (g 7) (c 6) fun j => vbin .rem j (.int .i64 5) fun j => an PP (.conv .i32 (.c j)) i fun j => vbin .add h j fun h => yI e (g 7) 1 i fun e => xS e h 1 i fun e h => vbin .add (g 7) (.int .i64 1) fun e => aE [d, b, (c 6)] [d, b, (c 6)] /\ ∃b, b < a /\ f b [e] h) (aE [d, b, (c 6)] [d, b, (c 6)] /\ e [] i)
def mu (a : Heap) (b : D) (c : D) (d : HJ) : Prop :=
 ∃(e : Nat -> HJ) (f : Nat), e f [zI] a /\ ∀(a : Nat) (f : Nat -> D) (g : Heap), e a [f 6] g -> cq b g fun h => vbin .lss (f 6) h fun h => vcond h ( ∃(d : HJ), ( ∀(g : Nat -> D) (h : Heap), d [] h -> vbin .add (f 6) (.int .i64 1) fun d => aE [c, b] [c, b] /\ ∃b, b < a /\ e b [d] h) /\ my g b f c d) (aE [b] [b] /\ d [] g)
def rO (a : D) (b : D) (c : Heap) (K : HK) : Prop :=
 ab PP (.box (.c a)) c fun a c => ab PP (.box (.c b)) c fun b c => xF a 5 c fun a c => xL a 1 false c fun a c => ag PP fx [a, (.int .i64 1)] c fun a c => ∃(d : HJ), ( ∀(b : Nat -> D) (c : Heap), d [] c -> K a c) /\ mu c a b d
theorem xM (a0 : D) (a1 : D) (h0 : Heap) (K : HK) : rO a0 a1 h0 K = eD sG K [a0, a1] h0 := by kernel_rfl
def Cn : TL
 | 1000012 => some ([12, 13, 14, 15, 16, 17], []) | 7 => some ([5, 8, 12, 13, 14, 15, 16, 17, 64, 65], [66]) | 8000009 => some ([1], []) | _ => none
def Fk : TT
 | 2 => some ([0, 0, 0, 1, 11, 31, 63, 127], [3, 4, 5, 6, 7], [1, 2]) | 4 => some ([0, 0, 0, 0, 8, 0, 56, 0, 255, 511, 1023], [4, 6, 7, 9], [999998, 2]) | 5 => some ([0, 0, 0, 0, 8, 24, 0, 64, 248, 0, 512, 2040, 4089, 8185, 16377, 32761, 65531, 131067, 262139, 524283, 1048575, 2097151, 4194303, 8388607], [5, 8, 11, 15, 19, 23], [999999]) | 11 => some ([0, 1, 0, 4, 12, 28, 0, 64, 192, 448, 0, 1024, 3072, 7168, 3, 16447, 50175, 131071, 262143], [1, 14, 15, 16, 17, 18], [999999]) | _ => none
def BJ : FZ := ⟨96,
 [(.pr [⟨(some 6), .box (.t 0), none⟩,
  ⟨(some 7), .box (.t 1), none⟩,
  ⟨(some 8), .box (.t 2), none⟩,
  ⟨(some 9), .box (.t 3), none⟩,
  ⟨(some 10), .box (.t 4), none⟩,
  ⟨(some 12), .alloc (.agg [(.int .i64 0), (.int .i64 0), (.int .i64 0), (.int .i64 0), .nil, .nil, .nil]), none⟩,
  ⟨(some 13), .alloc .nil, none⟩,
  ⟨(some 14), .alloc .nil, none⟩,
  ⟨(some 15), .alloc .nil, none⟩,
  ⟨(some 16), .alloc (.int .i64 0), none⟩]), (.seq (.pr [⟨(some 20), .fadd (.t 8) 1, none⟩,
  ⟨(some 21), .ld (.t 20) 1 false, none⟩,
  ⟨(some 22), .bin .neq (.t 21) (.c (.int .i64 1)), none⟩]) <|
 .cond (.t 22) (.seq (.dreg [⟨(some 23), .ld (.t 8) 7 true, none⟩,
  ⟨(some 24), .ld (.t 9) 1 false, none⟩,
  ⟨(some 25), .ld (.t 10) 1 false, none⟩] [⟨none, .st (.t 12) (.t 23) 7, none⟩,
  ⟨none, .st (.t 13) (.t 24) 1, none⟩,
  ⟨none, .st (.t 14) (.t 25) 1, none⟩,
  ⟨none, .st (.t 15) (.c .nil) 1, none⟩,
  ⟨none, .st (.t 16) (.c (.int .i64 1)) 1, none⟩] [⟨(some 24), .ld (.t 9) 1 false, none⟩,
  ⟨(some 25), .ld (.t 10) 1 false, none⟩]) <|
 .ret) (.skip))], gu, [], [(.t 8), (.t 9), (.t 10), (.t 12), (.t 13), (.t 14), (.t 15), (.t 16)], 26,
 .seq (.seq (.dreg [⟨(some 34), .mov (.c .undef), none⟩] [] []) <|
 .seq (.dreg [⟨(some 27), .ld (.t 6) 8 true, none⟩,
  ⟨(some 28), .ld (.t 7) 2 true, none⟩,
  ⟨(some 29), .ld (.t 8) 7 true, none⟩,
  ⟨(some 30), .ld (.t 9) 1 false, none⟩,
  ⟨(some 32), .ld (.t 10) 1 false, none⟩] [⟨(some 31), .call et [(.t 30)], none⟩] [⟨(some 27), .ld (.t 6) 8 true, none⟩,
  ⟨(some 28), .ld (.t 7) 2 true, none⟩,
  ⟨(some 29), .ld (.t 8) 7 true, none⟩,
  ⟨(some 32), .ld (.t 10) 1 false, none⟩]) <|
 .seq (.dreg [] [⟨(some 33), .call et [(.t 32)], none⟩] [⟨(some 27), .ld (.t 6) 8 true, none⟩,
  ⟨(some 28), .ld (.t 7) 2 true, none⟩,
  ⟨(some 29), .ld (.t 8) 7 true, none⟩]) <|
 .seq (.dreg [] [⟨(some 34), .mkm (.pair .i64), none⟩] [⟨(some 27), .ld (.t 6) 8 true, none⟩,
  ⟨(some 28), .ld (.t 7) 2 true, none⟩,
  ⟨(some 29), .ld (.t 8) 7 true, none⟩,
  ⟨(some 30), .ld (.t 9) 1 false, none⟩,
  ⟨(some 32), .ld (.t 10) 1 false, none⟩]) <|
 .seq (.dreg [⟨(some 35), .bld [(.int .i64 0), (.int .i64 0), (.int .i64 0), (.int .i64 0), (.int .i64 0), .nil, .nil, .nil, (.int .i64 0), .nil, (.int .i64 0), (.int .i64 0), (.int .i64 0), (.int .i64 0), .nil, .nil, .nil, .nil, .nil, .nil, .nilmap] [(0, 8, (.t 27)), (8, 2, (.t 28)), (10, 7, (.t 29)), (17, 1, (.t 31)), (18, 1, (.t 33)), (20, 1, (.t 34))], none⟩] [⟨(some 36), .box (.t 35), none⟩] []) <|
 .dreg [⟨(some 17), .mov (.t 36), none⟩] [] []) <|
 .seq (.seq (.dreg [⟨(some 37), .mov (.t 17), none⟩,
  ⟨(some 38), .mov (.t 17), none⟩,
  ⟨(some 39), .mov (.t 17), none⟩,
  ⟨(some 40), .fadd (.t 8) 4, none⟩,
  ⟨(some 41), .ld (.t 40) 1 false, none⟩,
  ⟨(some 43), .fadd (.t 8) 6, none⟩,
  ⟨(some 44), .ld (.t 43) 1 false, none⟩,
  ⟨(some 46), .fadd (.t 8) 5, none⟩,
  ⟨(some 47), .ld (.t 46) 1 false, none⟩] [⟨(some 42), .call aQ [(.t 41)], none⟩] [⟨(some 43), .fadd (.t 8) 6, none⟩,
  ⟨(some 44), .ld (.t 43) 1 false, none⟩,
  ⟨(some 46), .fadd (.t 8) 5, none⟩,
  ⟨(some 47), .ld (.t 46) 1 false, none⟩]) <|
 .seq (.dreg [] [⟨(some 45), .call aQ [(.t 44)], none⟩] [⟨(some 46), .fadd (.t 8) 5, none⟩,
  ⟨(some 47), .ld (.t 46) 1 false, none⟩]) <|
 .seq (.dreg [] [⟨(some 48), .call et [(.t 47)], none⟩] []) <|
 .seq (.dreg [⟨(some 49), .fadd (.t 37) 0, none⟩,
  ⟨(some 50), .fadd (.t 49) 10, none⟩,
  ⟨(some 51), .fadd (.t 50) 4, none⟩] [⟨none, .st (.t 51) (.t 42) 1, none⟩] []) <|
 .seq (.dreg [⟨(some 52), .fadd (.t 38) 0, none⟩,
  ⟨(some 53), .fadd (.t 52) 10, none⟩,
  ⟨(some 54), .fadd (.t 53) 6, none⟩] [⟨none, .st (.t 54) (.t 45) 1, none⟩] []) <|
 .seq (.dreg [⟨(some 55), .fadd (.t 39) 0, none⟩,
  ⟨(some 56), .fadd (.t 55) 10, none⟩,
  ⟨(some 57), .fadd (.t 56) 5, none⟩] [⟨none, .st (.t 57) (.t 48) 1, none⟩] []) <|
 .dreg [] [] []) <|
 .seqj [12, 13, 14, 15, 16, 17] [] (.seq (.pr [⟨(some 58), .fadd (.t 6) 7, none⟩,
  ⟨(some 59), .ld (.t 58) 1 false, none⟩,
  ⟨(some 60), .fadd (.t 8) 2, none⟩,
  ⟨(some 61), .ld (.t 60) 1 false, none⟩,
  ⟨(some 62), .iadd (.t 59) (.t 61) 14, none⟩,
  ⟨(some 63), .fadd (.t 62) 0, none⟩,
  ⟨(some 64), .ld (.t 63) 1 false, none⟩,
  ⟨(some 65), .len (.t 64), none⟩,
  ⟨(some 66), .mov (.c (.int .i64 0)), none⟩]) <|
 .block 0 (.loop [5, 8, 12, 13, 14, 15, 16, 17, 64, 65] [66] (.seq (.pr [⟨(some 67), .bin .lss (.t 66) (.t 65), none⟩]) <|
 .seq (.cond (.t 67) (.skip) (.exit 0)) <|
 .seq (.block 1 (.seq (.pr [⟨(some 68), .mov (.t 66), none⟩,
  ⟨(some 69), .iadd (.t 64) (.t 66) 15, none⟩,
  ⟨(some 70), .ld (.t 69) 15 true, none⟩,
  ⟨(some 19), .alloc (.agg [(.int .i64 0), (.int .i64 0), (.int .i64 0), (.int .i64 0), (.int .i64 0), (.int .i32 0), (.int .i64 0), (.int .i64 0), (.int .i32 0), (.int .i64 0), (.int .i64 0), (.int .i32 0), (.int .i64 0), (.int .i64 0), (.int .i32 0)]), none⟩,
  ⟨(some 18), .mov (.t 68), none⟩,
  ⟨none, .st (.t 19) (.t 70) 15, none⟩]) <|
 .regx [⟨(some 71), .mov (.t 17), none⟩,
  ⟨(some 72), .ld (.t 19) 15 true, none⟩,
  ⟨(some 73), .fadd (.t 8) 0, none⟩,
  ⟨(some 74), .ld (.t 73) 1 false, none⟩,
  ⟨(some 75), .mov (.t 5), none⟩,
  ⟨(some 76), .fadd (.t 8) 2, none⟩,
  ⟨(some 77), .ld (.t 76) 1 false, none⟩,
  ⟨(some 78), .mov (.t 18), none⟩,
  ⟨(some 79), .bld [(.int .i64 0), (.int .i64 0), (.int .i64 0), (.int .i64 0), (.int .i64 0), (.int .i64 0), (.int .i64 0), (.int .i64 0), (.int .i32 0)] [(2, 1, (.t 74)), (3, 1, (.t 75)), (4, 1, (.t 77)), (5, 1, (.t 78))], none⟩,
  ⟨(some 80), .call jy [(.t 71), (.t 72), (.t 79)], none⟩])) <|
 .pr [⟨(some 81), .bin .add (.t 66) (.c (.int .i64 1)), none⟩,
  ⟨(some 66), .mov (.t 81), none⟩]))) <|
 .seq (.seq (.dreg [⟨(some 82), .mov (.t 17), none⟩,
  ⟨(some 84), .mov (.t 17), none⟩,
  ⟨(some 85), .fadd (.t 84) 0, none⟩,
  ⟨(some 86), .fadd (.t 85) 17, none⟩,
  ⟨(some 87), .ld (.t 86) 1 false, none⟩,
  ⟨(some 88), .mov (.t 17), none⟩,
  ⟨(some 89), .fadd (.t 88) 0, none⟩,
  ⟨(some 90), .fadd (.t 89) 18, none⟩,
  ⟨(some 91), .ld (.t 90) 1 false, none⟩,
  ⟨(some 92), .mov (.t 17), none⟩,
  ⟨(some 93), .fadd (.t 92) 0, none⟩,
  ⟨(some 94), .fadd (.t 93) 19, none⟩,
  ⟨(some 95), .ld (.t 94) 1 false, none⟩] [⟨(some 83), .call gI [(.t 82)], none⟩] [⟨(some 85), .fadd (.t 84) 0, none⟩,
  ⟨(some 86), .fadd (.t 85) 17, none⟩,
  ⟨(some 87), .ld (.t 86) 1 false, none⟩,
  ⟨(some 89), .fadd (.t 88) 0, none⟩,
  ⟨(some 90), .fadd (.t 89) 18, none⟩,
  ⟨(some 91), .ld (.t 90) 1 false, none⟩,
  ⟨(some 93), .fadd (.t 92) 0, none⟩,
  ⟨(some 94), .fadd (.t 93) 19, none⟩,
  ⟨(some 95), .ld (.t 94) 1 false, none⟩]) <|
 .seq (.dreg [] [⟨none, .st (.t 12) (.t 83) 7, none⟩] [⟨(some 85), .fadd (.t 84) 0, none⟩,
  ⟨(some 86), .fadd (.t 85) 17, none⟩,
  ⟨(some 87), .ld (.t 86) 1 false, none⟩,
  ⟨(some 89), .fadd (.t 88) 0, none⟩,
  ⟨(some 90), .fadd (.t 89) 18, none⟩,
  ⟨(some 91), .ld (.t 90) 1 false, none⟩,
  ⟨(some 93), .fadd (.t 92) 0, none⟩,
  ⟨(some 94), .fadd (.t 93) 19, none⟩,
  ⟨(some 95), .ld (.t 94) 1 false, none⟩]) <|
 .seq (.dreg [] [⟨none, .st (.t 13) (.t 87) 1, none⟩] [⟨(some 89), .fadd (.t 88) 0, none⟩,
  ⟨(some 90), .fadd (.t 89) 18, none⟩,
  ⟨(some 91), .ld (.t 90) 1 false, none⟩,
  ⟨(some 93), .fadd (.t 92) 0, none⟩,
  ⟨(some 94), .fadd (.t 93) 19, none⟩,
  ⟨(some 95), .ld (.t 94) 1 false, none⟩]) <|
 .seq (.dreg [] [⟨none, .st (.t 14) (.t 91) 1, none⟩] [⟨(some 93), .fadd (.t 92) 0, none⟩,
  ⟨(some 94), .fadd (.t 93) 19, none⟩,
  ⟨(some 95), .ld (.t 94) 1 false, none⟩]) <|
 .seq (.dreg [] [⟨none, .st (.t 15) (.t 95) 1, none⟩] []) <|
 .seq (.dreg [] [⟨none, .st (.t 16) (.c (.int .i64 0)) 1, none⟩] []) <|
 .dreg [] [] []) <|
 .ret,
 [.cell 12 7 true, .cell 13 1 false, .cell 14 1 false, .cell 15 1 false, .cell 16 1 false]⟩
theorem E6 : cFnD PP true qO Cn (cDr PP 96 Fk) = some BJ := by kernel_rfl
def rT (a : Heap) (b : D) (c : D) (d : D) (e : D) (f : D) (g : D) (h : D) (i : D) (j : D) (k : D) (l : D) (m : D) (n : HJ) (K : HK) : Prop :=
 ∃(o : Nat -> HJ) (p : Nat), o p [zI] a /\ ∀(a : Nat) (p : Nat -> D) (q : Heap), o a [p 66] q -> vbin .lss (p 66) b fun r => vcond r (xI c (p 66) 15 q fun n q => xL n 15 true q fun n q => ab PP (.alloc (.agg [zI, zI, zI, zI, zI, zJ, zI, zI, zJ, zI, zI, zJ, zI, zI, zJ])) q fun q r => xS q n 15 r fun n r => xL q 15 true r fun n q => xF d 0 q fun q r => xL q 1 false r fun q r => xF d 2 r fun r s => xL r 1 false s fun r s => ab PP (.bld [zI, zI, zI, zI, zI, zI, zI, zI, zJ] [(2, 1, (.c q)), (3, 1, (.c e)), (4, 1, (.c r)), (5, 1, (.c (p 66)))]) s fun q r => Ik PP jy [f, n, q] r (fun a => N9 PP gu [d, g, h, i, j, k, l, m] a fun a => xL i 7 true a fun b c => xL j 1 false a fun c d => xL k 1 false a fun d e => xL l 1 false a fun e f => xL m 1 false a fun f g => K (.tup [b, c, d, e, f]) a) fun g h => vbin .add (p 66) (.int .i64 1) fun g => aE [e, d, i, j, k, l, m, f, c, b] [e, d, i, j, k, l, m, f, c, b] /\ ∃b, b < a /\ o b [g] h) (aE [i, j, k, l, m, f] [i, j, k, l, m, f] /\ n [] q)
def Bk (a : D) (b : D) (c : D) (d : D) (e : D) (f : D) (g : Heap) (K : HK) : Prop :=
 ab PP (.box (.c a)) g fun a g => ab PP (.box (.c b)) g fun b g => ab PP (.box (.c c)) g fun c g => ab PP (.box (.c d)) g fun d g => ab PP (.box (.c e)) g fun e g => ab PP (.alloc (.agg [zI, zI, zI, zI, .nil, .nil, .nil])) g fun g h => ab PP (.alloc .nil) h fun h i => ab PP (.alloc .nil) i fun i j => ab PP (.alloc .nil) j fun j k => ab PP (.alloc zI) k fun k l => xF c 1 l fun l m => xL l 1 false m fun l m => vbin .neq l (.int .i64 1) fun l => vcond l (yL c 7 true m fun a => yL d 1 false m fun b => yL e 1 false m fun c => xS g a 7 m fun a f => ((yL d 1 false f fun a => aE [a] [b]) /\ (yL e 1 false f fun a => aE [a] [c]) /\ True) /\ xS h b 1 f fun a f => ((yL d 1 false f fun a => aE [a] [b]) /\ (yL e 1 false f fun a => aE [a] [c]) /\ True) /\ xS i c 1 f fun a f => ((yL d 1 false f fun a => aE [a] [b]) /\ (yL e 1 false f fun a => aE [a] [c]) /\ True) /\ ab PP (.st (.c j) (.c .nil) 1) f fun a f => ((yL d 1 false f fun a => aE [a] [b]) /\ (yL e 1 false f fun a => aE [a] [c]) /\ True) /\ xS k (.int .i64 1) 1 f fun a f => ((yL d 1 false f fun a => aE [a] [b]) /\ (yL e 1 false f fun a => aE [a] [c]) /\ True) /\ xL g 7 true f fun a b => xL h 1 false f fun b c => xL i 1 false f fun c d => xL j 1 false f fun d e => xL k 1 false f fun e g => K (.tup [a, b, c, d, e]) f) (yL a 8 true m fun l => yL b 2 true m fun n => yL c 7 true m fun o => yL d 1 false m fun p => yL e 1 false m fun q => ag PP et [p] m fun m r => ((yL a 8 true r fun a => aE [a] [l]) /\ (yL b 2 true r fun a => aE [a] [n]) /\ (yL c 7 true r fun a => aE [a] [o]) /\ (yL e 1 false r fun a => aE [a] [q]) /\ True) /\ ag PP et [q] r fun r s => ((yL a 8 true s fun a => aE [a] [l]) /\ (yL b 2 true s fun a => aE [a] [n]) /\ (yL c 7 true s fun a => aE [a] [o]) /\ True) /\ ab PP (.mkm (.pair .i64)) s fun s t => ((yL a 8 true t fun a => aE [a] [l]) /\ (yL b 2 true t fun a => aE [a] [n]) /\ (yL c 7 true t fun a => aE [a] [o]) /\ (yL d 1 false t fun a => aE [a] [p]) /\ (yL e 1 false t fun a => aE [a] [q]) /\ True) /\ an PP (.bld [zI, zI, zI, zI, zI, .nil, .nil, .nil, zI, .nil, zI, zI, zI, zI, .nil, .nil, .nil, .nil, .nil, .nil, .nilmap] [(0, 8, (.c l)), (8, 2, (.c n)), (10, 7, (.c o)), (17, 1, (.c m)), (18, 1, (.c r)), (20, 1, (.c s))]) t fun b => ab PP (.box (.c b)) t fun b l => yF c 4 l fun m => yL m 1 false l fun m => yF c 6 l fun n => yL n 1 false l fun o => yF c 5 l fun p => yL p 1 false l fun q => ag PP aQ [m] l fun l m => ((yF c 6 m fun a => aE [a] [n]) /\ (yL n 1 false m fun a => aE [a] [o]) /\ (yF c 5 m fun a => aE [a] [p]) /\ (yL p 1 false m fun a => aE [a] [q]) /\ True) /\ ag PP aQ [o] m fun m n => ((yF c 5 n fun a => aE [a] [p]) /\ (yL p 1 false n fun a => aE [a] [q]) /\ True) /\ ag PP et [q] n fun n o => yF b 0 o fun p => yF p 10 o fun p => yF p 4 o fun p => xS p l 1 o fun l o => yF b 0 o fun l => yF l 10 o fun l => yF l 6 o fun l => xS l m 1 o fun l m => yF b 0 m fun l => yF l 10 m fun l => yF l 5 m fun l => xS l n 1 m fun l m => ∃(l : HJ), ( ∀(a : Nat -> D) (c : Heap), l [] c -> yF b 0 c fun a => yF a 17 c fun d => yL d 1 false c fun e => yF b 0 c fun f => yF f 18 c fun l => yL l 1 false c fun m => yF b 0 c fun n => yF n 19 c fun o => yL o 1 false c fun p => ag PP gI [b] c fun c q => ((yF b 0 q fun b => aE [b] [a]) /\ (yF a 17 q fun a => aE [a] [d]) /\ (yL d 1 false q fun a => aE [a] [e]) /\ (yF b 0 q fun a => aE [a] [f]) /\ (yF f 18 q fun a => aE [a] [l]) /\ (yL l 1 false q fun a => aE [a] [m]) /\ (yF b 0 q fun a => aE [a] [n]) /\ (yF n 19 q fun a => aE [a] [o]) /\ (yL o 1 false q fun a => aE [a] [p]) /\ True) /\ xS g c 7 q fun c q => ((yF b 0 q fun b => aE [b] [a]) /\ (yF a 17 q fun a => aE [a] [d]) /\ (yL d 1 false q fun a => aE [a] [e]) /\ (yF b 0 q fun a => aE [a] [f]) /\ (yF f 18 q fun a => aE [a] [l]) /\ (yL l 1 false q fun a => aE [a] [m]) /\ (yF b 0 q fun a => aE [a] [n]) /\ (yF n 19 q fun a => aE [a] [o]) /\ (yL o 1 false q fun a => aE [a] [p]) /\ True) /\ xS h e 1 q fun a c => ((yF b 0 c fun a => aE [a] [f]) /\ (yF f 18 c fun a => aE [a] [l]) /\ (yL l 1 false c fun a => aE [a] [m]) /\ (yF b 0 c fun a => aE [a] [n]) /\ (yF n 19 c fun a => aE [a] [o]) /\ (yL o 1 false c fun a => aE [a] [p]) /\ True) /\ xS i m 1 c fun a c => ((yF b 0 c fun a => aE [a] [n]) /\ (yF n 19 c fun a => aE [a] [o]) /\ (yL o 1 false c fun a => aE [a] [p]) /\ True) /\ xS j p 1 c fun a b => xS k zI 1 b fun a b => xL g 7 true b fun a c => xL h 1 false b fun c d => xL i 1 false b fun d e => xL j 1 false b fun e f => xL k 1 false b fun f g => K (.tup [a, c, d, e, f]) b) /\ xF a 7 m fun a m => xL a 1 false m fun a m => xF c 2 m fun m n => xL m 1 false n fun m n => xI a m 14 n fun a m => xF a 0 m fun a m => xL a 1 false m fun a m => cq a m fun n => rT m n a c f b d e g h i j k l K)
theorem EO (a0 : D) (a1 : D) (a2 : D) (a3 : D) (a4 : D) (a5 : D) (h0 : Heap) (K : HK) : Bk a0 a1 a2 a3 a4 a5 h0 K = Il PP BJ K (params [a0, a1, a2, a3, a4, a5] 0) h0 := by kernel_rfl
def ni : TL
 | 1000006 => some ([5, 6, 7, 8, 9, 10, 12], [13]) | _ => none
def pW : TT
 | 12 => some ([0, 1, 3, 0, 8, 0, 32, 0, 128, 480, 1023, 2047], [9, 11], [999999]) | 14 => some ([0, 1, 3, 0, 8, 24, 0, 0, 0, 256, 0, 1984, 4095, 8191], [11, 13], [999999]) | _ => none
noncomputable abbrev kG := cFn PP true gQ ni (cDr PP 63 pW)
noncomputable def kL : aI := ⟨63, aS kG, [.cell 10 11 true]⟩
theorem pg : kG = some kL := by kernel_rfl
def kC (a : D) (b : D) (c : D) (d : D) (e : D) (f : Heap) (K : HK) : Prop :=
 ab PP (.box (.c a)) f fun a f => ab PP (.box (.c b)) f fun b f => ab PP (.box (.c c)) f fun c f => ab PP (.box (.c d)) f fun d f => ab PP (.box (.c e)) f fun e f => ab PP (.alloc (.agg [zI, zI, zI, zI, .nil, .nil, .nil, .nil, .nil, .nil, zI])) f fun f g => xF d 0 g fun g h => xL g 1 false h fun g h => ∃(i : HJ), ( ∀(h : Nat -> D) (j : Heap), i [h 13] j -> vcond (h 13) (xL a 8 true j fun a b => xL c 11 true b fun b c => xL d 15 true c fun c d => xL e 9 true d fun d e => ag PP ly [a, b, c, d] e fun a b => xS f a 11 b fun a b => xL f 11 true b fun a c => K a b) (vbin .eql g (.int .i64 10) fun h => vcond h (xF e 0 j fun a b => xS a (.int .i64 4) 1 b fun a b => xF d 1 b fun a b => xL a 1 false b fun a b => xF e 1 b fun b d => xS b a 1 d fun a b => xF c 9 b fun a b => xL a 1 false b fun a b => xL e 9 true b fun b d => ab PP (.bldS true 9 1 (.agg [zI, zI, zI, zI, zI, zI, zI, zI, zJ]) [(0, (.c b))]) d fun b d => ab PP (.app (.c a) (.c b) 9 72 (.agg [zI, zI, zI, zI, zI, zI, zI, zI, zJ])) d fun a b => xF c 9 b fun b d => xS b a 1 d fun a b => xL c 11 true b fun a b => xS f a 11 b fun a b => xL f 11 true b fun a c => K a b) (vbin .eql g (.int .i64 12) fun e => vcond e (yF c 0 j fun a => yF a 6 j fun b => yL b 1 false j fun e => yF d 2 j fun g => yL g 1 false j fun h => yF c 0 j fun i => yL i 7 true j fun i => yF d 6 j fun k => yL k 3 true j fun k => ag PP cj [i, k] j fun i j => ((yF c 0 j fun b => aE [b] [a]) /\ (yF a 6 j fun a => aE [a] [b]) /\ (yL b 1 false j fun a => aE [a] [e]) /\ (yF d 2 j fun a => aE [a] [g]) /\ (yL g 1 false j fun a => aE [a] [h]) /\ True) /\ yI e h 1 j fun a => xS a i 1 j fun a b => xL c 11 true b fun a b => xS f a 11 b fun a b => xL f 11 true b fun a c => K a b) (yF c 0 j fun e => yF e 4 j fun g => yL g 1 false j fun h => yF d 3 j fun i => yF i 1 j fun k => yL k 1 false j fun l => yL a 8 true j fun a => yL b 2 true j fun b => yF c 0 j fun m => yL m 7 true j fun m => yL d 15 true j fun n => ag PP lx [a, b, m, n] j fun a b => ((yF c 0 b fun a => aE [a] [e]) /\ (yF e 4 b fun a => aE [a] [g]) /\ (yL g 1 false b fun a => aE [a] [h]) /\ (yF d 3 b fun a => aE [a] [i]) /\ (yF i 1 b fun a => aE [a] [k]) /\ (yL k 1 false b fun a => aE [a] [l]) /\ True) /\ yI h l 1 b fun d => xS d a 1 b fun a b => xL c 11 true b fun a b => xS f a 11 b fun a b => xL f 11 true b fun a c => K a b)))) /\ vbin .eql g (.int .i64 7) fun j => vcond j (aE [a, b, c, d, e, f, g] [a, b, c, d, e, f, g] /\ i [j] h) (vbin .eql g (.int .i64 8) fun j => vcond j (aE [a, b, c, d, e, f, g] [a, b, c, d, e, f, g] /\ i [j] h) (vbin .eql g (.int .i64 9) fun j => aE [a, b, c, d, e, f, g] [a, b, c, d, e, f, g] /\ i [j] h))
theorem oY (a0 : D) (a1 : D) (a2 : D) (a3 : D) (a4 : D) (h0 : Heap) (K : HK) : kC a0 a1 a2 a3 a4 h0 K = eD kL K [a0, a1, a2, a3, a4] h0 := by kernel_rfl
def wZ : TL
 | 1000013 => some ([3, 4], []) | _ => none
def BM : TT
 | 11 => some ([0, 1, 0, 4, 0, 16, 48, 0, 128, 384, 0, 1024, 3072, 8191, 16383], [14], []) | _ => none
noncomputable abbrev uq := cFn PP true mP wZ (cDr PP 54 BM)
noncomputable def uJ : aI := ⟨54, aS uq, [.cell 4 7 true]⟩
theorem Ay : uq = some uJ := by kernel_rfl
def tU (a : D) (b : D) (c : Heap) (K : HK) : Prop :=
 ab PP (.box (.c a)) c fun a c => ab PP (.box (.c b)) c fun b c => ab PP (.alloc (.agg [zI, zI, zI, zI, .nil, .nil, .nil])) c fun c d => xF a 7 d fun d e => xL d 1 false e fun d e => xF b 2 e fun e f => xL e 1 false f fun e f => xI d e 14 f fun d e => xF d 1 e fun d e => xL d 13 true e fun d e => ab PP (.alloc (.agg [zI, zI, zI, zI, zJ, zI, zI, zJ, zI, zI, zJ, zI, zI])) e fun e f => xS e d 13 f fun d f => ∃(d : HJ), ( ∀(a : Nat -> D) (e : Heap), d [] e -> xL b 7 true e fun a b => xS c a 7 b fun a b => xL c 7 true b fun a c => K a b) /\ xF e 0 f fun f g => xL f 1 false g fun f g => vbin .eql f (.int .i64 1) fun h => vcond h (xF e 11 g fun a e => ab PP (.iadda (.c a) (.c zI) 2 1) e fun a e => xL a 1 false e fun a e => xF b 2 e fun e f => xS e a 1 f fun a e => aE [b, c] [b, c] /\ d [] e) (vbin .eql f (.int .i64 2) fun h => vcond h (xF e 11 g fun a f => ab PP (.iadda (.c a) (.c (.int .i64 1)) 2 1) f fun a f => xL a 1 false f fun a f => xF b 2 f fun f g => xS f a 1 g fun a f => xL b 7 true f fun a f => xF e 5 f fun f g => xL f 3 true g fun f g => ag PP cj [a, f] g fun a f => vbin .neq a zJ fun a => vcond a (xF e 11 f fun a e => ab PP (.iadda (.c a) (.c zI) 2 1) e fun a e => xL a 1 false e fun a e => xF b 2 e fun e f => xS e a 1 f fun a e => aE [b, c] [b, c] /\ d [] e) (aE [b, c] [b, c] /\ d [] f)) (vbin .eql f (.int .i64 5) fun e => vcond e (yF b 0 g fun d => yL d 1 false g fun d => yF b 3 g fun b => yL b 1 false g fun b => yF a 2 g fun e => yL e 1 false g fun e => an PP (.mk 1 4 zJ (.c e) (.c e)) g fun e => yF a 5 g fun f => yL f 1 false g fun f => an PP (.call fx [(.c f), (.c (.int .i64 3))]) g fun f => yF a 3 g fun a => yL a 1 false g fun a => an PP (.mk 1 4 zJ (.c a) (.c a)) g fun a => an PP (.bld [zI, zI, zI, zI, .nil, .nil, .nil] [(0, 1, (.c d)), (1, 1, (.c (.int .i64 3))), (3, 1, (.c b)), (4, 1, (.c e)), (5, 1, (.c f)), (6, 1, (.c a))]) g fun a => xS c a 7 g fun a b => xL c 7 true b fun a c => K a b) (xF b 1 g fun a e => xS a (.int .i64 2) 1 e fun a e => aE [b, c] [b, c] /\ d [] e)))
theorem Ah (a0 : D) (a1 : D) (h0 : Heap) (K : HK) : tU a0 a1 h0 K = eD uJ K [a0, a1] h0 := by kernel_rfl
def Co : TL
 | 1000009 => some ([4, 6], []) | _ => none
def Fl : TT
 | 4 => some ([0, 1, 3, 0, 8, 31, 63], [4, 6], [1, 2]) | _ => none
noncomputable abbrev By := cFn PP true qP Co (cDr PP 40 Fl)
noncomputable def BK : aI := ⟨40, aS By, [.cell 6 7 true, .t 7]⟩
theorem E7 : By = some BK := by kernel_rfl
def Bl (a : D) (b : D) (c : D) (d : Heap) (K : HK) : Prop :=
 ab PP (.box (.c a)) d fun a d => ab PP (.box (.c b)) d fun b d => ab PP (.alloc (.agg [zI, zI, zI, zI, .nil, .nil, .nil])) d fun d e => xF b 1 e fun e f => xL e 1 false f fun e f => vbin .neq e (.int .i64 2) fun e => vcond e (xL b 7 true f fun a b => xS d a 7 b fun a b => xL d 7 true b fun a c => K (.tup [a, (.int .i64 1)]) b) (xF a 7 f fun a e => xL a 1 false e fun a e => xF b 2 e fun e f => xL e 1 false f fun e f => xI a e 14 f fun a e => xF a 1 e fun a e => xL a 13 true e fun a e => ab PP (.alloc (.agg [zI, zI, zI, zI, zJ, zI, zI, zJ, zI, zI, zJ, zI, zI])) e fun e f => xS e a 13 f fun a f => yF e 11 f fun a => an PP (.iadda (.c a) (.c zI) 2 1) f fun g => yL g 1 false f fun h => yF b 1 f fun i => yF b 2 f fun j => xS i (.int .i64 1) 1 f fun f i => ((an PP (.iadda (.c a) (.c zI) 2 1) i fun a => aE [a] [g]) /\ (yL g 1 false i fun a => aE [a] [h]) /\ True) /\ xS j h 1 i fun f i => ((an PP (.iadda (.c a) (.c zI) 2 1) i fun a => aE [a] [g]) /\ (yL g 1 false i fun a => aE [a] [h]) /\ True) /\ ∃(a : HJ), ( ∀(c : Nat -> D) (e : Heap), a [] e -> xL b 7 true e fun a b => xS d a 7 b fun a b => xL d 7 true b fun a c => K (.tup [a, zI]) b) /\ xF e 0 i fun f g => xL f 1 false g fun f g => vbin .eql f (.int .i64 4) fun f => vcond f (xF b 4 g fun f g => xL f 1 false g fun f g => ag PP aQ [f] g fun f g => xF b 4 g fun g h => xS g f 1 h fun f g => xF b 4 g fun f g => xL f 1 false g fun f g => xF e 2 g fun e g => xF e 1 g fun e g => xL e 1 false g fun e g => xI f e 1 g fun e f => xS e c 1 f fun c e => aE [b, d] [b, d] /\ a [] e) (aE [b, d] [b, d] /\ a [] g))
theorem EP (a0 : D) (a1 : D) (a2 : D) (h0 : Heap) (K : HK) : Bl a0 a1 a2 h0 K = eD BK K [a0, a1, a2] h0 := by kernel_rfl
def zV : TL
 | _ => none
def DT : TT
 | _ => none
noncomputable abbrev yw := cFn PP true oy zV (cDr PP 23 DT)
noncomputable def zc : aI := ⟨23, aS yw, [.cell 6 7 true, .t 7]⟩
theorem C7 : yw = some zc := by kernel_rfl
def yb (a : D) (b : D) (c : D) (d : Heap) (K : HK) : Prop :=
 ab PP (.box (.c a)) d fun a d => ab PP (.box (.c b)) d fun b d => ab PP (.alloc (.agg [zI, zI, zI, zI, .nil, .nil, .nil])) d fun d e => vbin .lss c zI fun f => vguard f false (fun a => a c e) e fun e g => vguard f false (fun a => xF b 0 g fun b c => a b c) g fun b g => vguard f false (fun a => xL b 1 false g fun b c => a b c) g fun b g => vguard f false (fun b => xF a 0 g fun a c => b a c) g fun g h => vguard f false (fun a => xL g 1 false h fun b c => a b c) h fun g h => vguard f false (fun a => vbin .mul b g fun b => a b h) h fun b g => vguard f false (fun a => vbin .geq e b fun b => a b g) g fun b e => ab PP (.pick (.c f) (.c (.bool true)) (.c b)) e fun b e => vcond b (ab PP (.bld [zI, zI, zI, zI, .nil, .nil, .nil] []) e fun a b => xS d a 7 b fun a b => xL d 7 true b fun a c => K (.tup [a, (.int .i64 1)]) b) (xL a 8 true e fun a b => ag PP kU [a, c, zI, (.int .i64 1)] b fun a b => xS d a 7 b fun a b => xL d 7 true b fun a c => K (.tup [a, zI]) b)
theorem CM (a0 : D) (a1 : D) (a2 : D) (h0 : Heap) (K : HK) : yb a0 a1 a2 h0 K = eD zc K [a0, a1, a2] h0 := by kernel_rfl
def zG : TL
 | 1000007 => some ([], [5]) | 3 => some ([0, 1], [5, 6]) | _ => none
def DG : TT
 | _ => none
noncomputable abbrev yg := cFn PP false fx zG (cDr PP 25 DG)
noncomputable def yM : aI := ⟨25, aS yg, [.t 4]⟩
theorem CT : yg = some yM := by kernel_rfl
def pA (a : D) (b : Heap) (c : D) (d : D) (e : HJ) : Prop :=
 ∃(f : Nat -> HJ) (g : Nat), f g [a, zI] b /\ ∀(a : Nat) (b : Nat -> D) (g : Heap), f a [b 5, b 6] g -> cq c g fun h => vbin .lss (b 6) h fun h => vcond h (xI c (b 6) 4 g fun e g => xL e 4 true g fun e g => ag PP mR [e, d] g fun e g => ab PP (.mk 1 4 zJ (.c e) (.c e)) g fun e g => ab PP (.bldS false 1 1 .nil [(0, (.c e))]) g fun e g => ab PP (.app (.c (b 5)) (.c e) 1 24 .nil) g fun e g => vbin .add (b 6) (.int .i64 1) fun b => aE [c, d] [c, d] /\ ∃c, c < a /\ f c [e, b] g) (aE [] [] /\ e [(b 5)] g)
def xJ (a : D) (b : D) (c : Heap) (K : HK) : Prop :=
 ab PP (.bldS false 1 0 .nil []) c fun c d => ∃(e : HJ), ( ∀(a : Nat -> D) (b : Heap), e [a 5] b -> K (a 5) b) /\ pA c d a b e
theorem Cy (a0 : D) (a1 : D) (h0 : Heap) (K : HK) : xJ a0 a1 h0 K = eD yM K [a0, a1] h0 := by kernel_rfl
def qa : TL
 | 1000009 => some ([], []) | 4 => some ([0, 1], [5]) | _ => none
def s8 : TT
 | 6 => some ([0, 0, 3, 7, 0, 0, 48, 112, 255], [], []) | _ => none
noncomputable abbrev mF := cFn PP true er qa (cDr PP 26 s8)
noncomputable def mL : aI := ⟨26, aS mF, [.t 4]⟩
theorem sF : mF = some mL := by kernel_rfl
def jQ (a : Heap) (b : D) (c : D) (d : HJ) (K : HK) : Prop :=
 ∃(e : Nat -> HJ) (f : Nat), e f [zI] a /\ ∀(a : Nat) (f : Nat -> D) (g : Heap), e a [f 5] g -> cq b g fun h => vbin .lss (f 5) h fun h => vcond h (yI b (f 5) 1 g fun d => yL d 1 false g fun d => yI c (f 5) 1 g fun h => yL h 1 false g fun h => vbin .neq d h fun d => vcond d (K (.bool false) g) (vbin .add (f 5) (.int .i64 1) fun d => aE [b, c] [b, c] /\ ∃b, b < a /\ e b [d] g)) (aE [] [] /\ d [] g)
def mq (a : D) (b : D) (c : Heap) (K : HK) : Prop :=
 cq a c fun d => cq b c fun e => vbin .neq d e fun d => vcond d (K (.bool false) c) ( ∃(d : HJ), ( ∀(a : Nat -> D) (b : Heap), d [] b -> K (.bool true) b) /\ jQ c a b d K)
theorem rN (a0 : D) (a1 : D) (h0 : Heap) (K : HK) : mq a0 a1 h0 K = eD mL K [a0, a1] h0 := by kernel_rfl
def tk : TL
 | _ => none
def wH : TT
 | _ => none
noncomputable abbrev pP := cFn PP true fN tk (cDr PP 5 wH)
noncomputable def pV : aI := ⟨5, aS pP, [.t 2]⟩
theorem wo : pP = some pV := by kernel_rfl
def pI (a : D) (b : Heap) (K : HK) : Prop :=
 vbin .neq a zJ fun a => K a b
theorem v8 (a0 : D) (h0 : Heap) (K : HK) : pI a0 h0 K = eD pV K [a0] h0 := by kernel_rfl
def xk : TL
 | _ => none
def Ca : TT
 | _ => none
noncomputable abbrev uH := cFn PP true mV xk (cDr PP 11 Ca)
noncomputable def uX : aI := ⟨11, aS uH, [.t 6]⟩
theorem AN : uH = some uX := by kernel_rfl
def uk (a : D) (b : D) (c : D) (d : Heap) (K : HK) : Prop :=
 ab PP (.box (.c b)) d fun b d => ab PP (.mkf gH [] [(.c b)]) d fun b d => ag PP bB [a, c, b] d fun a b => K a b
theorem Aw (a0 : D) (a1 : D) (a2 : D) (h0 : Heap) (K : HK) : uk a0 a1 a2 h0 K = eD uX K [a0, a1, a2] h0 := by kernel_rfl
def iK : TL
 | 1000010 => some ([0], [3]) | 3 => some ([0, 9, 10], [3, 11]) | 1000009 => some ([0, 9, 10, 11], [3]) | 1000016 => some ([], [6]) | 11 => some ([25, 26], [6, 27]) | _ => none
def jj : TT
 | _ => none
noncomputable abbrev fS := cFn PP true bW iK (cDr PP 36 jj)
noncomputable def fU : aI := ⟨36, aS fS, [.t 2]⟩
theorem jc : fS = some fU := by kernel_rfl
def cw (a : D) (b : Heap) (c : D) (d : D) (e : HJ) : Prop :=
 ∃(f : Nat -> HJ) (g : Nat), f g [a, zI] b /\ ∀(a : Nat) (b : Nat -> D) (g : Heap), f a [b 6, b 27] g -> vbin .lss (b 27) c fun h => vcond h (xI d (b 27) 1 g fun e g => xL e 1 false g fun e g => ab PP (.app (.c (b 6)) (.c e) 1 4 zJ) g fun e g => vbin .add (b 27) (.int .i64 1) fun b => aE [d, c] [d, c] /\ ∃c, c < a /\ f c [e, b] g) (aE [] [] /\ e [(b 6)] g)
def eQ (a : Heap) (b : D) (c : D) (d : HJ) : Prop :=
 ∃(e : Nat -> HJ) (f : Nat), e f [zI, zI] a /\ ∀(a : Nat) (f : Nat -> D) (g : Heap), e a [f 3, f 11] g -> vbin .lss (f 11) b fun h => vcond h ( ∃(d : HJ), ( ∀(g : Nat -> D) (h : Heap), d [g 3] h -> vbin .add (f 11) (.int .i64 1) fun d => aE [c, c, b] [c, c, b] /\ ∃b, b < a /\ e b [(g 3), d] h) /\ xI c (f 11) 1 g fun a e => xL a 1 false e fun a e => cq a e fun a => vbin .add (f 3) a fun a => vbin .lss a zI fun g => vcond g (ab PP (.dead) e fun e g => ab PP (.dead) g fun e g => aE [c, c, b, (f 11)] [c, c, b, (f 11)] /\ d [a] g) (aE [c, c, b, (f 11)] [c, c, b, (f 11)] /\ d [a] e)) (aE [c] [c] /\ d [(f 3)] g)
def fQ (a : D) (b : Heap) (K : HK) : Prop :=
 ∃(c : HJ), ( ∀(b : Nat -> D) (d : Heap), c [b 3] d -> ag PP dB [.nil, (b 3)] d fun b c => ∃(d : HJ), ( ∀(a : Nat -> D) (b : Heap), d [a 6] b -> K (a 6) b) /\ cq a c fun e => cw b c e a d) /\ cq a b fun d => eQ b d a c
theorem ja (a0 : D) (h0 : Heap) (K : HK) : fQ a0 h0 K = eD fU K [a0] h0 := by kernel_rfl
def gw : TL
 | _ => none
def gP : TT
 | _ => none
noncomputable abbrev dN := cFn PP true bH gw (cDr PP 9 gP)
noncomputable def dQ : aI := ⟨9, aS dN, [.t 4]⟩
theorem gL : dN = some dQ := by kernel_rfl
def dK (a : D) (b : D) (c : Heap) (K : HK) : Prop :=
 ag PP eO [a, b] c fun a b => vbin .geq a zI fun a => K a b
theorem gK (a0 : D) (a1 : D) (h0 : Heap) (K : HK) : dK a0 a1 h0 K = eD dQ K [a0, a1] h0 := by kernel_rfl
def xf : TL
 | _ => none
def BW : TT
 | _ => none
noncomputable abbrev uD := cFn PP true jw xf (cDr PP 47 BW)
noncomputable def uT : aI := ⟨47, aS uD, [.cell 6 2 true]⟩
theorem AJ : uD = some uT := by kernel_rfl
def ug (a : D) (b : D) (c : D) (d : Heap) (K : HK) : Prop :=
 ab PP (.alloc (.agg [zJ, zI])) d fun d e => vbin .lss a (.int .i64 10) fun f => vguard f false (fun b => b a e) e fun e g => vguard f false (fun a => vbin .gtr e (.int .i64 29) fun b => a b g) g fun e g => ab PP (.pick (.c f) (.c (.bool true)) (.c e)) g fun e f => vcond e (ab PP (.bld [zJ, zI] [(1, 1, (.c (.int .i64 1)))]) f fun a b => xS d a 2 b fun a b => xL d 2 true b fun a c => K a b) (vbin .geq a (.int .i64 24) fun e => vcond e (ab PP (.conv .i64 (.c b)) f fun b e => ab PP (.conv .i64 (.c c)) e fun c e => ag PP jn [a, b, c] e fun a b => ag PP gV [a] b fun a b => ab PP (.bld [zJ, zI] [(0, 1, (.c a))]) b fun a b => xS d a 2 b fun a b => xL d 2 true b fun a c => K a b) (vbin .eql a (.int .i64 17) fun e => vguard e false (fun b => b a f) f fun f g => vguard e false (fun a => vbin .eql f (.int .i64 18) fun b => a b g) g fun f g => ab PP (.pick (.c e) (.c (.bool true)) (.c f)) g fun e f => vguard e false (fun b => b a f) f fun f g => vguard e false (fun a => vbin .eql f (.int .i64 19) fun b => a b g) g fun f g => ab PP (.pick (.c e) (.c (.bool true)) (.c f)) g fun e f => vcond e (ag PP kT [a, b, c] f fun a b => ab PP (.bld [zJ, zI] [(0, 1, (.c a))]) b fun a b => xS d a 2 b fun a b => xL d 2 true b fun a c => K a b) (ab PP (.conv .i64 (.c b)) f fun b e => ab PP (.conv .i64 (.c c)) e fun c e => ag PP mS [a, b, c] e fun a b => ag PP cO [a] b fun a b => ab PP (.bld [zJ, zI] [(0, 1, (.c a))]) b fun a b => xS d a 2 b fun a b => xL d 2 true b fun a c => K a b)))
theorem As (a0 : D) (a1 : D) (a2 : D) (h0 : Heap) (K : HK) : ug a0 a1 a2 h0 K = eD uT K [a0, a1, a2] h0 := by kernel_rfl
def oF : TL
 | _ => none
def qA : TT
 | 2 => some ([0, 1, 3, 7, 0, 16, 48, 112, 240, 511], [], []) | 4 => some ([0, 1, 3, 7, 0, 16, 48, 112, 240, 511, 1023, 2047, 4095], [], []) | _ => none
noncomputable abbrev lQ := cFn PP true ak oF (cDr PP 32 qA)
noncomputable def lW : aI := ⟨32, aS lQ, [.t 2]⟩
theorem ql : lQ = some lW := by kernel_rfl
def lM (a : D) (b : Heap) (K : HK) : Prop :=
 xF a 0 b fun b c => xF b 1 c fun b c => xL b 1 false c fun b c => vbin .add b (.int .i64 1) fun b => xF a 0 c fun c d => xF c 1 d fun c d => xS c b 1 d fun b c => yF a 0 c fun b => yF b 1 c fun b => yL b 1 false c fun b => yF a 0 c fun d => yF d 0 c fun d => yL d 1 false c fun d => cq d c fun d => vbin .gtr b d fun b => vcond b (K zI c) (yF a 0 c fun b => yF b 0 c fun b => yL b 1 false c fun b => yF a 0 c fun a => yF a 1 c fun a => yL a 1 false c fun a => vbin .sub a (.int .i64 1) fun a => yI b a 1 c fun a => yL a 1 false c fun a => an PP (.conv .i64 (.c a)) c fun a => K a c)
theorem qf (a0 : D) (h0 : Heap) (K : HK) : lM a0 h0 K = eD lW K [a0] h0 := by kernel_rfl
def vM : TL
 | _ => none
def zq : TT
 | _ => none
noncomputable abbrev sk := cFn PP true lC vM (cDr PP 7 zq)
noncomputable def sI : aI := ⟨7, aS sk, [.t 0]⟩
theorem yS : sk = some sI := by kernel_rfl
def rQ (a : Heap) (K : HK) : Prop :=
 ab PP (.bld [(.str ⟨#[]⟩), zI, zI, zI] [(0, 1, (.c (.str ⟨#[97]⟩))), (1, 1, (.c (.int .i64 1))), (2, 1, (.c (.int .i64 1))), (3, 1, (.c (.int .i64 8)))]) a fun a b => ab PP (.bld [(.str ⟨#[]⟩), zI, zI, zI] [(0, 1, (.c (.str ⟨#[102]⟩))), (1, 1, (.c (.int .i64 1))), (2, 1, (.c (.int .i64 2))), (3, 1, (.c (.int .i64 4)))]) b fun b c => ab PP (.bld [(.str ⟨#[]⟩), zI, zI, zI] [(0, 1, (.c (.str ⟨#[115]⟩))), (1, 1, (.c (.int .i64 2))), (2, 1, (.c (.int .i64 1))), (3, 1, (.c (.int .i64 8)))]) c fun c d => ab PP (.bld [(.str ⟨#[]⟩), zI, zI, zI] [(0, 1, (.c (.str ⟨#[112]⟩))), (1, 1, (.c (.int .i64 3))), (2, 1, (.c (.int .i64 1))), (3, 1, (.c (.int .i64 4)))]) d fun d e => ab PP (.bld [(.str ⟨#[]⟩), zI, zI, zI] [(0, 1, (.c (.str ⟨#[98]⟩))), (1, 1, (.c (.int .i64 2))), (2, 1, (.c (.int .i64 3))), (3, 1, (.c (.int .i64 4)))]) e fun e f => ab PP (.bldS true 4 5 (.agg [(.str ⟨#[]⟩), zI, zI, zI]) [(0, (.c a)), (1, (.c b)), (2, (.c c)), (3, (.c d)), (4, (.c e))]) f fun a b => K a b
theorem xQ (h0 : Heap) (K : HK) : rQ h0 K = eD sI K [] h0 := by kernel_rfl
def mW : TL
 | 1000012 => some ([0], []) | 4 => some ([0, 5], [6]) | 1000011 => some ([0, 5, 6], []) | _ => none
def oj : TT
 | 9 => some ([0, 1, 3, 7, 15, 0, 0, 64, 0, 256, 0, 1216, 0, 0, 12288, 31936, 65472, 0, 131072, 0, 527552, 0, 0, 6291456, 16256192, 33426624, 67108800, 134217664, 268435455, 536870911, 1073741823], [7, 11, 20, 30], [999999]) | _ => none
noncomputable abbrev jR := cFn PP true eo mW (cDr PP 77 oj)
noncomputable def jU : aI := ⟨77, aS jR, []⟩
theorem nV : jR = some jU := by kernel_rfl
def iw (a : D) (b : Heap) (c : D) (d : D) (e : HJ) : Prop :=
 ∃(f : Nat -> HJ) (g : Nat), f g [a] b /\ ∀(a : Nat) (b : Nat -> D) (g : Heap), f a [b 6] g -> vbin .lss (b 6) c fun h => vcond h (ag PP cn [d] g fun e g => xF d 0 g fun e g => xF e 2 g fun e g => xF e 7 g fun e g => xL e 1 false g fun e g => vbin .add (b 6) (.int .i64 1) fun h => ab PP (.bld [zI, zI] [(0, 1, (.c h)), (1, 1, (.c zI))]) g fun g h => ab PP (.bld [zI, zI, zI, zI, zJ, zI, zI, zJ, zI, zI, zJ, zI, zI] [(0, 1, (.c (.int .i64 1))), (11, 2, (.c g))]) h fun g h => xI e (b 6) 14 h fun e h => xF e 1 h fun e h => xS e g 13 h fun e g => ∃(e : HJ), ( ∀(g : Nat -> D) (h : Heap), e [] h -> ag PP bg [d] h fun e g => vbin .add (b 6) (.int .i64 1) fun b => aE [d, c] [d, c] /\ ∃c, c < a /\ f c [b] g) /\ ag PP ak [d] g fun a f => vbin .rem a (.int .i64 2) fun a => vbin .eql a zI fun a => vcond a (yF d 0 f fun a => yF a 2 f fun g => yF g 7 f fun h => yL h 1 false f fun i => vbin .add (b 6) (.int .i64 1) fun j => vbin .sub c (b 6) fun k => vbin .add (b 6) (.int .i64 1) fun l => vbin .sub c (b 6) fun m => ag PP bb [d] f fun f n => ((yF d 0 n fun b => aE [b] [a]) /\ (yF a 2 n fun a => aE [a] [g]) /\ (yF g 7 n fun a => aE [a] [h]) /\ (yL h 1 false n fun a => aE [a] [i]) /\ True) /\ ag PP ak [d] n fun n o => ((yF d 0 o fun b => aE [b] [a]) /\ (yF a 2 o fun a => aE [a] [g]) /\ (yF g 7 o fun a => aE [a] [h]) /\ (yL h 1 false o fun a => aE [a] [i]) /\ True) /\ vbin .rem n k fun k => vbin .add j k fun j => ag PP ak [d] o fun k n => ((yF d 0 n fun b => aE [b] [a]) /\ (yF a 2 n fun a => aE [a] [g]) /\ (yF g 7 n fun a => aE [a] [h]) /\ (yL h 1 false n fun a => aE [a] [i]) /\ True) /\ vbin .rem k m fun a => vbin .add l a fun a => an PP (.bld [zI, zI] [(0, 1, (.c j)), (1, 1, (.c a))]) n fun a => an PP (.bld [zI, zI, zI, zI, zJ, zI, zI, zJ, zI, zI, zJ, zI, zI] [(0, 1, (.c (.int .i64 2))), (5, 3, (.c f)), (11, 2, (.c a))]) n fun a => yI i (b 6) 14 n fun f => yF f 1 n fun f => xS f a 13 n fun a f => aE [d, c, (b 6)] [d, c, (b 6)] /\ e [] f) (aE [d, c, (b 6)] [d, c, (b 6)] /\ e [] f)) (aE [d] [d] /\ e [] g)
def jO (a : D) (b : D) (c : Heap) (K : HK) : Prop :=
 ag PP bg [a] c fun c d => xF a 0 d fun c d => xF c 2 d fun c d => xF c 7 d fun c d => xL c 1 false d fun c d => cq c d fun c => vbin .sub c (.int .i64 1) fun c => vbin .add c b fun b => ∃(e : HJ), ( ∀(b : Nat -> D) (c : Heap), e [] c -> ag PP cn [a] c fun a b => K (.tup []) b) /\ iw c d b a e
theorem nC (a0 : D) (a1 : D) (h0 : Heap) (K : HK) : jO a0 a1 h0 K = eD jU K [a0, a1] h0 := by kernel_rfl
end Go.Am
namespace Go.Am
open Go Go.Proofs
def oH : TL
 | 1000008 => some ([], [0, 2, 3, 4]) | 1000016 => some ([], [0, 4, 119]) | _ => none
def qB : TT
 | 9 => some ([0, 1, 3, 7, 15, 0, 0, 64, 192, 0, 512, 0, 2048, 7680, 16320, 32767, 65535, 131071], [17], []) | 15 => some ([0, 1, 3, 7, 15, 0, 32, 0, 128, 0, 0, 1024, 3584, 8064, 16383, 32767, 65535], [8, 16], [999999]) | _ => none
noncomputable abbrev lR := cFn PP true dD oH (cDr PP 136 qB)
noncomputable def lX : aI := ⟨136, aS lR, []⟩
theorem qm : lR = some lX := by kernel_rfl
def np : TL
 | _ => none
def pZ : TT
 | _ => none
noncomputable abbrev kJ := cFn PP true bg np (cDr PP 14 pZ)
noncomputable def kO : aI := ⟨14, aS kJ, []⟩
theorem pk : kJ = some kO := by kernel_rfl
def kF (a : D) (b : Heap) (K : HK) : Prop :=
 xF a 0 b fun b c => xF b 2 c fun b c => xF b 7 c fun b c => xL b 1 false c fun b c => ab PP (.bld [.nil, zI, zI, zI, zI, zJ, zI, zI, zJ, zI, zI, zJ, zI, zI] []) c fun c d => ab PP (.bldS true 14 1 (.agg [.nil, zI, zI, zI, zI, zJ, zI, zI, zJ, zI, zI, zJ, zI, zI]) [(0, (.c c))]) d fun c d => ab PP (.app (.c b) (.c c) 14 128 (.agg [.nil, zI, zI, zI, zI, zJ, zI, zI, zJ, zI, zI, zJ, zI, zI])) d fun b c => xF a 0 c fun a c => xF a 2 c fun a c => xF a 7 c fun a c => xS a b 1 c fun a b => K (.tup []) b
theorem pc (a0 : D) (h0 : Heap) (K : HK) : kF a0 h0 K = eD kO K [a0] h0 := by kernel_rfl
def p8 : TL
 | _ => none
def sY : TT
 | _ => none
noncomputable abbrev mD := cFn PP true bb p8 (cDr PP 7 sY)
noncomputable def mJ : aI := ⟨7, aS mD, [.cell 2 3 true]⟩
theorem jV : mD = some mJ := by kernel_rfl
def iV (a : D) (b : Heap) (K : HK) : Prop :=
 ab PP (.alloc (.agg [zI, zI, zJ])) b fun b c => ag PP ak [a] c fun a c => vbin .rem a (.int .i64 6) fun a => ag PP dj [a] c fun a c => xS b a 3 c fun a c => xL b 3 true c fun a b => K a c
theorem jP (a0 : D) (h0 : Heap) (K : HK) : iV a0 h0 K = eD mJ K [a0] h0 := by kernel_rfl
def p6 : TL
 | _ => none
def sX : TT
 | _ => none
noncomputable abbrev mC := cFn PP true aZ p6 (cDr PP 18 sX)
noncomputable def mI : aI := ⟨18, aS mC, [.cell 2 3 true]⟩
theorem jT : mC = some mI := by kernel_rfl
def iU (a : D) (b : Heap) (K : HK) : Prop :=
 ab PP (.alloc (.agg [zI, zI, zJ])) b fun b c => ag PP ak [a] c fun a c => vbin .rem a (.int .i64 3) fun d => vbin .eql d zI fun d => vcond d (vbin .quo a (.int .i64 3) fun a => ab PP (.conv .i32 (.c a)) c fun a c => vbin .sub a (.int .i32 20) fun a => ag PP eF [a] c fun a c => xS b a 3 c fun a c => xL b 3 true c fun a b => K a c) (vbin .quo a (.int .i64 3) fun a => vbin .rem a (.int .i64 6) fun a => ag PP dj [a] c fun a c => xS b a 3 c fun a c => xL b 3 true c fun a b => K a c)
theorem jN (a0 : D) (h0 : Heap) (K : HK) : iU a0 h0 K = eD mI K [a0] h0 := by kernel_rfl
def nk : TL
 | 1 => some ([0], [2]) | _ => none
def pY : TT
 | _ => none
noncomputable abbrev kI := cFn PP true cn nk (cDr PP 12 pY)
noncomputable def kN : aI := ⟨12, aS kI, []⟩
theorem pj : kI = some kN := by kernel_rfl
def iW (a : D) (b : Heap) (c : D) (K : HK) : Prop :=
 ∃(d : Nat -> HJ) (e : Nat), d e [a] b /\ ∀(a : Nat) (b : Nat -> D) (e : Heap), d a [b 2] e -> vbin .gtr (b 2) zI fun f => vcond f (ag PP ic [c] e fun e f => vbin .sub (b 2) (.int .i64 1) fun b => aE [c] [c] /\ ∃c, c < a /\ d c [b] f) (K (.tup []) e)
def kE (a : D) (b : Heap) (K : HK) : Prop :=
 ag PP ak [a] b fun b c => vbin .rem b (.int .i64 5) fun b => iW b c a K
theorem pa (a0 : D) (h0 : Heap) (K : HK) : kE a0 h0 K = eD kN K [a0] h0 := by kernel_rfl
def zR : TL
 | _ => none
def DP : TT
 | _ => none
noncomputable abbrev yr := cFn PP true et zR (cDr PP 11 DP)
noncomputable def yZ : aI := ⟨11, aS yr, [.t 2]⟩
theorem C3 : yr = some yZ := by kernel_rfl
def xY (a : D) (b : Heap) (K : HK) : Prop :=
 cq a b fun c => ab PP (.mk 1 24 .nil (.c c) (.c c)) b fun b c => ab PP (.cpy (.c b) (.c a) 1) c fun a c => K b c
theorem CH (a0 : D) (h0 : Heap) (K : HK) : xY a0 h0 K = eD yZ K [a0] h0 := by kernel_rfl
def iY : TL
 | _ => none
def jC : TT
 | _ => none
noncomputable abbrev gh := cFn PP true aQ iY (cDr PP 8 jC)
noncomputable def gi : aI := ⟨8, aS gh, [.t 2]⟩
theorem fj : gh = some gi := by kernel_rfl
def dg (a : D) (b : Heap) (K : HK) : Prop :=
 ab PP (.nilq false (.c a)) b fun b c => vcond b (K .nil c) (ab PP (.bldS true 1 0 zJ []) c fun b c => ab PP (.app (.c b) (.c a) 1 4 zJ) c fun a b => K a b)
theorem fh (a0 : D) (h0 : Heap) (K : HK) : dg a0 h0 K = eD gi K [a0] h0 := by kernel_rfl
def xl : TL
 | 1000027 => some ([0, 4], [8]) | 1000012 => some ([0, 4, 5, 6, 7, 25], [50]) | 1000018 => some ([0, 4, 5, 6], [9]) | 8000006 => some ([1], []) | 8000011 => some ([1], []) | _ => none
def Cb : TT
 | 1 => some ([0, 1, 3, 7, 0, 16, 63, 0, 128, 384, 896, 0, 2048, 8191, 16383, 32767], [6, 13], [999999]) | 7 => some ([0, 1, 0, 4, 0, 0, 32, 99, 227, 495, 1007, 2047, 4095], [6, 8, 10, 12], [1]) | 12 => some ([0, 1, 0, 4, 0, 0, 32, 99, 227, 495, 1007, 2047, 4095], [6, 8, 10, 12], [1]) | 15 => some ([0, 1, 0, 4, 15, 31], [3, 5], [1]) | 16 => some ([0, 1, 0, 0, 8, 0, 60, 0, 255, 511, 1023, 1023, 2047], [6], [999999]) | 20 => some ([0, 1, 0, 4, 15, 31], [3, 5], [1]) | 23 => some ([0, 1, 3, 7, 15, 0, 32, 0, 255, 511], [9], []) | 25 => some ([0, 1, 3, 7, 15, 0, 32, 127, 255, 511], [], []) | 26 => some ([0, 1, 3, 7, 15, 0, 32, 96, 0, 511, 1023], [10], []) | _ => none
noncomputable abbrev uI := cFn PP true jy xl (cDr PP 137 Cb)
noncomputable def m4 : aI := ⟨137, aS uI, []⟩
theorem AO : uI = some m4 := by kernel_rfl
def uo (a : D) (b : D) (c : D) (d : Heap) (K : HK) (KP : Heap -> Prop) : Prop :=
 ab PP (.box (.c b)) d fun b d => ab PP (.box (.c c)) d fun c d => yF a 0 d fun e => yF e 10 d fun e => yL e 7 true d fun e => yF b 6 d fun f => yL f 3 true d fun f => yF a 0 d fun g => yF g 10 d fun h => yL h 7 true d fun i => yF b 9 d fun j => yL j 3 true d fun k => ag PP bX [e, f] d fun d e => ((yF a 0 e fun a => aE [a] [g]) /\ (yF g 10 e fun a => aE [a] [h]) /\ (yL h 7 true e fun a => aE [a] [i]) /\ (yF b 9 e fun a => aE [a] [j]) /\ (yL j 3 true e fun a => aE [a] [k]) /\ True) /\ ag PP bX [i, k] e fun e f => ∃(g : HJ), ( ∀(c : Nat -> D) (d : Heap), g [c 8] d -> yF a 0 d fun a => yF a 10 d fun a => yF a 4 d fun a => yL a 1 false d fun a => yF b 3 d fun b => yF b 1 d fun b => yL b 1 false d fun b => yI a b 1 d fun a => xS a (c 8) 1 d fun a b => K (.tup []) b) /\ xF b 0 f fun f h => xL f 1 false h fun f h => vbin .eql f (.int .i64 7) fun i => vcond i (xF b 2 h fun e f => xL e 1 false f fun e f => Ik PP fL [a, e, d] f (fun a => KP a) fun e f => yF b 2 f fun h => yL h 1 false f fun i => an PP (.conv .i64 (.c d)) f fun d => yF c 0 f fun j => yF c 6 f fun k => yF c 7 f fun l => yF c 8 f fun m => xS j (.int .i64 1) 1 f fun f j => ((yL h 1 false j fun a => aE [a] [i]) /\ True) /\ xS k i 1 j fun f j => ((yL h 1 false j fun a => aE [a] [i]) /\ True) /\ xS l d 1 j fun d f => ((yL h 1 false f fun a => aE [a] [i]) /\ True) /\ xS m e 1 f fun d f => ((yL h 1 false f fun a => aE [a] [i]) /\ True) /\ xL c 9 true f fun c d => ag PP fM [a, c] d fun c d => aE [a, b] [a, b] /\ g [e] d) ( ∃(i : HJ), ( ∀(h : Nat -> D) (j : Heap), i [h 50] j -> vcond (h 50) (xF b 2 j fun f g => xL f 1 false g fun f g => Ik PP fL [a, f, d] g (fun a => KP a) fun f g => yF b 2 g fun f => yL f 1 false g fun h => an PP (.conv .i64 (.c d)) g fun i => yF c 0 g fun j => yF c 6 g fun k => yF c 7 g fun l => yF c 8 g fun m => xS j (.int .i64 2) 1 g fun g j => ((yL f 1 false j fun a => aE [a] [h]) /\ True) /\ xS k h 1 j fun g j => ((yL f 1 false j fun a => aE [a] [h]) /\ True) /\ xS l i 1 j fun g i => ((yL f 1 false i fun a => aE [a] [h]) /\ True) /\ xS m e 1 i fun g i => ((yL f 1 false i fun a => aE [a] [h]) /\ True) /\ ∃(f : HJ), ( ∀(e : Nat -> D) (g : Heap), f [e 9] g -> xF b 2 g fun b f => xL b 1 false f fun b f => ag PP jq [a, b, d, (e 9)] f fun b d => xL c 9 true d fun b c => ag PP fM [a, b] c fun a b => K (.tup []) b) /\ xF b 0 i fun g h => xL g 1 false h fun g h => vbin .eql g (.int .i64 9) fun g => vcond g (yF b 1 h fun g => yL g 1 false h fun i => yF c 0 h fun j => yF c 1 h fun k => xS j (.int .i64 3) 1 h fun h j => ((yL g 1 false j fun a => aE [a] [i]) /\ True) /\ xS k i 1 j fun h j => ((yL g 1 false j fun a => aE [a] [i]) /\ True) /\ yF b 1 j fun g => yL g 1 false j fun h => yF b 2 j fun i => yL i 1 false j fun i => ag PP fL [a, i, d] j fun i j => ((yF b 1 j fun a => aE [a] [g]) /\ (yL g 1 false j fun a => aE [a] [h]) /\ True) /\ an PP (.call kR [(.c h), (.c i), (.c e)]) j fun e => an PP (.ext (.c e) 0) j fun g => an PP (.ext (.c e) 1) j fun e => aE [a, b, c, d] [a, b, c, d] /\ f [g] j) (aE [a, b, c, d] [a, b, c, d] /\ f [e] h)) (vbin .eql f (.int .i64 10) fun h => vcond h (yF b 1 j fun b => yL b 1 false j fun d => yF c 0 j fun e => yF c 1 j fun f => xS e (.int .i64 4) 1 j fun e g => ((yL b 1 false g fun a => aE [a] [d]) /\ True) /\ xS f d 1 g fun e f => ((yL b 1 false f fun a => aE [a] [d]) /\ True) /\ xL c 9 true f fun b c => ag PP fM [a, b] c fun a b => K (.tup []) b) (vbin .eql f (.int .i64 12) fun c => vcond c (yF a 0 j fun a => yF a 10 j fun a => yF a 6 j fun a => yL a 1 false j fun a => yF b 2 j fun b => yL b 1 false j fun b => yI a b 1 j fun a => xS a d 1 j fun a b => K (.tup []) b) (vbin .eql f (.int .i64 11) fun c => vcond c (yF a 0 j fun c => yF c 10 j fun c => yF c 6 j fun c => yL c 1 false j fun c => yF b 2 j fun d => yL d 1 false j fun d => yI c d 1 j fun c => yL c 1 false j fun c => aE [a, b] [a, b] /\ g [c] j) (xL b 15 true j fun c f => ag PP kg [a, c, d, e] f fun c d => aE [a, b] [a, b] /\ g [c] d))))) /\ vbin .eql f (.int .i64 8) fun g => vcond g (aE [a, b, c, d, e, f] [a, b, c, d, e, f] /\ i [g] h) (vbin .eql f (.int .i64 9) fun g => aE [a, b, c, d, e, f] [a, b, c, d, e, f] /\ i [g] h))
theorem Ax (a0 : D) (a1 : D) (a2 : D) (h0 : Heap) (K : HK) (KP : Heap -> Prop) : uo a0 a1 a2 h0 K KP = vcC PP m4.code (fun x e h' => match x with | .exit _ => False | .pan => KP h' | _ => iB PP m4.res K e h') (params [a0, a1, a2] 0) h0 := by kernel_rfl
def qW : TL
 | 1000013 => some ([0, 2], []) | _ => none
def vo : TT
 | 1 => some ([0, 1, 3, 7, 15, 0, 32, 96, 224, 480, 1023, 2047, 4095, 0, 16383], [13, 14], []) | 7 => some ([0, 1, 3, 7, 0, 16, 63, 127], [6], [999999]) | 11 => some ([0, 1, 3, 7, 0, 16, 48, 112, 240, 0, 512, 1536, 3584, 7680, 16383, 32767], [15], []) | _ => none
noncomputable abbrev nR := cFn PP true gI qW (cDr PP 77 vo)
noncomputable def od : aI := ⟨77, aS nR, [.cell 2 7 true]⟩
theorem tK : nR = some od := by kernel_rfl
def nJ (a : D) (b : Heap) (K : HK) : Prop :=
 ab PP (.alloc (.agg [zI, zI, zI, zI, .nil, .nil, .nil])) b fun b c => yF a 0 c fun d => yF d 0 c fun d => yF d 7 c fun d => yL d 1 false c fun d => yF a 0 c fun e => yF e 10 c fun e => yF e 2 c fun e => yL e 1 false c fun e => yI d e 14 c fun d => yF d 1 c fun d => yL d 13 true c fun d => ab PP (.alloc (.agg [zI, zI, zI, zI, zJ, zI, zI, zJ, zI, zI, zJ, zI, zI])) c fun c e => xS c d 13 e fun d e => ∃(d : HJ), ( ∀(c : Nat -> D) (e : Heap), d [] e -> xF a 0 e fun a c => xF a 10 c fun a c => xL a 7 true c fun a c => xS b a 7 c fun a c => xL b 7 true c fun a b => K a c) /\ xF c 0 e fun e f => xL e 1 false f fun e f => vbin .eql e (.int .i64 1) fun g => vcond g (xF c 11 f fun c e => ab PP (.iadda (.c c) (.c zI) 2 1) e fun c e => xL c 1 false e fun c e => xF a 0 e fun e f => xF e 10 f fun e f => xF e 2 f fun e f => xS e c 1 f fun c e => aE [a, b] [a, b] /\ d [] e) (vbin .eql e (.int .i64 2) fun g => vcond g (yF a 0 f fun e => yF e 10 f fun e => yL e 7 true f fun e => yF c 5 f fun g => yL g 3 true f fun g => ag PP bX [e, g] f fun e f => vbin .neq e zJ fun e => vcond e (xF c 11 f fun c e => ab PP (.iadda (.c c) (.c zI) 2 1) e fun c e => xL c 1 false e fun c e => xF a 0 e fun e f => xF e 10 f fun e f => xF e 2 f fun e f => xS e c 1 f fun c e => aE [a, b] [a, b] /\ d [] e) (xF c 11 f fun c e => ab PP (.iadda (.c c) (.c (.int .i64 1)) 2 1) e fun c e => xL c 1 false e fun c e => xF a 0 e fun e f => xF e 10 f fun e f => xF e 2 f fun e f => xS e c 1 f fun c e => aE [a, b] [a, b] /\ d [] e)) (vbin .eql e (.int .i64 5) fun c => vcond c (yF a 0 f fun c => yF c 0 f fun c => yL c 8 true f fun c => yF a 0 f fun d => yF d 10 f fun d => yF d 0 f fun d => yL d 1 false f fun d => yF a 0 f fun a => yF a 10 f fun a => yF a 3 f fun a => yL a 1 false f fun a => an PP (.call kU [(.c c), (.c d), (.c a), (.c (.int .i64 3))]) f fun a => xS b a 7 f fun a c => xL b 7 true c fun a b => K a c) (xF a 0 f fun c e => xF c 10 e fun c e => xF c 1 e fun c e => xS c (.int .i64 2) 1 e fun c e => aE [a, b] [a, b] /\ d [] e)))
theorem tC (a0 : D) (h0 : Heap) (K : HK) : nJ a0 h0 K = eD od K [a0] h0 := by kernel_rfl
def vF : TL
 | 1000016 => some ([5, 6, 7, 8, 9, 10, 11, 12], []) | 1000018 => some ([5, 6, 7, 8, 9, 10, 11, 12], []) | 1000022 => some ([5, 7, 8, 9], []) | 1000024 => some ([5, 8], []) | _ => none
def zk : TT
 | 6 => some ([0, 1, 0, 4, 15, 0, 0, 0, 128, 0, 1023, 2047, 4095], [4, 10], [999999]) | 20 => some ([0, 0, 0, 4, 0, 0, 32, 0, 0, 480, 992, 2047], [9, 11], [999999]) | _ => none
noncomputable abbrev rY := cFn PP true ly vF (cDr PP 107 zk)
noncomputable def sA : aI := ⟨107, aS rY, [.cell 8 11 true]⟩
theorem yC : rY = some sA := by kernel_rfl
def rI (a : D) (b : D) (c : D) (d : D) (e : Heap) (K : HK) : Prop :=
 ab PP (.box (.c a)) e fun a e => ab PP (.box (.c b)) e fun b e => ab PP (.box (.c c)) e fun c e => ab PP (.box (.c d)) e fun d e => ab PP (.alloc (.agg [zI, zI, zI, zI, .nil, .nil, .nil, .nil, .nil, .nil, zI])) e fun e f => xF a 5 f fun a f => xL a 1 false f fun a f => xF c 2 f fun f g => xL f 1 false g fun f g => xI a f 4 g fun a f => xL a 4 true f fun a f => ab PP (.alloc (.agg [(.str ⟨#[]⟩), zI, zI, zI])) f fun f g => xS f a 4 g fun a g => xF b 0 g fun a g => xL a 7 true g fun a g => xF c 6 g fun g h => xL g 3 true h fun g h => ag PP cj [a, g] h fun a g => ab PP (.conv .i64 (.c a)) g fun a g => vbin .lss a zI fun h => vguard h false (fun b => b a g) g fun g i => vguard h false (fun a => xF f 3 i fun b c => a b c) i fun i j => vguard h false (fun a => xL i 1 false j fun b c => a b c) j fun i j => vguard h false (fun a => vbin .geq g i fun b => a b j) j fun g i => ab PP (.pick (.c h) (.c (.bool true)) (.c g)) i fun g h => vcond g (xF b 10 h fun a c => xS a (.int .i64 70) 1 c fun a c => xL b 11 true c fun a b => xS e a 11 b fun a b => xL e 11 true b fun a c => K a b) (yF b 0 h fun g => yL g 7 true h fun g => yF c 9 h fun i => yL i 3 true h fun i => yL b 11 true h fun j => yL f 4 true h fun k => yF c 2 h fun l => yL l 1 false h fun m => ag PP cj [g, i] h fun g h => ((yL b 11 true h fun a => aE [a] [j]) /\ (yL f 4 true h fun a => aE [a] [k]) /\ (yF c 2 h fun a => aE [a] [l]) /\ (yL l 1 false h fun a => aE [a] [m]) /\ True) /\ ag PP qL [j, k, m, a] h fun h i => xF d 0 i fun i j => xS i (.int .i64 2) 1 j fun i j => xF c 2 j fun i j => xL i 1 false j fun i j => xF d 6 j fun j k => xS j i 1 k fun i j => xF d 7 j fun i j => xS i a 1 j fun i j => xF d 8 j fun i j => xS i g 1 j fun i j => ∃(i : HJ), ( ∀(j : Nat -> D) (k : Heap), i [] k -> ∃(i : HJ), ( ∀(j : Nat -> D) (k : Heap), i [] k -> ∃(i : HJ), ( ∀(a : Nat -> D) (c : Heap), i [] c -> ∃(a : HJ), ( ∀(c : Nat -> D) (d : Heap), a [] d -> xL b 11 true d fun a b => xS e a 11 b fun a b => xL e 11 true b fun a c => K a b) /\ xF f 1 c fun c f => xL c 1 false f fun c f => vbin .neq c (.int .i64 3) fun c => vcond c (xF b 9 f fun c f => xL c 1 false f fun c f => xL d 9 true f fun d f => ab PP (.bldS true 9 1 (.agg [zI, zI, zI, zI, zI, zI, zI, zI, zJ]) [(0, (.c d))]) f fun d f => ab PP (.app (.c c) (.c d) 9 72 (.agg [zI, zI, zI, zI, zI, zI, zI, zI, zJ])) f fun c d => xF b 9 d fun d f => xS d c 1 f fun c d => aE [b, e] [b, e] /\ a [] d) (aE [b, e] [b, e] /\ a [] f)) /\ xF c 0 k fun j k => xL j 1 false k fun j k => vbin .eql j (.int .i64 9) fun j => vcond j (xF d 0 k fun j k => xS j (.int .i64 3) 1 k fun j k => xF c 1 k fun j k => xL j 1 false k fun j k => xF d 1 k fun k l => xS k j 1 l fun j k => yL b 11 true k fun j => yL f 4 true k fun l => yF c 2 k fun m => yL m 1 false k fun n => yF c 1 k fun o => yL o 1 false k fun o => ag PP jw [o, h, g] k fun g h => ((yL b 11 true h fun a => aE [a] [j]) /\ (yL f 4 true h fun a => aE [a] [l]) /\ (yF c 2 h fun a => aE [a] [m]) /\ (yL m 1 false h fun a => aE [a] [n]) /\ True) /\ an PP (.fld (.c g) 0 1 false) h fun c => ag PP me [j, l, n, a, c] h fun a c => aE [b, d, e, f] [b, d, e, f] /\ i [] c) (aE [b, d, e, f] [b, d, e, f] /\ i [] k)) /\ xF c 0 k fun j k => xL j 1 false k fun j k => vbin .eql j (.int .i64 8) fun j => vcond j (xL b 11 true k fun j k => xL f 4 true k fun k l => xF c 2 l fun l m => xL l 1 false m fun l m => ag PP me [j, k, l, a, g] m fun j k => aE [b, c, d, e, f, a, g, h] [b, c, d, e, f, a, g, h] /\ i [] k) (aE [b, c, d, e, f, a, g, h] [b, c, d, e, f, a, g, h] /\ i [] k)) /\ xF c 0 j fun j k => xL j 1 false k fun j k => vbin .eql j (.int .i64 7) fun j => vcond j (xF d 0 k fun j k => xS j (.int .i64 1) 1 k fun j k => xF d 8 k fun j k => xS j h 1 k fun j k => xF b 0 k fun j k => xF j 4 k fun j k => xL j 1 false k fun j k => xF c 3 k fun k l => xF k 1 l fun k l => xL k 1 false l fun k l => xI j k 1 l fun j k => xS j h 1 k fun j k => aE [b, c, d, e, f, a, g, h] [b, c, d, e, f, a, g, h] /\ i [] k) (aE [b, c, d, e, f, a, g, h] [b, c, d, e, f, a, g, h] /\ i [] k))
theorem xA (a0 : D) (a1 : D) (a2 : D) (a3 : D) (h0 : Heap) (K : HK) : rI a0 a1 a2 a3 h0 K = eD sA K [a0, a1, a2, a3] h0 := by kernel_rfl
def w6 : TL
 | _ => none
def BN : TT
 | _ => none
noncomputable abbrev ur := cFn PP true cj w6 (cDr PP 16 BN)
noncomputable def uK : aI := ⟨16, aS ur, [.t 4]⟩
theorem Az : ur = some uK := by kernel_rfl
def tV (a : D) (b : D) (c : Heap) (K : HK) : Prop :=
 ab PP (.box (.c a)) c fun a c => ab PP (.box (.c b)) c fun b c => xF b 0 c fun c d => xL c 1 false d fun c d => vbin .eql c (.int .i64 2) fun c => vcond c (xF a 4 d fun a c => xL a 1 false c fun a c => xF b 1 c fun b c => xL b 1 false c fun b c => xI a b 1 c fun a b => xL a 1 false b fun a b => K a b) (xF b 2 d fun a b => xL a 1 false b fun a b => K a b)
theorem Ai (a0 : D) (a1 : D) (h0 : Heap) (K : HK) : tV a0 a1 h0 K = eD uK K [a0, a1] h0 := by kernel_rfl
def vE : TL
 | _ => none
def zj : TT
 | 1 => some ([0, 0, 2, 7, 0, 0, 32, 127, 255, 511], [3, 7], [999999]) | _ => none
noncomputable abbrev rX := cFn PP true lx vE (cDr PP 72 zj)
noncomputable def sy : aI := ⟨72, aS rX, [.t 8]⟩
theorem yB : rX = some sy := by kernel_rfl
def rH (a : D) (b : D) (c : D) (d : D) (e : Heap) (K : HK) : Prop :=
 ab PP (.box (.c a)) e fun a e => ab PP (.box (.c b)) e fun b e => ab PP (.box (.c c)) e fun c e => ab PP (.box (.c d)) e fun d e => yL c 7 true e fun f => yF d 6 e fun g => yL g 3 true e fun g => yL c 7 true e fun h => yF d 9 e fun i => yL i 3 true e fun j => ag PP cj [f, g] e fun e f => ((yL c 7 true f fun a => aE [a] [h]) /\ (yF d 9 f fun a => aE [a] [i]) /\ (yL i 3 true f fun a => aE [a] [j]) /\ True) /\ ag PP cj [h, j] f fun f g => xF d 0 g fun g h => xL g 1 false h fun g h => vbin .eql g (.int .i64 2) fun i => vcond i (xF d 1 h fun a b => xL a 1 false b fun a b => ag PP ox [a, e] b fun a b => ab PP (.fld (.c a) 0 1 false) b fun a b => K a b) (vbin .eql g (.int .i64 3) fun i => vcond i (xF d 1 h fun a b => xL a 1 false b fun a b => ag PP jw [a, e, f] b fun a b => ab PP (.fld (.c a) 0 1 false) b fun a b => K a b) (vbin .eql g (.int .i64 4) fun i => vcond i (vbin .neq e zJ fun a => vcond a (K f h) (xL c 7 true h fun a b => xF d 12 b fun b c => xL b 3 true c fun b c => ag PP cj [a, b] c fun a b => K a b)) (vbin .eql g (.int .i64 5) fun f => vcond f (xL a 8 true h fun a e => xL b 2 true e fun b e => xF c 0 e fun c e => xL c 1 false e fun c e => xF d 1 e fun d e => xL d 1 false e fun d e => ag PP ow [a, b, c, d] e fun a b => ab PP (.fld (.c a) 0 1 false) b fun a b => K a b) (vbin .eql g (.int .i64 6) fun a => vcond a (xF b 1 h fun a b => xL a 1 false b fun a b => xF d 2 b fun b c => xL b 1 false c fun b c => xI a b 1 c fun a b => xL a 1 false b fun a b => K a b) (vbin .eql g (.int .i64 11) fun a => vcond a (xF c 6 h fun a b => xL a 1 false b fun a b => xF d 2 b fun b c => xL b 1 false c fun b c => xI a b 1 c fun a b => xL a 1 false b fun a b => K a b) (K e h))))))
theorem xz (a0 : D) (a1 : D) (a2 : D) (a3 : D) (h0 : Heap) (K : HK) : rH a0 a1 a2 a3 h0 K = eD sy K [a0, a1, a2, a3] h0 := by kernel_rfl
def zS : TL
 | _ => none
def DQ : TT
 | 1 => some ([0, 0, 0, 0, 8, 24, 0, 64, 192, 0, 512, 1536, 4095, 8191], [13], []) | _ => none
noncomputable abbrev yt := cFn PP true kU zS (cDr PP 22 DQ)
noncomputable def y0 : aI := ⟨22, aS yt, [.cell 8 7 true]⟩
theorem C4 : yt = some y0 := by kernel_rfl
def xZ (a : D) (b : D) (c : D) (d : D) (e : Heap) (K : HK) : Prop :=
 ab PP (.box (.c a)) e fun a e => ab PP (.alloc (.agg [zI, zI, zI, zI, .nil, .nil, .nil])) e fun e f => yF a 2 f fun g => yL g 1 false f fun g => an PP (.mk 1 4 zJ (.c g) (.c g)) f fun g => yF a 5 f fun h => yL h 1 false f fun h => an PP (.call mU [(.c h), (.c (.int .i64 3))]) f fun h => yF a 3 f fun a => yL a 1 false f fun a => an PP (.mk 1 4 zJ (.c a) (.c a)) f fun a => an PP (.bld [zI, zI, zI, zI, .nil, .nil, .nil] [(0, 1, (.c b)), (1, 1, (.c d)), (3, 1, (.c c)), (4, 1, (.c g)), (5, 1, (.c h)), (6, 1, (.c a))]) f fun a => xS e a 7 f fun a b => xL e 7 true b fun a c => K a b
theorem CI (a0 : D) (a1 : D) (a2 : D) (a3 : D) (h0 : Heap) (K : HK) : xZ a0 a1 a2 a3 h0 K = eD y0 K [a0, a1, a2, a3] h0 := by kernel_rfl
def w9 : TL
 | _ => none
def BQ : TT
 | _ => none
noncomputable abbrev uw := cFn PP true mR w9 (cDr PP 11 BQ)
noncomputable def uN : aI := ⟨11, aS uw, [.t 4]⟩
theorem AD : uw = some uN := by kernel_rfl
def tY (a : D) (b : D) (c : Heap) (K : HK) : Prop :=
 ab PP (.box (.c a)) c fun a c => xF a 1 c fun c d => xL c 1 false d fun c d => vbin .eql c b fun b => vcond b (xF a 3 d fun a b => xL a 1 false b fun a b => K a b) (K zI d)
theorem Al (a0 : D) (a1 : D) (h0 : Heap) (K : HK) : tY a0 a1 h0 K = eD uN K [a0, a1] h0 := by kernel_rfl
def cr : TL
 | 1000011 => some ([], []) | 4 => some ([1, 2, 15, 16], [17]) | _ => none
def cD : TT
 | _ => none
noncomputable abbrev bD := cFn PP true bB cr (cDr PP 32 cD)
noncomputable def bE : aI := ⟨32, aS bD, [.t 6]⟩
theorem cA : bD = some bE := by kernel_rfl
def bq (a : Heap) (b : D) (c : D) (d : D) (e : D) (f : HJ) (K : HK) : Prop :=
 ∃(g : Nat -> HJ) (h : Nat), g h [zI] a /\ ∀(a : Nat) (h : Nat -> D) (i : Heap), g a [h 17] i -> vbin .lss (h 17) b fun j => vcond j (xI c (h 17) 4 i fun f i => xL f 4 true i fun f i => ab PP (.alloc (.agg [(.str ⟨#[]⟩), zI, zI, zI])) i fun i j => xS i f 4 j fun f j => xI d (h 17) 1 j fun f j => xL f 1 false j fun f j => xL i 4 true j fun i j => ab PP (.callv (.c e) [(.c i), (.c f)]) j fun f i => vun .not f fun f => vcond f (K (.bool false) i) (vbin .add (h 17) (.int .i64 1) fun f => aE [d, e, c, b] [d, e, c, b] /\ ∃b, b < a /\ g b [f] i)) (aE [] [] /\ f [] i)
def bC (a : D) (b : D) (c : D) (d : Heap) (K : HK) : Prop :=
 cq a d fun e => cq b d fun f => vbin .neq e f fun e => vcond e (K (.bool false) d) ( ∃(e : HJ), ( ∀(a : Nat -> D) (b : Heap), e [] b -> K (.bool true) b) /\ cq a d fun f => bq d f a b c e K)
theorem cv (a0 : D) (a1 : D) (a2 : D) (h0 : Heap) (K : HK) : bC a0 a1 a2 h0 K = eD bE K [a0, a1, a2] h0 := by kernel_rfl
def qU : TL
 | _ => none
def vk : TT
 | _ => none
noncomputable abbrev nP := cFn PP true gH qU (cDr PP 12 vk)
noncomputable def nY : aI := ⟨12, aS nP, [.t 5]⟩
theorem tI : nP = some nY := by kernel_rfl
def nH (a : D) (b : D) (c : D) (d : Heap) (K : HK) : Prop :=
 ab PP (.box (.c a)) d fun a d => xL a 4 true d fun a d => xL c 1 false d fun c d => ag PP jx [a, c] d fun a c => cq b c fun b => vbin .eql a b fun a => K a c
theorem tA (a0 : D) (a1 : D) (a2 : D) (h0 : Heap) (K : HK) : nH a0 a1 a2 h0 K = eD nY K [a0, a1, a2] h0 := by kernel_rfl
def xh : TL
 | _ => none
def BY : TT
 | _ => none
noncomputable abbrev uF := cFn PP true jx xh (cDr PP 11 BY)
noncomputable def uV : aI := ⟨11, aS uF, [.t 4]⟩
theorem AL : uF = some uV := by kernel_rfl
def ui (a : D) (b : D) (c : Heap) (K : HK) : Prop :=
 ab PP (.box (.c a)) c fun a c => xF a 1 c fun c d => xL c 1 false d fun c d => vbin .neq c b fun b => vcond b (K zI d) (xF a 3 d fun a b => xL a 1 false b fun a b => K a b)
theorem Au (a0 : D) (a1 : D) (h0 : Heap) (K : HK) : ui a0 a1 h0 K = eD uV K [a0, a1] h0 := by kernel_rfl
def gW : TL
 | 1000008 => some ([], []) | 2 => some ([0, 1, 7], [8]) | _ => none
def ix : TT
 | _ => none
noncomputable abbrev eS := cFn PP true eO gW (cDr PP 19 ix)
noncomputable def eT : aI := ⟨19, aS eS, [.t 4]⟩
theorem im : eS = some eT := by kernel_rfl
def dJ (a : Heap) (b : D) (c : D) (d : D) (e : HJ) (K : HK) : Prop :=
 ∃(f : Nat -> HJ) (g : Nat), f g [zI] a /\ ∀(a : Nat) (g : Nat -> D) (h : Heap), f a [g 8] h -> vbin .lss (g 8) b fun i => vcond i (xI c (g 8) 1 h fun e h => xL e 1 false h fun e h => ab PP (.callv (.c d) [(.c e)]) h fun e h => vcond e (K (g 8) h) (vbin .add (g 8) (.int .i64 1) fun e => aE [c, d, b] [c, d, b] /\ ∃b, b < a /\ f b [e] h)) (aE [] [] /\ e [] h)
def eP (a : D) (b : D) (c : Heap) (K : HK) : Prop :=
 ∃(d : HJ), ( ∀(a : Nat -> D) (b : Heap), d [] b -> K (.int .i64 (-1)) b) /\ cq a c fun e => dJ c e a b d K
theorem il (a0 : D) (a1 : D) (h0 : Heap) (K : HK) : eP a0 a1 h0 K = eD eT K [a0, a1] h0 := by kernel_rfl
def xe : TL
 | _ => none
def BV : TT
 | _ => none
noncomputable abbrev uC := cFn PP true gV xe (cDr PP 4 BV)
noncomputable def uS : aI := ⟨4, aS uC, [.t 2]⟩
theorem AI : uC = some uS := by kernel_rfl
def uf (a : D) (b : Heap) (K : HK) : Prop :=
 vcond a (K (.int .i32 1) b) (K (.int .i32 0) b)
theorem Ar (a0 : D) (h0 : Heap) (K : HK) : uf a0 h0 K = eD uS K [a0] h0 := by kernel_rfl
def qT : TL
 | _ => none
def vj : TT
 | _ => none
noncomputable abbrev nO := cFn PP true jn qT (cDr PP 36 vj)
noncomputable def nX : aI := ⟨36, aS nO, [.t 6]⟩
theorem tH : nO = some nX := by kernel_rfl
def nF (a : D) (b : D) (c : D) (d : Heap) (K : HK) : Prop :=
 vbin .eql a (.int .i64 24) fun e => vcond e (vbin .eql b c fun a => K a d) (vbin .eql a (.int .i64 25) fun e => vcond e (vbin .neq b c fun a => K a d) (vbin .eql a (.int .i64 26) fun e => vcond e (vbin .lss b c fun a => K a d) (vbin .eql a (.int .i64 27) fun e => vcond e (vbin .leq b c fun a => K a d) (vbin .eql a (.int .i64 28) fun a => vcond a (vbin .gtr b c fun a => K a d) (vbin .geq b c fun a => K a d)))))
theorem tx (a0 : D) (a1 : D) (a2 : D) (h0 : Heap) (K : HK) : nF a0 a1 a2 h0 K = eD nX K [a0, a1, a2] h0 := by kernel_rfl
def zN : TL
 | 1000013 => some ([], [9]) | 3 => some ([0, 7, 8], [9, 10]) | 1000010 => some ([0, 7, 8, 9, 10, 11, 12], [13]) | 1000012 => some ([0, 7, 8, 9, 10], [13]) | _ => none
def DL : TT
 | 5 => some ([0, 0, 2, 7, 15, 0, 0, 70, 230, 486, 223, 2047], [], []) | _ => none
noncomputable abbrev yl := cFn PP true kT zN (cDr PP 68 DL)
noncomputable def yU : aI := ⟨68, aS yl, [.t 6]⟩
theorem CY : yl = some yU := by kernel_rfl
def pD (a : Heap) (b : D) (c : D) (d : D) (e : HJ) : Prop :=
 ∃(f : Nat -> HJ) (g : Nat), f g [zI, zI] a /\ ∀(a : Nat) (g : Nat -> D) (h : Heap), f a [g 9, g 10] h -> vbin .lss (g 10) (.int .i64 32) fun i => vcond i (an PP (.call cP [(.c (g 10))]) h fun e => vbin .quo b e fun e => vbin .rem e (.int .i64 2) fun e => an PP (.call cP [(.c (g 10))]) h fun i => vbin .quo c i fun i => vbin .rem i (.int .i64 2) fun i => vbin .mul e i fun j => ∃(k : HJ), ( ∀(h : Nat -> D) (j : Heap), k [h 13] j -> ∃(k : HJ), ( ∀(e : Nat -> D) (h : Heap), k [e 13] h -> ag PP cP [(g 10)] h fun h i => vbin .mul (e 13) h fun e => vbin .add (g 9) e fun e => vbin .add (g 10) (.int .i64 1) fun g => aE [d, b, c] [d, b, c] /\ ∃b, b < a /\ f b [e, g] i) /\ vbin .eql d (.int .i64 19) fun a => vcond a (vbin .add e i fun a => vbin .rem a (.int .i64 2) fun a => aE [d, b, c, (g 9), (g 10)] [d, b, c, (g 9), (g 10)] /\ k [a] j) (aE [d, b, c, (g 9), (g 10)] [d, b, c, (g 9), (g 10)] /\ k [(h 13)] j)) /\ vbin .eql d (.int .i64 18) fun a => vcond a (ab PP (.mx (.c e) (.c i)) h fun a f => aE [d, b, c, (g 9), (g 10), e, i] [d, b, c, (g 9), (g 10), e, i] /\ k [a] f) (aE [d, b, c, (g 9), (g 10), e, i] [d, b, c, (g 9), (g 10), e, i] /\ k [j] h)) (aE [] [] /\ e [(g 9)] h)
def xT (a : D) (b : D) (c : D) (d : Heap) (K : HK) : Prop :=
 ab PP (.conv .i64 (.c b)) d fun d e => ag PP cP [(.int .i64 32)] e fun e f => vbin .lss b zJ fun b => ag PP gV [b] f fun b f => ab PP (.conv .i64 (.c b)) f fun b f => vbin .mul e b fun b => vbin .add d b fun b => ab PP (.conv .i64 (.c c)) f fun d e => ag PP cP [(.int .i64 32)] e fun e f => vbin .lss c zJ fun c => ag PP gV [c] f fun c f => ab PP (.conv .i64 (.c c)) f fun c f => vbin .mul e c fun c => vbin .add d c fun c => ∃(d : HJ), ( ∀(a : Nat -> D) (b : Heap), d [a 9] b -> ag PP cO [(a 9)] b fun a b => K a b) /\ pD f b c a d
theorem CD (a0 : D) (a1 : D) (a2 : D) (h0 : Heap) (K : HK) : xT a0 a1 a2 h0 K = eD yU K [a0, a1, a2] h0 := by kernel_rfl
def zM : TL
 | _ => none
def DK : TT
 | _ => none
noncomputable abbrev yk := cFn PP true cO zM (cDr PP 7 DK)
noncomputable def yT : aI := ⟨7, aS yk, [.t 2]⟩
theorem CX : yk = some yT := by kernel_rfl
def xR (a : D) (b : Heap) (K : HK) : Prop :=
 ab PP (.conv .u64 (.c a)) b fun a b => ab PP (.conv .u32 (.c a)) b fun a b => ab PP (.conv .i32 (.c a)) b fun a b => K a b
theorem CC (a0 : D) (h0 : Heap) (K : HK) : xR a0 h0 K = eD yT K [a0] h0 := by kernel_rfl
end Go.Am
namespace Go.Am
open Go Go.Proofs
def xa : TL
 | _ => none
def BR : TT
 | _ => none
noncomputable abbrev uy := cFn PP true mS xa (cDr PP 76 BR)
noncomputable def uO : aI := ⟨76, aS uy, [.t 6]⟩
theorem AE : uy = some uO := by kernel_rfl
def tZ (a : D) (b : D) (c : D) (d : Heap) (K : HK) : Prop :=
 vbin .rem c (.int .i64 32) fun e => vbin .add e (.int .i64 32) fun e => vbin .rem e (.int .i64 32) fun e => vbin .eql a (.int .i64 10) fun f => vcond f (vbin .add b c fun a => K a d) (vbin .eql a (.int .i64 11) fun f => vcond f (vbin .sub b c fun a => K a d) (vbin .eql a (.int .i64 12) fun f => vcond f (vbin .mul b c fun a => K a d) (vbin .eql a (.int .i64 13) fun f => vcond f (ag PP gG [b, c] d fun a b => K a b) (vbin .eql a (.int .i64 14) fun f => vcond f (ag PP gG [b, c] d fun a d => vbin .mul c a fun a => vbin .sub b a fun a => K a d) (vbin .eql a (.int .i64 15) fun f => vcond f (vbin .mul b c fun a => ag PP eG [a, (.int .i64 65536)] d fun a b => K a b) (vbin .eql a (.int .i64 16) fun f => vcond f (vbin .eql c zI fun a => vcond a (K zI d) (vbin .mul (.int .i64 65536) b fun a => ag PP mT [a, c] d fun a b => K a b)) (vbin .eql a (.int .i64 20) fun f => vcond f (ag PP cP [e] d fun a c => vbin .mul b a fun a => K a c) (vbin .eql a (.int .i64 21) fun f => vcond f (ag PP cP [e] d fun a c => ag PP eG [b, a] c fun a b => K a b) (vbin .eql a (.int .i64 22) fun a => vcond a (ab PP (.mn (.c b) (.c c)) d fun a b => K a b) (ab PP (.mx (.c b) (.c c)) d fun a b => K a b))))))))))
theorem An (a0 : D) (a1 : D) (a2 : D) (h0 : Heap) (K : HK) : tZ a0 a1 a2 h0 K = eD uO K [a0, a1, a2] h0 := by kernel_rfl
def p9 : TL
 | _ => none
def sZ : TT
 | 2 => some ([0, 1, 3, 7, 15, 0, 0, 64, 192, 448, 960, 0, 4032, 8128, 16320, 0, 32768, 131008, 262143, 524287, 1048575], [17, 20], [4, 18]) | _ => none
noncomputable abbrev mE := cFn PP true aK p9 (cDr PP 32 sZ)
noncomputable def mK : aI := ⟨32, aS mE, []⟩
theorem sE : mE = some mK := by kernel_rfl
def mo (a : D) (b : D) (c : Heap) (K : HK) : Prop :=
 ab PP (.box (.c b)) c fun b c => xF a 0 c fun c d => xF c 2 d fun c d => xF c 7 d fun c d => xL c 1 false d fun c d => cq c d fun c => vbin .sub c (.int .i64 1) fun c => yF a 0 d fun e => yF e 2 d fun e => yF e 7 d fun e => yL e 1 false d fun f => yF a 0 d fun a => yF a 2 d fun a => yF a 7 d fun a => yL a 1 false d fun a => yI a c 14 d fun a => yF a 0 d fun a => yL a 1 false d fun a => yL b 15 true d fun b => an PP (.bldS false 15 1 (.agg [zI, zI, zI, zI, zI, zJ, zI, zI, zJ, zI, zI, zJ, zI, zI, zJ]) [(0, (.c b))]) d fun b => yI f c 14 d fun g => yF g 0 d fun h => ab PP (.app (.c a) (.c b) 15 120 (.agg [zI, zI, zI, zI, zI, zJ, zI, zI, zJ, zI, zI, zJ, zI, zI, zJ])) d fun a b => ((yL e 1 false b fun a => aE [a] [f]) /\ (yI f c 14 b fun a => aE [a] [g]) /\ True) /\ xS h a 1 b fun a b => ((yL e 1 false b fun a => aE [a] [f]) /\ (yI f c 14 b fun a => aE [a] [g]) /\ True) /\ K (.tup []) b
theorem rM (a0 : D) (a1 : D) (h0 : Heap) (K : HK) : mo a0 a1 h0 K = eD mK K [a0, a1] h0 := by kernel_rfl
def Ch : TL
 | _ => none
def Fe : TT
 | _ => none
noncomputable abbrev Br := cFn PP true dj Ch (cDr PP 5 Fe)
noncomputable def BD : aI := ⟨5, aS Br, [.cell 2 3 true]⟩
theorem EY : Br = some BD := by kernel_rfl
def Be (a : D) (b : Heap) (K : HK) : Prop :=
 ab PP (.alloc (.agg [zI, zI, zJ])) b fun b c => ab PP (.bld [zI, zI, zJ] [(0, 1, (.c (.int .i64 2))), (1, 1, (.c a))]) c fun a c => xS b a 3 c fun a c => xL b 3 true c fun a b => K a c
theorem EH (a0 : D) (h0 : Heap) (K : HK) : Be a0 h0 K = eD BD K [a0] h0 := by kernel_rfl
def w8 : TL
 | _ => none
def BP : TT
 | _ => none
noncomputable abbrev uv := cFn PP true eF w8 (cDr PP 5 BP)
noncomputable def uM : aI := ⟨5, aS uv, [.cell 2 3 true]⟩
theorem AB : uv = some uM := by kernel_rfl
def tX (a : D) (b : Heap) (K : HK) : Prop :=
 ab PP (.alloc (.agg [zI, zI, zJ])) b fun b c => ab PP (.bld [zI, zI, zJ] [(0, 1, (.c (.int .i64 1))), (2, 1, (.c a))]) c fun a c => xS b a 3 c fun a c => xL b 3 true c fun a b => K a c
theorem Ak (a0 : D) (h0 : Heap) (K : HK) : tX a0 h0 K = eD uM K [a0] h0 := by kernel_rfl
def oJ : TL
 | _ => none
def qC : TT
 | 18 => some ([0, 0, 0, 4, 12, 30, 62, 0, 0, 0, 524, 2046, 4095], [3, 10, 12], [999999]) | 21 => some ([0, 0, 0, 4, 0, 30, 63], [3, 6], [999999]) | 22 => some ([0, 0, 0, 0, 8, 30, 63], [4, 6], [999999]) | _ => none
noncomputable abbrev lS := cFn PP true ic oJ (cDr PP 133 qC)
noncomputable def lY : aI := ⟨133, aS lS, []⟩
theorem qo : lS = some lY := by kernel_rfl
def lO (a : D) (b : Heap) (K : HK) : Prop :=
 ag PP ak [a] b fun b c => vbin .rem b (.int .i64 16) fun b => vbin .lss b (.int .i64 3) fun d => vcond d (ag PP ak [a] c fun b c => vbin .rem b (.int .i64 7) fun b => vbin .add (.int .i64 1) b fun b => ag PP bb [a] c fun c d => ab PP (.bld [zI, zI, zI, zI, zI, zJ, zI, zI, zJ, zI, zI, zJ, zI, zI, zJ] [(0, 1, (.c (.int .i64 5))), (1, 1, (.c b)), (3, 3, (.c c))]) d fun b c => ag PP aK [a, b] c fun a b => K (.tup []) b) (vbin .lss b (.int .i64 7) fun d => vcond d (ag PP ak [a] c fun b c => vbin .rem b (.int .i64 20) fun b => vbin .add (.int .i64 10) b fun b => ag PP bb [a] c fun c d => ag PP aZ [a] d fun d e => ag PP aZ [a] e fun e f => ab PP (.bld [zI, zI, zI, zI, zI, zJ, zI, zI, zJ, zI, zI, zJ, zI, zI, zJ] [(0, 1, (.c (.int .i64 3))), (1, 1, (.c b)), (3, 3, (.c c)), (6, 3, (.c d)), (9, 3, (.c e))]) f fun b c => ag PP aK [a, b] c fun a b => K (.tup []) b) (vbin .eql b (.int .i64 7) fun d => vcond d (ag PP ak [a] c fun b c => vbin .rem b (.int .i64 5) fun b => vbin .add (.int .i64 1) b fun b => ag PP bb [a] c fun c d => ag PP aZ [a] d fun d e => ab PP (.bld [zI, zI, zI, zI, zI, zJ, zI, zI, zJ, zI, zI, zJ, zI, zI, zJ] [(0, 1, (.c (.int .i64 2))), (1, 1, (.c b)), (3, 3, (.c c)), (6, 3, (.c d))]) e fun b c => ag PP aK [a, b] c fun a b => K (.tup []) b) (vbin .eql b (.int .i64 8) fun d => vcond d (ag PP bb [a] c fun b c => ag PP aZ [a] c fun c d => ag PP aZ [a] d fun d e => ag PP aZ [a] e fun e f => ab PP (.bld [zI, zI, zI, zI, zI, zJ, zI, zI, zJ, zI, zI, zJ, zI, zI, zJ] [(0, 1, (.c (.int .i64 4))), (3, 3, (.c b)), (6, 3, (.c c)), (9, 3, (.c d)), (12, 3, (.c e))]) f fun b c => ag PP aK [a, b] c fun a b => K (.tup []) b) (vbin .eql b (.int .i64 9) fun d => vcond d (ag PP bb [a] c fun b c => ag PP aZ [a] c fun c d => ab PP (.bld [zI, zI, zI, zI, zI, zJ, zI, zI, zJ, zI, zI, zJ, zI, zI, zJ] [(0, 1, (.c (.int .i64 1))), (3, 3, (.c b)), (6, 3, (.c c))]) d fun b c => ag PP aK [a, b] c fun a b => K (.tup []) b) (vbin .eql b (.int .i64 10) fun d => vcond d (ag PP ak [a] c fun b c => vbin .rem b (.int .i64 3) fun b => ag PP bb [a] c fun c d => ab PP (.bld [zI, zI, zI, zI, zI, zJ, zI, zI, zJ, zI, zI, zJ, zI, zI, zJ] [(0, 1, (.c (.int .i64 6))), (2, 1, (.c b)), (3, 3, (.c c))]) d fun b c => ag PP aK [a, b] c fun a b => K (.tup []) b) (vbin .eql b (.int .i64 11) fun d => vcond d (ag PP ak [a] c fun b c => vbin .rem b (.int .i64 2) fun b => vbin .add (.int .i64 1) b fun b => ab PP (.bld [zI, zI, zI, zI, zI, zJ, zI, zI, zJ, zI, zI, zJ, zI, zI, zJ] [(0, 1, (.c (.int .i64 10))), (1, 1, (.c b))]) c fun b c => ag PP aK [a, b] c fun a b => K (.tup []) b) (vbin .eql b (.int .i64 12) fun d => vcond d (ag PP eU [a, (.bool false)] c fun b c => ab PP (.ext (.c b) 0) c fun c d => ab PP (.ext (.c b) 1) d fun b d => ab PP (.alloc (.agg [zI, zI, zJ])) d fun d e => xS d b 3 e fun b e => an PP (.bldS false 1 6 zI [(0, (.c (.int .i64 10))), (1, (.c (.int .i64 22))), (2, (.c (.int .i64 23))), (3, (.c (.int .i64 17))), (4, (.c (.int .i64 18))), (5, (.c (.int .i64 19)))]) e fun b => yL d 3 true e fun f => ag PP ak [a] e fun e g => ((yL d 3 true g fun a => aE [a] [f]) /\ True) /\ vbin .rem e (.int .i64 6) fun e => yI b e 1 g fun h => yL h 1 false g fun i => ag PP aZ [a] g fun g j => ((yI b e 1 j fun a => aE [a] [h]) /\ (yL h 1 false j fun a => aE [a] [i]) /\ (yL d 3 true j fun a => aE [a] [f]) /\ True) /\ an PP (.bld [zI, zI, zI, zI, zI, zJ, zI, zI, zJ, zI, zI, zJ, zI, zI, zJ] [(0, 1, (.c (.int .i64 9))), (1, 1, (.c i)), (2, 1, (.c c)), (6, 3, (.c f)), (9, 3, (.c g))]) j fun b => ag PP aK [a, b] j fun a b => K (.tup []) b) (ag PP eU [a, (.bool true)] c fun c d => ab PP (.ext (.c c) 0) d fun d e => ab PP (.ext (.c c) 1) e fun c e => ab PP (.alloc (.agg [zI, zI, zJ])) e fun e f => xS e c 3 f fun c f => vbin .eql b (.int .i64 13) fun b => vcond b (yL e 3 true f fun b => ag PP bb [a] f fun c f => ((yL e 3 true f fun a => aE [a] [b]) /\ True) /\ an PP (.bld [zI, zI, zI, zI, zI, zJ, zI, zI, zJ, zI, zI, zJ, zI, zI, zJ] [(0, 1, (.c (.int .i64 7))), (2, 1, (.c d)), (3, 3, (.c c)), (6, 3, (.c b))]) f fun b => ag PP aK [a, b] f fun a b => K (.tup []) b) (yL e 3 true f fun b => ag PP aZ [a] f fun c f => ((yL e 3 true f fun a => aE [a] [b]) /\ True) /\ an PP (.bld [zI, zI, zI, zI, zI, zJ, zI, zI, zJ, zI, zI, zJ, zI, zI, zJ] [(0, 1, (.c (.int .i64 8))), (2, 1, (.c d)), (6, 3, (.c b)), (9, 3, (.c c))]) f fun b => ag PP aK [a, b] f fun a b => K (.tup []) b)))))))))
theorem qh (a0 : D) (h0 : Heap) (K : HK) : lO a0 h0 K = eD lY K [a0] h0 := by kernel_rfl
def th : TL
 | 8000002 => some ([], []) | _ => none
def wE : TT
 | _ => none
noncomputable abbrev pM := cFn PP true fL th (cDr PP 34 wE)
noncomputable def ku : aI := ⟨34, aS pM, [.t 6]⟩
theorem wh : pM = some ku := by kernel_rfl
def pF (a : D) (b : D) (c : D) (d : Heap) (K : HK) (KP : Heap -> Prop) : Prop :=
 vbin .lss c zJ fun e => vguard e false (fun a => a c d) d fun d f => vguard e false (fun a => ab PP (.conv .i64 (.c d)) f fun b c => a b c) f fun d f => vguard e false (fun b => b a f) f fun f g => vguard e false (fun a => xF f 0 g fun b c => a b c) g fun f g => vguard e false (fun a => xF f 0 g fun b c => a b c) g fun f g => vguard e false (fun a => xF f 5 g fun b c => a b c) g fun f g => vguard e false (fun a => xL f 1 false g fun b c => a b c) g fun f g => vguard e false (fun a => a b g) g fun g h => vguard e false (fun a => xI f g 4 h fun b c => a b c) h fun f g => vguard e false (fun a => xF f 3 g fun b c => a b c) g fun f g => vguard e false (fun a => xL f 1 false g fun b c => a b c) g fun f g => vguard e false (fun a => vbin .geq d f fun b => a b g) g fun d f => ab PP (.pick (.c e) (.c (.bool true)) (.c d)) f fun d e => vcond d ( ∀_ : LEnv, KP e) (ag PP gd [a, b] e fun a d => xI a b 1 d fun a b => xL a 1 false b fun a b => xI a c 1 b fun a b => xL a 1 false b fun a b => K a b)
theorem vZ (a0 : D) (a1 : D) (a2 : D) (h0 : Heap) (K : HK) (KP : Heap -> Prop) : pF a0 a1 a2 h0 K KP = vcC PP ku.code (fun x e h' => match x with | .exit _ => False | .pan => KP h' | _ => iB PP ku.res K e h') (params [a0, a1, a2] 0) h0 := by kernel_rfl
def ti : TL
 | _ => none
def wF : TT
 | 1 => some ([0, 1, 3, 7, 15, 31, 63, 127, 255, 15, 527, 2047, 4095, 8191, 16383, 32767], [], []) | 2 => some ([0, 0, 2, 6, 14, 0, 32, 126, 255, 511, 1023], [7, 10], []) | _ => none
noncomputable abbrev pN := cFn PP true fM ti (cDr PP 30 wF)
noncomputable def pT : aI := ⟨30, aS pN, []⟩
theorem wi : pN = some pT := by kernel_rfl
def pG (a : D) (b : D) (c : Heap) (K : HK) : Prop :=
 ab PP (.box (.c b)) c fun b c => yF b 0 c fun d => yL d 1 false c fun d => vbin .neq d (.int .i64 4) fun d => aO d true (fun b => b a) fun e => aO d true (fun a => yF e 0 c fun b => a b) fun e => aO d true (fun a => yF e 0 c fun b => a b) fun e => aO d true (fun a => yF e 5 c fun b => a b) fun e => aO d true (fun a => yL e 1 false c fun b => a b) fun e => aO d true (fun a => yF b 6 c fun b => a b) fun f => aO d true (fun a => yL f 1 false c fun b => a b) fun f => aO d true (fun a => yI e f 4 c fun b => a b) fun e => aO d true (fun a => yF e 1 c fun b => a b) fun e => aO d true (fun a => yL e 1 false c fun b => a b) fun e => aO d true (fun a => vbin .eql e (.int .i64 3) fun b => a b) fun e => an PP (.pick (.c d) (.c e) (.c (.bool false))) c fun d => vcond d (K (.tup []) c) (yF a 0 c fun d => yF d 19 c fun d => yL d 1 false c fun d => yL b 9 true c fun b => an PP (.bldS false 9 1 (.agg [zI, zI, zI, zI, zI, zI, zI, zI, zJ]) [(0, (.c b))]) c fun b => yF a 0 c fun a => yF a 19 c fun a => ab PP (.app (.c d) (.c b) 9 72 (.agg [zI, zI, zI, zI, zI, zI, zI, zI, zJ])) c fun b c => xS a b 1 c fun a b => K (.tup []) b)
theorem v5 (a0 : D) (a1 : D) (h0 : Heap) (K : HK) : pG a0 a1 h0 K = eD pT K [a0, a1] h0 := by kernel_rfl
def zC : TL
 | _ => none
def DC : TT
 | _ => none
noncomputable abbrev yc := cFn PP true kR zC (cDr PP 103 DC)
noncomputable def yA : aI := ⟨103, aS yc, [.t 6, .t 7]⟩
theorem CP : yc = some yA := by kernel_rfl
def xy (a : D) (b : D) (c : D) (d : Heap) (K : HK) : Prop :=
 ab PP (.conv .i64 (.c b)) d fun d e => ab PP (.conv .i64 (.c c)) e fun e f => ag PP iE [b, c] f fun f g => ab PP (.ext (.c f) 0) g fun g h => ab PP (.ext (.c f) 1) h fun f h => vbin .eql a (.int .i64 10) fun i => vcond i (vbin .add b c fun a => K (.tup [a, zI]) h) (vbin .eql a (.int .i64 11) fun i => vcond i (vbin .sub b c fun a => K (.tup [a, zI]) h) (vbin .eql a (.int .i64 12) fun i => vcond i (vbin .mul b c fun a => K (.tup [a, zI]) h) (vbin .eql a (.int .i64 13) fun i => vcond i (K (.tup [g, zI]) h) (vbin .eql a (.int .i64 14) fun g => vcond g (K (.tup [f, zI]) h) (vbin .eql a (.int .i64 15) fun f => vcond f (vbin .mul d e fun a => vbin .shr a (.int .u64 16) fun a => ab PP (.conv .i32 (.c a)) h fun a b => K (.tup [a, zI]) b) (vbin .eql a (.int .i64 16) fun f => vcond f (vbin .eql c zJ fun a => vcond a (K (.tup [zJ, zI]) h) (vbin .shl d (.int .u64 16) fun a => ag PP lv [a, e] h fun a b => ab PP (.conv .i32 (.c a)) b fun a b => K (.tup [a, zI]) b)) (vbin .eql a (.int .i64 17) fun d => vcond d (vbin .and b c fun a => K (.tup [a, zI]) h) (vbin .eql a (.int .i64 18) fun d => vcond d (vbin .or b c fun a => K (.tup [a, zI]) h) (vbin .eql a (.int .i64 19) fun d => vcond d (vbin .xor b c fun a => K (.tup [a, zI]) h) (vbin .eql a (.int .i64 20) fun d => vcond d (vbin .and c (.int .i32 31) fun a => vbin .shl b a fun a => K (.tup [a, zI]) h) (vbin .eql a (.int .i64 21) fun d => vcond d (vbin .and c (.int .i32 31) fun a => vbin .shr b a fun a => K (.tup [a, zI]) h) (vbin .eql a (.int .i64 22) fun d => vcond d (ab PP (.mn (.c b) (.c c)) h fun a b => K (.tup [a, zI]) b) (vbin .eql a (.int .i64 23) fun d => vcond d (ab PP (.mx (.c b) (.c c)) h fun a b => K (.tup [a, zI]) b) (ag PP gF [a, b, c] h fun a b => ab PP (.ext (.c a) 0) b fun b c => ab PP (.ext (.c a) 1) c fun a c => K (.tup [b, a]) c))))))))))))))
theorem Cu (a0 : D) (a1 : D) (a2 : D) (h0 : Heap) (K : HK) : xy a0 a1 a2 h0 K = eD yA K [a0, a1, a2] h0 := by kernel_rfl
def qV : TL
 | 1000006 => some ([1, 2, 3, 8], []) | _ => none
def vn : TT
 | 2 => some ([0, 1, 3, 7, 0, 31, 63], [], []) | 4 => some ([0, 1, 3, 7, 0, 31], [5], []) | _ => none
noncomputable abbrev nQ := cFn PP true jq qV (cDr PP 51 vn)
noncomputable def nZ : aI := ⟨51, aS nQ, []⟩
theorem tJ : nQ = some nZ := by kernel_rfl
def nI (a : D) (b : D) (c : D) (d : D) (e : Heap) (K : HK) : Prop :=
 ag PP gd [a, b] e fun e f => xF a 0 f fun f g => xF f 0 g fun f g => xF f 5 g fun f g => xL f 1 false g fun f g => xI f b 4 g fun f g => xF f 1 g fun f g => xL f 1 false g fun f g => ab PP (.bld [zI, zI] [(0, 1, (.c f)), (1, 1, (.c b))]) g fun f g => ab PP (.alloc (.agg [zI, zI])) g fun g h => xS g f 2 h fun f h => ∃(f : HJ), ( ∀(a : Nat -> D) (g : Heap), f [] g -> xI e b 1 g fun a b => xL a 1 false b fun a b => xI a c 1 b fun a b => xS a d 1 b fun a b => K (.tup []) b) /\ yF a 0 h fun i => yF i 20 h fun i => yL i 1 false h fun i => yL g 2 true h fun j => an PP (.look (.pair .i64) (.c i) (.c j) (.bool false) false) h fun i => vun .not i fun i => vcond i (xI e b 1 h fun h i => xL h 1 false i fun h i => ag PP aQ [h] i fun h i => xI e b 1 i fun i j => xS i h 1 j fun h i => yF a 0 i fun a => yF a 20 i fun a => yL a 1 false i fun a => yL g 2 true i fun g => ab PP (.mupd (.pair .i64) (.c a) (.c g) (.c (.bool true))) i fun a g => aE [b, c, d, e] [b, c, d, e] /\ f [] g) (aE [b, c, d, e] [b, c, d, e] /\ f [] h)
theorem tB (a0 : D) (a1 : D) (a2 : D) (a3 : D) (h0 : Heap) (K : HK) : nI a0 a1 a2 a3 h0 K = eD nZ K [a0, a1, a2, a3] h0 := by kernel_rfl
def tj : TL
 | 1000015 => some ([], [2]) | 1000010 => some ([], [3]) | _ => none
def wG : TT
 | 8 => some ([0, 1, 3, 7, 0, 16, 63, 127], [6], [999999]) | 11 => some ([0, 1, 3, 7, 0, 16, 48, 112, 0, 256, 768, 1792, 3840, 0, 8192, 32767, 65535, 131071, 131071, 262143], [], []) | 13 => some ([0, 1, 3, 7, 15, 0, 32, 127, 255, 511], [], []) | _ => none
noncomputable abbrev pO := cFn PP true kg tj (cDr PP 75 wG)
noncomputable def pU : aI := ⟨75, aS pO, [.t 8]⟩
theorem wj : pO = some pU := by kernel_rfl
def pH (a : D) (b : D) (c : D) (d : D) (e : Heap) (K : HK) : Prop :=
 ab PP (.box (.c b)) e fun b e => ∃(f : HJ), ( ∀(a : Nat -> D) (b : Heap), f [a 2] b -> K (a 2) b) /\ xF b 0 e fun e g => xL e 1 false g fun e g => vbin .eql e (.int .i64 2) fun h => vcond h (xF b 1 g fun a b => xL a 1 false b fun a b => ag PP qK [a, c] b fun a b => ab PP (.ext (.c a) 0) b fun b c => ab PP (.ext (.c a) 1) c fun a c => aE [] [] /\ f [b] c) (vbin .eql e (.int .i64 3) fun h => vcond h (xF b 1 g fun a b => xL a 1 false b fun a b => ag PP kR [a, c, d] b fun a b => ab PP (.ext (.c a) 0) b fun b c => ab PP (.ext (.c a) 1) c fun a c => aE [] [] /\ f [b] c) (vbin .eql e (.int .i64 4) fun h => vcond h ( ∃(e : HJ), ( ∀(a : Nat -> D) (b : Heap), e [a 3] b -> aE [] [] /\ f [(a 3)] b) /\ vbin .eql c zJ fun c => vcond c (yF a 0 g fun a => yF a 10 g fun a => yL a 7 true g fun a => yF b 12 g fun b => yL b 3 true g fun b => ag PP bX [a, b] g fun a b => aE [] [] /\ e [a] b) (aE [] [] /\ e [d] g)) (vbin .eql e (.int .i64 5) fun d => vcond d (yF a 0 g fun c => yF c 0 g fun c => yL c 8 true g fun c => yF a 0 g fun d => yF d 8 g fun d => yL d 2 true g fun d => yF a 0 g fun a => yF a 10 g fun a => yF a 0 g fun a => yL a 1 false g fun a => yF b 1 g fun b => yL b 1 false g fun b => an PP (.call qN [(.c c), (.c d), (.c a), (.c b)]) g fun a => an PP (.ext (.c a) 0) g fun b => an PP (.ext (.c a) 1) g fun a => aE [] [] /\ f [b] g) (vbin .eql e (.int .i64 6) fun d => vcond d (yF a 0 g fun a => yF a 8 g fun a => yF a 1 g fun a => yL a 1 false g fun a => yF b 2 g fun b => yL b 1 false g fun b => yI a b 1 g fun a => yL a 1 false g fun a => aE [] [] /\ f [a] g) (aE [] [] /\ f [c] g)))))
theorem v7 (a0 : D) (a1 : D) (a2 : D) (a3 : D) (h0 : Heap) (K : HK) : pH a0 a1 a2 a3 h0 K = eD pU K [a0, a1, a2, a3] h0 := by kernel_rfl
def Cg : TL
 | _ => none
def Fc : TT
 | _ => none
noncomputable abbrev Bq := cFn PP true qL Cg (cDr PP 40 Fc)
noncomputable def BC : aI := ⟨40, aS Bq, [.t 8]⟩
theorem EX : Bq = some BC := by kernel_rfl
def Bd (a : D) (b : D) (c : D) (d : D) (e : Heap) (K : HK) : Prop :=
 ab PP (.box (.c a)) e fun a e => ab PP (.box (.c b)) e fun b e => xF b 1 e fun e f => xL e 1 false f fun e f => vbin .eql e (.int .i64 1) fun e => vcond e (xF a 7 f fun a b => xL a 1 false b fun a b => xI a c 1 b fun a b => xL a 1 false b fun a b => xI a d 1 b fun a b => xL a 1 false b fun a b => K a b) (xF b 1 f fun b e => xL b 1 false e fun b e => vbin .eql b (.int .i64 2) fun b => vcond b (xF a 8 e fun a b => xL a 1 false b fun a b => xI a c 1 b fun a b => xL a 1 false b fun a b => xI a d 1 b fun a b => xL a 1 false b fun a b => K a b) (xF a 0 e fun a b => xF a 5 b fun a b => xL a 1 false b fun a b => xI a c 1 b fun a b => xL a 1 false b fun a b => xI a d 1 b fun a b => xL a 1 false b fun a b => K a b))
theorem EG (a0 : D) (a1 : D) (a2 : D) (a3 : D) (h0 : Heap) (K : HK) : Bd a0 a1 a2 a3 h0 K = eD BC K [a0, a1, a2, a3] h0 := by kernel_rfl
def Cf : TL
 | _ => none
def Fb : TT
 | _ => none
noncomputable abbrev Bp := cFn PP true me Cf (cDr PP 41 Fb)
noncomputable def BB : aI := ⟨41, aS Bp, []⟩
theorem EW : Bp = some BB := by kernel_rfl
def Bc (a : D) (b : D) (c : D) (d : D) (e : D) (f : Heap) (K : HK) : Prop :=
 ab PP (.box (.c a)) f fun a f => ab PP (.box (.c b)) f fun b f => xF b 1 f fun f g => xL f 1 false g fun f g => vbin .eql f (.int .i64 1) fun f => vcond f (xF a 7 g fun a b => xL a 1 false b fun a b => xI a c 1 b fun a b => xL a 1 false b fun a b => xI a d 1 b fun a b => xS a e 1 b fun a b => K (.tup []) b) (xF b 1 g fun b f => xL b 1 false f fun b f => vbin .eql b (.int .i64 2) fun b => vcond b (xF a 8 f fun a b => xL a 1 false b fun a b => xI a c 1 b fun a b => xL a 1 false b fun a b => xI a d 1 b fun a b => xS a e 1 b fun a b => K (.tup []) b) (xF a 0 f fun a b => xF a 5 b fun a b => xL a 1 false b fun a b => xI a c 1 b fun a b => xL a 1 false b fun a b => xI a d 1 b fun a b => xS a e 1 b fun a b => K (.tup []) b))
theorem EF (a0 : D) (a1 : D) (a2 : D) (a3 : D) (a4 : D) (h0 : Heap) (K : HK) : Bc a0 a1 a2 a3 a4 h0 K = eD BB K [a0, a1, a2, a3, a4] h0 := by kernel_rfl
def zO : TL
 | _ => none
def DM : TT
 | _ => none
noncomputable abbrev yn := cFn PP true ox zO (cDr PP 43 DM)
noncomputable def yV : aI := ⟨43, aS yn, [.cell 4 2 true]⟩
theorem CZ : yn = some yV := by kernel_rfl
def xU (a : D) (b : D) (c : Heap) (K : HK) : Prop :=
 ab PP (.alloc (.agg [zJ, zI])) c fun c d => ab PP (.conv .i64 (.c b)) d fun b d => vbin .eql a (.int .i64 1) fun e => vcond e (vun .neg b fun a => ag PP cO [a] d fun a b => ab PP (.bld [zJ, zI] [(0, 1, (.c a))]) b fun a b => xS c a 2 b fun a b => xL c 2 true b fun a c => K a b) (vbin .eql a (.int .i64 2) fun e => vcond e (vun .neg b fun a => vbin .sub a (.int .i64 1) fun a => ag PP cO [a] d fun a b => ab PP (.bld [zJ, zI] [(0, 1, (.c a))]) b fun a b => xS c a 2 b fun a b => xL c 2 true b fun a c => K a b) (vbin .eql a (.int .i64 3) fun e => vcond e (vun .neg b fun a => ab PP (.mx (.c b) (.c a)) d fun a b => ag PP cO [a] b fun a b => ab PP (.bld [zJ, zI] [(0, 1, (.c a))]) b fun a b => xS c a 2 b fun a b => xL c 2 true b fun a c => K a b) (vbin .eql a (.int .i64 4) fun e => vcond e (vbin .mul b (.int .i64 65536) fun a => ag PP cO [a] d fun a b => ab PP (.bld [zJ, zI] [(0, 1, (.c a))]) b fun a b => xS c a 2 b fun a b => xL c 2 true b fun a c => K a b) (vbin .eql a (.int .i64 5) fun a => vcond a (ag PP eG [b, (.int .i64 65536)] d fun a b => ag PP cO [a] b fun a b => ab PP (.bld [zJ, zI] [(0, 1, (.c a))]) b fun a b => xS c a 2 b fun a b => xL c 2 true b fun a c => K a b) (ab PP (.bld [zJ, zI] [(1, 1, (.c (.int .i64 1)))]) d fun a b => xS c a 2 b fun a b => xL c 2 true b fun a c => K a b)))))
theorem CE (a0 : D) (a1 : D) (h0 : Heap) (K : HK) : xU a0 a1 h0 K = eD yV K [a0, a1] h0 := by kernel_rfl
def zK : TL
 | _ => none
def DI : TT
 | 4 => some ([0, 0, 0, 0, 8, 0, 32, 120, 0, 256, 0, 0, 2048, 7168, 0, 0, 32768, 114688, 262143, 524287], [], []) | _ => none
noncomputable abbrev yi := cFn PP true ow zK (cDr PP 63 DI)
noncomputable def yQ : aI := ⟨63, aS yi, [.cell 8 2 true]⟩
theorem CV : yi = some yQ := by kernel_rfl
def xO (a : D) (b : D) (c : D) (d : D) (e : Heap) (K : HK) : Prop :=
 ab PP (.box (.c a)) e fun a e => ab PP (.box (.c b)) e fun b e => ab PP (.alloc (.agg [zJ, zI])) e fun e f => vbin .lss d (.int .i64 1) fun g => vguard g false (fun a => a d f) f fun f h => vguard g false (fun a => vbin .gtr f (.int .i64 7) fun b => a b h) h fun f h => ab PP (.pick (.c g) (.c (.bool true)) (.c f)) h fun f g => vguard f false (fun a => a c g) g fun g h => vguard f false (fun a => vbin .lss g zI fun b => a b h) h fun g h => ab PP (.pick (.c f) (.c (.bool true)) (.c g)) h fun f g => vguard f false (fun a => a c g) g fun g h => vguard f false (fun a => xF b 0 h fun b c => a b c) h fun h i => vguard f false (fun a => xL h 1 false i fun b c => a b c) i fun h i => vguard f false (fun b => xF a 0 i fun a c => b a c) i fun i j => vguard f false (fun a => xL i 1 false j fun b c => a b c) j fun i j => vguard f false (fun a => vbin .mul h i fun b => a b j) j fun h i => vguard f false (fun a => vbin .geq g h fun b => a b i) i fun g h => ab PP (.pick (.c f) (.c (.bool true)) (.c g)) h fun f g => vcond f (ab PP (.bld [zJ, zI] [(1, 1, (.c (.int .i64 1)))]) g fun a b => xS e a 2 b fun a b => xL e 2 true b fun a c => K a b) (xL a 8 true g fun f g => ag PP vz [f, c] g fun f g => ab PP (.ext (.c f) 0) g fun g h => ab PP (.ext (.c f) 1) h fun f h => yF b 0 h fun b => yL b 1 false h fun b => yF a 0 h fun i => yL i 1 false h fun i => vbin .mul b i fun b => yF a 0 h fun i => yL i 1 false h fun i => yF a 1 h fun j => yL j 1 false h fun j => vbin .rem f j fun j => yF a 1 h fun a => yL a 1 false h fun a => vbin .quo f a fun a => an PP (.bldS false 1 8 zI [(0, (.c zI)), (1, (.c c)), (2, (.c f)), (3, (.c g)), (4, (.c b)), (5, (.c i)), (6, (.c j)), (7, (.c a))]) h fun a => xI a d 1 h fun a b => xL a 1 false b fun a b => ab PP (.conv .i32 (.c a)) b fun a b => ab PP (.bld [zJ, zI] [(0, 1, (.c a))]) b fun a b => xS e a 2 b fun a b => xL e 2 true b fun a c => K a b)
theorem CA (a0 : D) (a1 : D) (a2 : D) (a3 : D) (h0 : Heap) (K : HK) : xO a0 a1 a2 a3 h0 K = eD yQ K [a0, a1, a2, a3] h0 := by kernel_rfl
def xj : TL
 | 1000008 => some ([5], []) | 3 => some ([1, 5, 11, 12], [13]) | _ => none
def BZ : TT
 | _ => none
noncomputable abbrev uG := cFn PP true mU xj (cDr PP 27 BZ)
noncomputable def uW : aI := ⟨27, aS uG, [.t 4]⟩
theorem AM : uG = some uW := by kernel_rfl
def nG (a : Heap) (b : D) (c : D) (d : D) (e : D) (f : HJ) : Prop :=
 ∃(g : Nat -> HJ) (h : Nat), g h [zI] a /\ ∀(a : Nat) (h : Nat -> D) (i : Heap), g a [h 13] i -> vbin .lss (h 13) b fun j => vcond j (xI c (h 13) 4 i fun f i => xL f 4 true i fun f i => ab PP (.alloc (.agg [(.str ⟨#[]⟩), zI, zI, zI])) i fun i j => xS i f 4 j fun f j => xL i 4 true j fun f i => ag PP jx [f, d] i fun f i => ab PP (.mk 1 4 zJ (.c f) (.c f)) i fun f i => xI e (h 13) 1 i fun i j => xS i f 1 j fun f i => vbin .add (h 13) (.int .i64 1) fun f => aE [d, e, c, b] [d, e, c, b] /\ ∃b, b < a /\ g b [f] i) (aE [e] [e] /\ f [] i)
def uj (a : D) (b : D) (c : Heap) (K : HK) : Prop :=
 cq a c fun d => ab PP (.mk 1 24 .nil (.c d) (.c d)) c fun c d => ∃(e : HJ), ( ∀(a : Nat -> D) (b : Heap), e [] b -> K c b) /\ cq a d fun f => nG d f a b c e
theorem Av (a0 : D) (a1 : D) (h0 : Heap) (K : HK) : uj a0 a1 h0 K = eD uW K [a0, a1] h0 := by kernel_rfl
def xb : TL
 | 1000007 => some ([], [3]) | 3 => some ([0], [3, 4]) | _ => none
def BS : TT
 | _ => none
noncomputable abbrev uz := cFn PP true cP xb (cDr PP 13 BS)
noncomputable def uP : aI := ⟨13, aS uz, [.t 2]⟩
theorem AF : uz = some uP := by kernel_rfl
def nE (a : Heap) (b : D) (c : HJ) : Prop :=
 ∃(d : Nat -> HJ) (e : Nat), d e [(.int .i64 1), zI] a /\ ∀(a : Nat) (e : Nat -> D) (f : Heap), d a [e 3, e 4] f -> vbin .lss (e 4) b fun g => vcond g (vbin .mul (.int .i64 2) (e 3) fun c => vbin .add (e 4) (.int .i64 1) fun e => aE [b] [b] /\ ∃b, b < a /\ d b [c, e] f) (aE [] [] /\ c [(e 3)] f)
def uc (a : D) (b : Heap) (K : HK) : Prop :=
 ∃(c : HJ), ( ∀(a : Nat -> D) (b : Heap), c [a 3] b -> K (a 3) b) /\ nE b a c
theorem Ao (a0 : D) (h0 : Heap) (K : HK) : uc a0 h0 K = eD uP K [a0] h0 := by kernel_rfl
def qS : TL
 | _ => none
def ve : TT
 | _ => none
noncomputable abbrev nN := cFn PP true gG qS (cDr PP 10 ve)
noncomputable def nW : aI := ⟨10, aS nN, [.t 4]⟩
theorem tG : nN = some nW := by kernel_rfl
def nD (a : D) (b : D) (c : Heap) (K : HK) : Prop :=
 vbin .eql b zI fun d => vcond d (K zI c) (vbin .quo a b fun a => K a c)
theorem tv (a0 : D) (a1 : D) (h0 : Heap) (K : HK) : nD a0 a1 h0 K = eD nW K [a0, a1] h0 := by kernel_rfl
def xc : TL
 | 1000005 => some ([], [5]) | _ => none
def BT : TT
 | _ => none
noncomputable abbrev uA := cFn PP true eG xc (cDr PP 16 BT)
noncomputable def uQ : aI := ⟨16, aS uA, [.t 4]⟩
theorem AG : uA = some uQ := by kernel_rfl
def ud (a : D) (b : D) (c : Heap) (K : HK) : Prop :=
 vbin .quo a b fun d => ∃(e : HJ), ( ∀(a : Nat -> D) (b : Heap), e [a 5] b -> K (a 5) b) /\ vbin .rem a b fun a => vbin .lss a zI fun a => vcond a (vbin .sub d (.int .i64 1) fun a => aE [] [] /\ e [a] c) (aE [] [] /\ e [d] c)
theorem Ap (a0 : D) (a1 : D) (h0 : Heap) (K : HK) : ud a0 a1 h0 K = eD uQ K [a0, a1] h0 := by kernel_rfl
def xd : TL
 | _ => none
def BU : TT
 | _ => none
noncomputable abbrev uB := cFn PP true mT xd (cDr PP 15 BU)
noncomputable def uR : aI := ⟨15, aS uB, [.t 4]⟩
theorem AH : uB = some uR := by kernel_rfl
def ue (a : D) (b : D) (c : Heap) (K : HK) : Prop :=
 vbin .lss b zI fun d => vcond d (vun .neg a fun a => vun .neg b fun b => ag PP eG [a, b] c fun a b => K a b) (ag PP eG [a, b] c fun a b => K a b)
theorem Aq (a0 : D) (a1 : D) (h0 : Heap) (K : HK) : ue a0 a1 h0 K = eD uR K [a0, a1] h0 := by kernel_rfl
def nj : TL
 | 1000005 => some ([0, 5], [6]) | _ => none
def pX : TT
 | 5 => some ([0, 0, 0, 4, 0, 16, 48, 112, 240, 0, 1008, 2032, 4080, 8176, 16368, 32764, 65534, 131071], [3, 17], [999999]) | 6 => some ([0, 0, 1, 7], [3], []) | _ => none
noncomputable abbrev kH := cFn PP true eU nj (cDr PP 39 pX)
noncomputable def kM : aI := ⟨39, aS kH, [.t 4, .cell 5 3 true]⟩
theorem ph : kH = some kM := by kernel_rfl
def kD (a : D) (b : D) (c : Heap) (K : HK) : Prop :=
 ab PP (.alloc (.agg [zI, zI, zJ])) c fun c d => ag PP ak [a] d fun d e => vbin .rem d (.int .i64 5) fun d => ∃(f : HJ), ( ∀(b : Nat -> D) (d : Heap), f [b 6] d -> ag PP bb [a] d fun d e => ab PP (.alloc (.agg [zI, zI, zJ])) e fun e f => xS e d 3 f fun d f => yL e 3 true f fun d => yF a 0 f fun g => yF g 2 f fun h => yF h 5 f fun i => yL i 1 false f fun j => yI j (b 6) 4 f fun k => yF k 3 f fun l => yL l 1 false f fun m => vbin .sub m (.int .i64 1) fun n => an PP (.conv .i32 (.c n)) f fun n => ag PP aZ [a] f fun f o => ((yL e 3 true o fun a => aE [a] [d]) /\ (yF a 0 o fun a => aE [a] [g]) /\ (yF g 2 o fun a => aE [a] [h]) /\ (yF h 5 o fun a => aE [a] [i]) /\ (yL i 1 false o fun a => aE [a] [j]) /\ (yI j (b 6) 4 o fun a => aE [a] [k]) /\ (yF k 3 o fun a => aE [a] [l]) /\ (yL l 1 false o fun a => aE [a] [m]) /\ True) /\ an PP (.call eF [(.c n)]) o fun g => an PP (.bld [zI, zI, zI, zI, zI, zJ, zI, zI, zJ, zI, zI, zJ, zI, zI, zJ] [(0, 1, (.c (.int .i64 3))), (1, 1, (.c (.int .i64 17))), (3, 3, (.c d)), (6, 3, (.c f)), (9, 3, (.c g))]) o fun d => ag PP aK [a, d] o fun a d => yL e 3 true d fun a => xS c a 3 d fun a d => xL c 3 true d fun a c => K (.tup [(b 6), a]) d) /\ vbin .eql d (.int .i64 3) fun g => vguard g true (fun a => a b e) e fun b e => vguard g true (fun a => vun .not b fun b => a b e) e fun b e => ab PP (.pick (.c g) (.c b) (.c (.bool false))) e fun b e => vcond b (aE [a, c] [a, c] /\ f [zI] e) (aE [a, c] [a, c] /\ f [d] e)
theorem oZ (a0 : D) (a1 : D) (h0 : Heap) (K : HK) : kD a0 a1 h0 K = eD kM K [a0, a1] h0 := by kernel_rfl
def qc : TL
 | _ => none
def s9 : TT
 | _ => none
noncomputable abbrev mG := cFn PP true gd qc (cDr PP 31 s9)
noncomputable def mM : aI := ⟨31, aS mG, [.t 4]⟩
theorem sK : mG = some mM := by kernel_rfl
def mA (a : D) (b : D) (c : Heap) (K : HK) : Prop :=
 xF a 0 c fun c d => xF c 0 d fun c d => xF c 5 d fun c d => xL c 1 false d fun c d => xI c b 4 d fun b c => xF b 1 c fun b c => xL b 1 false c fun b c => vbin .eql b (.int .i64 1) fun d => vcond d (xF a 0 c fun a b => xF a 17 b fun a b => xL a 1 false b fun a b => K a b) (vbin .eql b (.int .i64 2) fun b => vcond b (xF a 0 c fun a b => xF a 18 b fun a b => xL a 1 false b fun a b => K a b) (xF a 0 c fun a b => xF a 10 b fun a b => xF a 5 b fun a b => xL a 1 false b fun a b => K a b))
theorem rS (a0 : D) (a1 : D) (h0 : Heap) (K : HK) : mA a0 a1 h0 K = eD mM K [a0, a1] h0 := by kernel_rfl
def p0 : TL
 | _ => none
def sW : TT
 | 4 => some ([0, 0, 3, 7, 0, 0, 48, 112, 15, 511], [], []) | _ => none
noncomputable abbrev mB := cFn PP true iE p0 (cDr PP 23 sW)
noncomputable def mH : aI := ⟨23, aS mB, [.t 4, .t 5]⟩
theorem su : mB = some mH := by kernel_rfl
def mj (a : D) (b : D) (c : Heap) (K : HK) : Prop :=
 vbin .eql b zJ fun d => vcond d (K (.tup [zJ, a]) c) (ab PP (.conv .i64 (.c a)) c fun a c => ab PP (.conv .i64 (.c b)) c fun b c => vbin .quo a b fun d => an PP (.conv .i32 (.c d)) c fun d => vbin .rem a b fun a => an PP (.conv .i32 (.c a)) c fun a => K (.tup [d, a]) c)
theorem rE (a0 : D) (a1 : D) (h0 : Heap) (K : HK) : mj a0 a1 h0 K = eD mH K [a0, a1] h0 := by kernel_rfl
def vD : TL
 | 1000005 => some ([], [5]) | _ => none
def zi : TT
 | 1 => some ([0, 0, 3, 0, 0, 24, 7, 127], [], []) | _ => none
noncomputable abbrev rW := cFn PP true lv vD (cDr PP 25 zi)
noncomputable def sw : aI := ⟨25, aS rW, [.t 4]⟩
theorem yz : rW = some sw := by kernel_rfl
def rG (a : D) (b : D) (c : Heap) (K : HK) : Prop :=
 vbin .quo a b fun d => vbin .rem a b fun a => ∃(e : HJ), ( ∀(a : Nat -> D) (b : Heap), e [a 5] b -> K (a 5) b) /\ vbin .neq a zI fun f => vguard f true (fun b => b a c) c fun a c => vguard f true (fun b => vbin .lss a zI fun a => b a c) c fun a c => vguard f true (fun a => a b c) c fun b c => vguard f true (fun a => vbin .lss b zI fun b => a b c) c fun b c => vguard f true (fun d => ab PP (.eqv true false [.b] (.c a) (.c b)) c fun a b => d a b) c fun a b => ab PP (.pick (.c f) (.c a) (.c (.bool false))) b fun a b => vcond a (vbin .sub d (.int .i64 1) fun a => aE [] [] /\ e [a] b) (aE [] [] /\ e [d] b)
theorem xx (a0 : D) (a1 : D) (h0 : Heap) (K : HK) : rG a0 a1 h0 K = eD sw K [a0, a1] h0 := by kernel_rfl
def qQ : TL
 | _ => none
def u9 : TT
 | _ => none
noncomputable abbrev nL := cFn PP true gF qQ (cDr PP 45 u9)
noncomputable def nT : aI := ⟨45, aS nL, [.t 6, .t 7]⟩
theorem tE : nL = some nT := by kernel_rfl
def ny (a : D) (b : D) (c : D) (d : Heap) (K : HK) : Prop :=
 vbin .eql a (.int .i64 24) fun e => vcond e (vbin .eql b c fun a => ag PP ck [a] d fun a b => K (.tup [a, zI]) b) (vbin .eql a (.int .i64 25) fun e => vcond e (vbin .neq b c fun a => ag PP ck [a] d fun a b => K (.tup [a, zI]) b) (vbin .eql a (.int .i64 26) fun e => vcond e (vbin .lss b c fun a => ag PP ck [a] d fun a b => K (.tup [a, zI]) b) (vbin .eql a (.int .i64 27) fun e => vcond e (vbin .leq b c fun a => ag PP ck [a] d fun a b => K (.tup [a, zI]) b) (vbin .eql a (.int .i64 28) fun e => vcond e (vbin .gtr b c fun a => ag PP ck [a] d fun a b => K (.tup [a, zI]) b) (vbin .eql a (.int .i64 29) fun a => vcond a (vbin .geq b c fun a => ag PP ck [a] d fun a b => K (.tup [a, zI]) b) (K (.tup [zJ, (.int .i64 1)]) d))))))
theorem tq (a0 : D) (a1 : D) (a2 : D) (h0 : Heap) (K : HK) : ny a0 a1 a2 h0 K = eD nT K [a0, a1, a2] h0 := by kernel_rfl
end Go.Am
namespace Go.Am
open Go Go.Proofs
def Ce : TL
 | 1000014 => some ([], []) | 1000010 => some ([1], []) | _ => none
def Fa : TT
 | _ => none
noncomputable abbrev Bo := cFn PP true qK Ce (cDr PP 28 Fa)
noncomputable def BA : aI := ⟨28, aS Bo, [.t 4, .t 5]⟩
theorem EV : Bo = some BA := by kernel_rfl
def Bb (a : D) (b : D) (c : Heap) (K : HK) : Prop :=
 ∃(d : HJ), ( ∀(a : Nat -> D) (b : Heap), d [] b -> K (.tup [zJ, (.int .i64 1)]) b) /\ ∃(e : HJ), ( ∀(a : Nat -> D) (c : Heap), e [] c -> vun .neg b fun a => K (.tup [a, zI]) c) /\ vbin .eql a (.int .i64 3) fun f => vcond f (vbin .geq b zJ fun a => vcond a (K (.tup [b, zI]) c) (aE [b] [b] /\ e [] c)) (vbin .eql a (.int .i64 1) fun f => vcond f (aE [b] [b] /\ e [] c) (vbin .eql a (.int .i64 2) fun e => vcond e (vun .xor b fun a => K (.tup [a, zI]) c) (vbin .eql a (.int .i64 4) fun e => vcond e (vbin .shl b (.int .u64 16) fun a => K (.tup [a, zI]) c) (vbin .eql a (.int .i64 5) fun a => vcond a (vbin .shr b (.int .u64 16) fun a => K (.tup [a, zI]) c) (aE [] [] /\ d [] c)))))
theorem EE (a0 : D) (a1 : D) (h0 : Heap) (K : HK) : Bb a0 a1 h0 K = eD BA K [a0, a1] h0 := by kernel_rfl
def Cm : TL
 | 1000023 => some ([], [13]) | _ => none
def Fj : TT
 | _ => none
noncomputable abbrev Bw := cFn PP true qN Cm (cDr PP 63 Fj)
noncomputable def BI : aI := ⟨63, aS Bw, [.t 8, .t 9]⟩
theorem E5 : Bw = some BI := by kernel_rfl
def Bj (a : D) (b : D) (c : D) (d : D) (e : Heap) (K : HK) : Prop :=
 ab PP (.box (.c a)) e fun a e => ab PP (.box (.c b)) e fun b e => xF b 0 e fun b e => xL b 1 false e fun b e => xF a 0 e fun e f => xL e 1 false f fun e f => vbin .mul b e fun b => vbin .lss c zI fun e => vguard e false (fun a => a c f) f fun f g => vguard e false (fun a => a b g) g fun g h => vguard e false (fun a => vbin .geq f g fun b => a b h) h fun f g => ab PP (.pick (.c e) (.c (.bool true)) (.c f)) g fun e f => vcond e (K (.tup [zJ, (.int .i64 1)]) f) (xL a 8 true f fun e f => ag PP qM [e, c] f fun e f => ab PP (.ext (.c e) 0) f fun f g => ab PP (.ext (.c e) 1) g fun e g => ∃(h : HJ), ( ∀(a : Nat -> D) (b : Heap), h [a 13] b -> ab PP (.conv .i32 (.c (a 13))) b fun a b => K (.tup [a, zI]) b) /\ vbin .eql d (.int .i64 1) fun i => vcond i (aE [] [] /\ h [c] g) (vbin .eql d (.int .i64 2) fun c => vcond c (aE [] [] /\ h [e] g) (vbin .eql d (.int .i64 3) fun c => vcond c (aE [] [] /\ h [f] g) (vbin .eql d (.int .i64 4) fun c => vcond c (aE [] [] /\ h [b] g) (vbin .eql d (.int .i64 5) fun b => vcond b (xF a 0 g fun a b => xL a 1 false b fun a b => aE [] [] /\ h [a] b) (vbin .eql d (.int .i64 6) fun b => vcond b (xF a 1 g fun a b => xL a 1 false b fun a b => vbin .rem e a fun a => aE [] [] /\ h [a] b) (vbin .eql d (.int .i64 7) fun b => vcond b (xF a 1 g fun a b => xL a 1 false b fun a b => vbin .quo e a fun a => aE [] [] /\ h [a] b) (K (.tup [zJ, (.int .i64 1)]) g))))))))
theorem EN (a0 : D) (a1 : D) (a2 : D) (a3 : D) (h0 : Heap) (K : HK) : Bj a0 a1 a2 a3 h0 K = eD BI K [a0, a1, a2, a3] h0 := by kernel_rfl
def Ed : TL
 | _ => none
def F9 : TT
 | 1 => some ([0, 0, 2, 7, 0, 0, 32, 112, 15, 511], [], []) | _ => none
noncomputable abbrev ET := cFn PP true vz Ed (cDr PP 14 F9)
noncomputable def EZ : aI := ⟨14, aS ET, [.t 4, .t 5]⟩
theorem Fy : ET = some EZ := by kernel_rfl
def EI (a : D) (b : D) (c : Heap) (K : HK) : Prop :=
 ab PP (.box (.c a)) c fun a c => yF a 0 c fun d => yL d 1 false c fun d => vbin .quo b d fun d => yF a 0 c fun a => yL a 1 false c fun a => vbin .rem b a fun a => K (.tup [d, a]) c
theorem Fw (a0 : D) (a1 : D) (h0 : Heap) (K : HK) : EI a0 a1 h0 K = eD EZ K [a0, a1] h0 := by kernel_rfl
def vC : TL
 | _ => none
def zh : TT
 | _ => none
noncomputable abbrev rV := cFn PP true ck vC (cDr PP 4 zh)
noncomputable def ss : aI := ⟨4, aS rV, [.t 2]⟩
theorem yy : rV = some ss := by kernel_rfl
def rD (a : D) (b : Heap) (K : HK) : Prop :=
 vcond a (K (.int .i32 1) b) (K (.int .i32 0) b)
theorem xw (a0 : D) (h0 : Heap) (K : HK) : rD a0 h0 K = eD ss K [a0] h0 := by kernel_rfl
def Cl : TL
 | _ => none
def Fi : TT
 | 1 => some ([0, 0, 2, 7, 0, 0, 32, 112, 15, 511], [], []) | _ => none
noncomputable abbrev Bv := cFn PP true qM Cl (cDr PP 14 Fi)
noncomputable def BH : aI := ⟨14, aS Bv, [.t 4, .t 5]⟩
theorem E3 : Bv = some BH := by kernel_rfl
def Bi (a : D) (b : D) (c : Heap) (K : HK) : Prop :=
 ab PP (.box (.c a)) c fun a c => yF a 0 c fun d => yL d 1 false c fun d => vbin .quo b d fun d => yF a 0 c fun a => yL a 1 false c fun a => vbin .rem b a fun a => K (.tup [d, a]) c
theorem EM (a0 : D) (a1 : D) (h0 : Heap) (K : HK) : Bi a0 a1 h0 K = eD BH K [a0, a1] h0 := by kernel_rfl
end Go.Am
namespace Go.Am
open Go Go.Proofs
def lN (a : D) (b : Heap) (K : HK) : Prop :=
 xF a 0 b fun b c => xF b 2 c fun b c => xF b 6 c fun b c => xL b 1 false c fun b c => cq b c fun b => vbin .mul (.int .i64 2) b fun b => vbin .add (.int .i64 6) b fun b => ag PP ak [a] c fun c d => vbin .rem c (.int .i64 3) fun c => vbin .add (.int .i64 1) c fun c => vbin .add b (.int .i64 2) fun e => xF a 0 d fun d f => xF d 2 f fun d f => xF d 2 f fun d f => xS d e 1 f fun d e => xF a 0 e fun d e => xF d 2 e fun d e => xF d 7 e fun d e => xL d 1 false e fun d e => cq d e fun d => ag PP dj [b] e fun e f => ag PP eF [zJ] f fun f g => ab PP (.bld [zI, zI, zI, zI, zI, zJ, zI, zI, zJ, zI, zI, zJ, zI, zI, zJ] [(0, 1, (.c (.int .i64 1))), (3, 3, (.c e)), (6, 3, (.c f))]) g fun e f => ag PP aK [a, e] f fun e f => xF a 0 f fun e f => xF e 2 f fun e f => xF e 7 f fun e f => xL e 1 false f fun e f => vbin .sub d (.int .i64 1) fun g => ab PP (.bld [zI, zI] [(0, 1, (.c d)), (1, 1, (.c zI))]) f fun f h => ab PP (.bld [zI, zI, zI, zI, zJ, zI, zI, zJ, zI, zI, zJ, zI, zI] [(0, 1, (.c (.int .i64 1))), (11, 2, (.c f))]) h fun f h => xI e g 14 h fun e g => xF e 1 g fun e g => xS e f 13 g fun e f => ∃(e : HJ), ( ∀(a : Nat -> D) (b : Heap), e [a 0, a 2, a 3, a 4] b -> ag PP bg [(a 0)] b fun b c => vbin .add (a 2) (.int .i64 1) fun b => ag PP dj [b] c fun b c => ag PP dj [(a 2)] c fun c d => ab PP (.conv .i32 (.c (a 3))) d fun d e => ag PP eF [d] e fun d e => ab PP (.bld [zI, zI, zI, zI, zI, zJ, zI, zI, zJ, zI, zI, zJ, zI, zI, zJ] [(0, 1, (.c (.int .i64 3))), (1, 1, (.c (.int .i64 26))), (3, 3, (.c b)), (6, 3, (.c c)), (9, 3, (.c d))]) e fun b c => ag PP aK [(a 0), b] c fun b c => yF (a 0) 0 c fun b => yF b 2 c fun b => yF b 7 c fun b => yL b 1 false c fun b => vbin .add (a 2) (.int .i64 1) fun d => an PP (.call dj [(.c d)]) c fun d => vbin .add (a 4) (.int .i64 1) fun e => vbin .add (a 4) (.int .i64 2) fun f => an PP (.bld [zI, zI] [(0, 1, (.c e)), (1, 1, (.c f))]) c fun e => an PP (.bld [zI, zI, zI, zI, zJ, zI, zI, zJ, zI, zI, zJ, zI, zI] [(0, 1, (.c (.int .i64 2))), (5, 3, (.c d)), (11, 2, (.c e))]) c fun d => yI b (a 4) 14 c fun b => yF b 1 c fun b => xS b d 13 c fun b c => ag PP bg [(a 0)] c fun b c => ag PP dj [(a 2)] c fun b c => ag PP dj [(a 2)] c fun c d => ag PP eF [(.int .i32 1)] d fun d e => ab PP (.bld [zI, zI, zI, zI, zI, zJ, zI, zI, zJ, zI, zI, zJ, zI, zI, zJ] [(0, 1, (.c (.int .i64 3))), (1, 1, (.c (.int .i64 10))), (3, 3, (.c b)), (6, 3, (.c c)), (9, 3, (.c d))]) e fun b c => ag PP aK [(a 0), b] c fun b c => ag PP cn [(a 0)] c fun b c => xF (a 0) 0 c fun b c => xF b 2 c fun b c => xF b 7 c fun b c => xL b 1 false c fun b c => vbin .add (a 4) (.int .i64 1) fun d => ab PP (.bld [zI, zI] [(0, 1, (.c (a 4))), (1, 1, (.c zI))]) c fun c e => ab PP (.bld [zI, zI, zI, zI, zJ, zI, zI, zJ, zI, zI, zJ, zI, zI] [(0, 1, (.c (.int .i64 1))), (11, 2, (.c c))]) e fun c e => xI b d 14 e fun b d => xF b 1 d fun b d => xS b c 13 d fun b c => ∃(b : HJ), ( ∀(a : Nat -> D) (c : Heap), b [a 0, a 4, a 119] c -> vcond (a 119) (yF (a 0) 0 c fun b => yF b 2 c fun d => yF d 7 c fun e => yL e 1 false c fun f => vbin .add (a 4) (.int .i64 1) fun g => vbin .add (a 4) (.int .i64 2) fun h => an PP (.bld [zI, zI] [(0, 1, (.c (a 4))), (1, 1, (.c h))]) c fun h => ag PP bb [(a 0)] c fun c i => ((yF (a 0) 0 i fun a => aE [a] [b]) /\ (yF b 2 i fun a => aE [a] [d]) /\ (yF d 7 i fun a => aE [a] [e]) /\ (yL e 1 false i fun a => aE [a] [f]) /\ True) /\ an PP (.bld [zI, zI, zI, zI, zJ, zI, zI, zJ, zI, zI, zJ, zI, zI] [(0, 1, (.c (.int .i64 2))), (5, 3, (.c c)), (11, 2, (.c h))]) i fun a => yI f g 14 i fun b => yF b 1 i fun b => xS b a 13 i fun a b => K (.tup []) b) (K (.tup []) c)) /\ ag PP ak [(a 0)] c fun c d => vbin .rem c (.int .i64 3) fun c => vbin .eql c zI fun c => aE [] [] /\ b [(a 0), (a 4), c] d) /\ xF a 0 f fun f g => xF f 2 g fun f g => xF f 6 g fun f g => xL f 1 false g fun f g => ab PP (.bld [zI, zI, zI] [(0, 1, (.c d)), (1, 1, (.c b)), (2, 1, (.c c))]) g fun g h => ab PP (.bldS true 3 1 (.agg [zI, zI, zI]) [(0, (.c g))]) h fun g h => ab PP (.app (.c f) (.c g) 3 24 (.agg [zI, zI, zI])) h fun f g => xF a 0 g fun g h => xF g 2 h fun g h => xF g 6 h fun g h => xS g f 1 h fun f g => aE [] [] /\ e [a, b, c, d] g
set_option maxHeartbeats 0 in
theorem qg (a0 : D) (h0 : Heap) (K : HK) : lN a0 h0 K = eD lX K [a0] h0 := by kernel_rfl
end Go.Am
namespace Go.Am
open Go Go.Proofs
def rR (a : D) (b : D) (c : Heap) (K : HK) : Prop :=
 ab PP (.box (.c a)) c fun a c => ab PP (.box (.c b)) c fun b c => ab PP (.alloc (.agg [zI, zI, zI, zI, zI, .nil, .nil, .nil, zI, .nil, zI, zI, zI, zI, .nil, .nil, .nil, .nil, .nil, .nil, zI])) c fun c d => xL a 1 true d fun a d => ag PP ou [a] d fun a d => ab PP (.bld [zI, zI, zI, zI, zI, .nil, .nil, .nil, zI, .nil, zI, zI, zI, zI, .nil, .nil, .nil, .nil, .nil, .nil, zI] [(0, 8, (.c a))]) d fun a d => ab PP (.alloc (.agg [zI, zI, zI, zI, zI, .nil, .nil, .nil, zI, .nil, zI, zI, zI, zI, .nil, .nil, .nil, .nil, .nil, .nil, zI])) d fun d e => xS d a 21 e fun a e => ∃(a : HJ), ( ∀(e : Nat -> D) (f : Heap), a [] f -> xF d 0 f fun a e => xL a 8 true e fun a e => xF b 0 e fun e f => xL e 13 true f fun e f => ag PP lB [a, e] f fun a e => xF d 8 e fun e f => xS e a 2 f fun a e => xF b 13 e fun a e => xL a 1 false e fun a e => ab PP (.conv .i64 (.c a)) e fun a e => xF d 8 e fun e f => xF e 0 f fun e f => xL e 1 false f fun e f => xF d 0 f fun f g => xF f 0 g fun f g => xL f 1 false g fun f g => vbin .mul e f fun e => vbin .rem a e fun a => yF d 0 g fun e => yL e 8 true g fun e => yF d 8 g fun f => yL f 2 true g fun f => yF b 14 g fun h => yL h 1 false g fun h => vbin .rem h (.int .u8 13) fun h => an PP (.conv .i64 (.c h)) g fun h => yF d 0 g fun i => yL i 8 true g fun i => yF b 0 g fun b => yL b 13 true g fun b => an PP (.call lA [(.c i), (.c b)]) g fun b => an PP (.call mQ [(.c e), (.c f), (.c a), (.c h), (.c b)]) g fun a => yF d 10 g fun b => xS b a 11 g fun a b => xL d 21 true b fun a b => xS c a 21 b fun a b => xL c 21 true b fun a c => K a b) /\ xF b 13 e fun e f => xL e 1 false f fun e f => vbin .geq e (.int .u8 128) fun e => vcond e (xF d 0 f fun e f => xL e 8 true f fun e f => ag PP lz [e] f fun e f => xF d 0 f fun f g => xS f e 8 g fun e f => aE [b, c, d] [b, c, d] /\ a [] f) (aE [b, c, d] [b, c, d] /\ a [] f)
set_option maxHeartbeats 0 in
theorem xW (a0 : D) (a1 : D) (h0 : Heap) (K : HK) : rR a0 a1 h0 K = eD sJ K [a0, a1] h0 := by kernel_rfl
end Go.Am
namespace Go.Am
open Go Go.Proofs
def eR (a : Heap) (b : D) (c : D) (d : D) (e : HJ) (K : HK) : Prop :=
 ∃(f : Nat -> HJ) (g : Nat), f g [zI] a /\ ∀(a : Nat) (g : Nat -> D) (h : Heap), f a [g 15] h -> xF b 10 h fun h i => xF h 0 i fun h i => xF h 4 i fun h i => xL h 1 false i fun h i => cq h i fun h => vbin .lss (g 15) h fun h => vcond h (yF b 10 i fun e => yF e 0 i fun h => yL h 7 true i fun j => yF b 10 i fun k => yF k 0 i fun l => yF l 4 i fun m => yL m 1 false i fun n => yI n (g 15) 1 i fun o => yL o 1 false i fun p => ag PP jF [(g 15)] i fun i q => ((yF b 10 q fun a => aE [a] [e]) /\ (yF e 0 q fun a => aE [a] [h]) /\ (yL h 7 true q fun a => aE [a] [j]) /\ (yF b 10 q fun a => aE [a] [k]) /\ (yF k 0 q fun a => aE [a] [l]) /\ (yF l 4 q fun a => aE [a] [m]) /\ (yL m 1 false q fun a => aE [a] [n]) /\ (yI n (g 15) 1 q fun a => aE [a] [o]) /\ (yL o 1 false q fun a => aE [a] [p]) /\ True) /\ ag PP bX [j, i] q fun e h => ((yF b 10 h fun a => aE [a] [k]) /\ (yF k 0 h fun a => aE [a] [l]) /\ (yF l 4 h fun a => aE [a] [m]) /\ (yL m 1 false h fun a => aE [a] [n]) /\ (yI n (g 15) 1 h fun a => aE [a] [o]) /\ (yL o 1 false h fun a => aE [a] [p]) /\ True) /\ vbin .neq e p fun e => vcond e (K (.bool false) h) (vbin .add (g 15) (.int .i64 1) fun e => aE [c, d, b] [c, d, b] /\ ∃b, b < a /\ f b [e] h)) (aE [c, d, b] [c, d, b] /\ e [] i)
def fR (a : D) (b : D) (c : D) (d : Heap) (K : HK) : Prop :=
 ab PP (.box (.c a)) d fun a d => ab PP (.box (.c b)) d fun b d => ab PP (.box (.c c)) d fun c d => ag PP jo [] d fun d e => vun .not d fun f => vcond f (K (.bool false) e) (xL a 1 true e fun a e => xL b 15 true e fun b e => ag PP lD [a, b] e fun a b => ab PP (.alloc (.agg [zI, zI, zI, zI, zI, .nil, .nil, .nil, zI, .nil, zI, zI, zI, zI, .nil, .nil, .nil, .nil, .nil, .nil, zI])) b fun b e => xS b a 21 e fun a e => yF b 0 e fun a => yL a 8 true e fun a => yF b 8 e fun f => yL f 2 true e fun f => yF b 10 e fun g => yL g 11 true e fun g => an PP (.iadda (.c c) (.c zI) 2 1) e fun h => yL h 1 false e fun h => an PP (.call fA [(.c a), (.c f), (.c g), (.c h)]) e fun a => yF b 0 e fun f => yL f 8 true e fun f => yF b 8 e fun g => yL g 2 true e fun g => yF b 10 e fun h => yF h 0 e fun h => yL h 7 true e fun h => yF b 10 e fun i => yF i 7 e fun i => yL i 1 false e fun i => yF b 10 e fun j => yF j 8 e fun j => yL j 1 false e fun j => an PP (.bld [.nil, .nil] [(0, 1, (.c i)), (1, 1, (.c j))]) e fun i => an PP (.iadda (.c c) (.c zI) 2 1) e fun j => yL j 1 false e fun j => an PP (.call iF [(.c f), (.c g), (.c h), (.c i), (.c j)]) e fun f => ab PP (.alloc (.agg [zI, zI, zI, zI, .nil, .nil, .nil, .nil, .nil, .nil, zI])) e fun e g => ab PP (.alloc (.agg [zI, zI, zI, zI, .nil, .nil, .nil, .nil, .nil, .nil, zI])) g fun g h => xS e a 11 h fun a h => xS g f 11 h fun a f => yF b 0 f fun a => yL a 8 true f fun a => yF b 10 f fun h => yF h 0 f fun h => yL h 7 true f fun h => an PP (.iadda (.c c) (.c (.int .i64 1)) 2 1) f fun i => yL i 1 false f fun i => an PP (.conv .i32 (.c i)) f fun i => an PP (.call iJ [(.c a), (.c h), (.c i)]) f fun a => yF b 0 f fun h => yL h 8 true f fun h => yF b 10 f fun i => yF i 0 f fun i => yL i 7 true f fun i => an PP (.iadda (.c c) (.c (.int .i64 1)) 2 1) f fun j => yL j 1 false f fun j => an PP (.conv .i32 (.c j)) f fun j => an PP (.call iH [(.c h), (.c i), (.c j)]) f fun h => ab PP (.alloc (.agg [zI, zI, zI, zI, .nil, .nil, .nil, zI])) f fun f i => ab PP (.alloc (.agg [zI, zI, zI, zI, .nil, .nil, .nil, zI])) i fun i j => xS f a 8 j fun a j => xS i h 8 j fun a h => yF b 0 h fun a => yL a 8 true h fun a => yF b 8 h fun j => yL j 2 true h fun j => an PP (.iadda (.c c) (.c (.int .i64 1)) 2 1) h fun k => yL k 1 false h fun k => an PP (.call eH [(.c a), (.c j), (.c k)]) h fun a => yF b 0 h fun j => yL j 8 true h fun j => yF b 8 h fun k => yL k 2 true h fun k => an PP (.iadda (.c c) (.c (.int .i64 1)) 2 1) h fun l => yL l 1 false h fun l => an PP (.call hO [(.c j), (.c k), (.c l)]) h fun j => ab PP (.alloc (.agg [zI, zI, zI, zI, .nil, .nil, .nil, zI])) h fun h k => ab PP (.alloc (.agg [zI, zI, zI, zI, .nil, .nil, .nil, zI])) k fun k l => xS h a 8 l fun a l => xS k j 8 l fun a j => xL e 11 true j fun a e => xL g 11 true e fun e g => ag PP jm [a, e] g fun a e => vun .not a fun a => vguard a false (fun a => xF f 7 e fun b c => a b c) e fun e g => vguard a false (fun a => xL e 1 false g fun b c => a b c) g fun e g => vguard a false (fun a => xF i 7 g fun b c => a b c) g fun g j => vguard a false (fun a => xL g 1 false j fun b c => a b c) j fun g j => vguard a false (fun a => vbin .neq e g fun b => a b j) j fun e g => ab PP (.pick (.c a) (.c (.bool true)) (.c e)) g fun a e => vguard a false (fun a => xF f 0 e fun b c => a b c) e fun e f => vguard a false (fun a => xL e 7 true f fun b c => a b c) f fun e f => vguard a false (fun a => xF i 0 f fun b c => a b c) f fun f g => vguard a false (fun a => xL f 7 true g fun b c => a b c) g fun f g => vguard a false (fun a => ag PP iG [e, f] g fun b c => a b c) g fun e f => vguard a false (fun a => vun .not e fun b => a b f) f fun e f => ab PP (.pick (.c a) (.c (.bool true)) (.c e)) f fun a e => vguard a false (fun a => xF h 7 e fun b c => a b c) e fun e f => vguard a false (fun a => xL e 1 false f fun b c => a b c) f fun e f => vguard a false (fun a => xF k 7 f fun b c => a b c) f fun f g => vguard a false (fun a => xL f 1 false g fun b c => a b c) g fun f g => vguard a false (fun a => vbin .neq e f fun b => a b g) g fun e f => ab PP (.pick (.c a) (.c (.bool true)) (.c e)) f fun a e => vguard a false (fun a => xF h 0 e fun b c => a b c) e fun e f => vguard a false (fun a => xL e 7 true f fun b c => a b c) f fun e f => vguard a false (fun a => xF k 0 f fun b c => a b c) f fun f g => vguard a false (fun a => xL f 7 true g fun b c => a b c) g fun f g => vguard a false (fun a => ag PP iG [e, f] g fun b c => a b c) g fun e f => vguard a false (fun a => vun .not e fun b => a b f) f fun e f => ab PP (.pick (.c a) (.c (.bool true)) (.c e)) f fun a e => vcond a (K (.bool false) e) ( ∃(a : HJ), ( ∀(e : Nat -> D) (f : Heap), a [] f -> yF b 10 f fun a => yF a 0 f fun e => yL e 7 true f fun g => an PP (.iadda (.c c) (.c zI) 2 1) f fun h => yL h 1 false f fun h => an PP (.conv .i32 (.c h)) f fun h => an PP (.iadda (.c c) (.c zI) 2 1) f fun i => yL i 1 false f fun j => an PP (.conv .i32 (.c j)) f fun k => ag PP jG [h] f fun f h => ((yF b 10 h fun b => aE [b] [a]) /\ (yF a 0 h fun a => aE [a] [e]) /\ (yL e 7 true h fun a => aE [a] [g]) /\ (an PP (.iadda (.c c) (.c zI) 2 1) h fun a => aE [a] [i]) /\ (yL i 1 false h fun a => aE [a] [j]) /\ True) /\ ag PP bX [g, f] h fun a b => ((an PP (.iadda (.c c) (.c zI) 2 1) b fun a => aE [a] [i]) /\ (yL i 1 false b fun a => aE [a] [j]) /\ True) /\ vbin .eql a k fun a => aO a true (fun a => a d) fun c => an PP (.pick (.c a) (.c c) (.c (.bool false))) b fun a => K a b) /\ eR e b c d a K))
set_option maxHeartbeats 0 in
theorem jb (a0 : D) (a1 : D) (a2 : D) (h0 : Heap) (K : HK) : fR a0 a1 a2 h0 K = eD fV K [a0, a1, a2] h0 := by kernel_rfl
end Go.Am

namespace Go.Am
open Go Go.Proofs
def Ck : TL
 | _ => none
def Fh : TT
 | 10 => some ([0, 1, 0, 4, 15, 31, 63, 127, 63, 319, 1023, 2047, 4095, 8191, 8191, 8191, 40959, 131071, 262143, 524287, 1048575, 2097151, 1048575, 8388607, 16777215, 33554431, 67108863, 134217727, 134217727, 402653183, 1073741823, 2147483647, 4294967295, 8589934591, 17179869183], [], []) | _ => none
noncomputable abbrev Bu := cFn PP true jo Ck (cDr PP 118 Fh)
noncomputable def BG : aI := ⟨118, aS Bu, [.t 0]⟩
theorem E2 : Bu = some BG := by kernel_rfl
def Bh (a : Heap) (K : HK) : Prop :=
 ag PP hU [(.int .i64 4)] a fun a b => ag PP hU [(.int .i64 2)] b fun b c => ab PP (.bld [zI, .nil] [(0, 1, (.c (.int .i64 1)))]) c fun c d => ab PP (.alloc (.agg [zI, zI, zI, zI, zI, .nil, .nil, .nil])) d fun d e => ab PP (.alloc (.agg [zI, zI, zI, zI, zI, .nil, .nil, .nil])) e fun e f => ab PP (.alloc (.agg [zI, .nil])) f fun f g => xS d a 8 g fun a g => xS e b 8 g fun a b => xS f c 2 b fun a b => xL d 8 true b fun a b => xL f 2 true b fun b c => ag PP eH [a, b, (.int .i64 2)] c fun a b => ab PP (.alloc (.agg [zI, zI, zI, zI, .nil, .nil, .nil, zI])) b fun b c => xS b a 8 c fun a c => xL d 8 true c fun a c => xL f 2 true c fun c g => ag PP eH [a, c, (.int .i64 4)] g fun a c => ab PP (.alloc (.agg [zI, zI, zI, zI, .nil, .nil, .nil, zI])) c fun c g => xS c a 8 g fun a g => xF b 7 g fun a g => xL a 1 false g fun a g => vbin .neq a zI fun a => vguard a false (fun a => xF c 7 g fun b c => a b c) g fun c g => vguard a false (fun a => xL c 1 false g fun b c => a b c) g fun c g => vguard a false (fun a => vbin .neq c (.int .i64 1) fun b => a b g) g fun c g => ab PP (.pick (.c a) (.c (.bool true)) (.c c)) g fun a c => vguard a false (fun a => xF b 0 c fun b c => a b c) c fun c g => vguard a false (fun a => xF c 1 g fun b c => a b c) g fun c g => vguard a false (fun a => xL c 1 false g fun b c => a b c) g fun c g => vguard a false (fun a => vbin .neq c (.int .i64 1) fun b => a b g) g fun c g => ab PP (.pick (.c a) (.c (.bool true)) (.c c)) g fun a c => vguard a false (fun a => xF b 0 c fun b c => a b c) c fun c g => vguard a false (fun a => xF c 4 g fun b c => a b c) g fun c g => vguard a false (fun a => xL c 1 false g fun b c => a b c) g fun c g => vguard a false (fun a => cq c g fun b => a b g) g fun c g => vguard a false (fun a => vbin .neq c (.int .i64 1) fun b => a b g) g fun c g => ab PP (.pick (.c a) (.c (.bool true)) (.c c)) g fun a c => vcond a (K (.bool false) c) (xL d 8 true c fun a c => xL f 2 true c fun c g => xF b 0 g fun g h => xL g 7 true h fun g h => ab PP (.bldS true 1 4 zJ [(0, (.c zJ)), (1, (.c zJ)), (2, (.c zJ)), (3, (.c zJ))]) h fun h i => ab PP (.bldS true 1 1 .nil [(0, (.c h))]) i fun h i => ab PP (.bldS true 1 1 .nil [(0, (.c .nil))]) i fun i j => ab PP (.bld [zI, zI, zI, zI, .nil, .nil, .nil, .nil, .nil, .nil, zI] [(0, 7, (.c g)), (7, 1, (.c h)), (8, 1, (.c i))]) j fun g h => ag PP fA [a, c, g, zI] h fun a c => ab PP (.alloc (.agg [zI, zI, zI, zI, .nil, .nil, .nil, .nil, .nil, .nil, zI])) c fun c g => xS c a 11 g fun a g => xL e 8 true g fun a e => xL f 2 true e fun e g => xF b 0 g fun g h => xL g 7 true h fun g h => ab PP (.bldS true 1 2 zJ [(0, (.c zJ)), (1, (.c zJ))]) h fun h i => ab PP (.bldS true 1 1 .nil [(0, (.c h))]) i fun h i => ab PP (.bldS true 1 1 .nil [(0, (.c .nil))]) i fun i j => ab PP (.bld [zI, zI, zI, zI, .nil, .nil, .nil, .nil, .nil, .nil, zI] [(0, 7, (.c g)), (7, 1, (.c h)), (8, 1, (.c i))]) j fun g h => ag PP fA [a, e, g, zI] h fun a e => ab PP (.alloc (.agg [zI, zI, zI, zI, .nil, .nil, .nil, .nil, .nil, .nil, zI])) e fun e g => xS e a 11 g fun a g => xF c 10 g fun a g => xL a 1 false g fun a g => vbin .neq a zI fun a => vguard a false (fun a => xF e 10 g fun b c => a b c) g fun g h => vguard a false (fun a => xL g 1 false h fun b c => a b c) h fun g h => vguard a false (fun a => vbin .neq g (.int .i64 70) fun b => a b h) h fun g h => ab PP (.pick (.c a) (.c (.bool true)) (.c g)) h fun a g => vguard a false (fun a => xF c 9 g fun b c => a b c) g fun g h => vguard a false (fun a => xL g 1 false h fun b c => a b c) h fun g h => vguard a false (fun a => ab PP (.bld [zI, zI, zI, zI, zI, zI, zI, zI, zJ] [(0, 1, (.c (.int .i64 2))), (2, 1, (.c (.int .i64 2))), (5, 1, (.c (.int .i64 1))), (7, 1, (.c (.int .i64 2))), (8, 1, (.c (.int .i32 7)))]) h fun b c => a b c) h fun h i => vguard a false (fun a => ab PP (.bldS true 9 1 (.agg [zI, zI, zI, zI, zI, zI, zI, zI, zJ]) [(0, (.c h))]) i fun b c => a b c) i fun h i => vguard a false (fun a => ag PP dC [g, h] i fun b c => a b c) i fun g h => vguard a false (fun a => vun .not g fun b => a b h) h fun g h => ab PP (.pick (.c a) (.c (.bool true)) (.c g)) h fun a g => vguard a false (fun a => xF e 9 g fun b c => a b c) g fun g h => vguard a false (fun a => xL g 1 false h fun b c => a b c) h fun g h => vguard a false (fun a => cq g h fun b => a b h) h fun g h => vguard a false (fun a => vbin .neq g zI fun b => a b h) h fun g h => ab PP (.pick (.c a) (.c (.bool true)) (.c g)) h fun a g => vguard a false (fun a => xF c 0 g fun b c => a b c) g fun g h => vguard a false (fun a => xF g 1 h fun b c => a b c) h fun g h => vguard a false (fun a => xL g 1 false h fun b c => a b c) h fun g h => vguard a false (fun a => vbin .neq g (.int .i64 3) fun b => a b h) h fun g h => ab PP (.pick (.c a) (.c (.bool true)) (.c g)) h fun a g => vcond a (K (.bool false) g) (yF c 7 g fun a => yL a 1 false g fun a => an PP (.bldS false 1 4 zJ [(0, (.c zJ)), (1, (.c zJ)), (2, (.c (.int .i32 7))), (3, (.c zJ))]) g fun h => an PP (.bldS false 1 1 .nil [(0, (.c h))]) g fun h => an PP (.call fy [(.c a), (.c h)]) g fun a => aO a true (fun a => yF e 7 g fun b => a b) fun e => aO a true (fun a => yL e 1 false g fun b => a b) fun e => aO a true (fun a => an PP (.bldS false 1 2 zJ [(0, (.c zJ)), (1, (.c zJ))]) g fun b => a b) fun h => aO a true (fun a => an PP (.bldS false 1 1 .nil [(0, (.c h))]) g fun b => a b) fun h => aO a true (fun a => an PP (.call fy [(.c e), (.c h)]) g fun b => a b) fun e => an PP (.pick (.c a) (.c e) (.c (.bool false))) g fun a => aO a true (fun a => yL d 8 true g fun b => a b) fun e => aO a true (fun a => yL f 2 true g fun b => a b) fun f => aO a true (fun a => yF c 0 g fun b => a b) fun c => aO a true (fun a => yL c 7 true g fun b => a b) fun c => aO a true (fun a => an PP (.call kV [(.c e), (.c f), (.c c)]) g fun b => a b) fun c => an PP (.pick (.c a) (.c c) (.c (.bool false))) g fun a => aO a true (fun a => yF b 0 g fun b => a b) fun c => aO a true (fun a => yL c 7 true g fun b => a b) fun c => aO a true (fun a => an PP (.call jG [(.c (.int .i32 9))]) g fun b => a b) fun e => aO a true (fun a => an PP (.call bX [(.c c), (.c e)]) g fun b => a b) fun c => aO a true (fun a => vbin .eql c (.int .i32 9) fun b => a b) fun c => an PP (.pick (.c a) (.c c) (.c (.bool false))) g fun a => aO a true (fun a => yL d 8 true g fun b => a b) fun c => aO a true (fun a => yF b 0 g fun b => a b) fun b => aO a true (fun a => yL b 7 true g fun b => a b) fun b => aO a true (fun a => an PP (.call iJ [(.c c), (.c b), (.c (.int .i32 1))]) g fun b => a b) fun b => aO a true (fun a => an PP (.fld (.c b) 7 1 false) g fun b => a b) fun b => aO a true (fun a => vbin .eql b (.int .i64 1) fun b => a b) fun b => an PP (.pick (.c a) (.c b) (.c (.bool false))) g fun a => K a g))
theorem EL (h0 : Heap) (K : HK) : Bh h0 K = eD BG K [] h0 := by kernel_rfl
end Go.Am
