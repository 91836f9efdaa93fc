/- The abstract machine: what the operations of the program do, on plain data. No condition. -/
import Derived.Calls
import Derived.Orders
import Derived.Laws.AppendOwn
import Derived.RowKit3
import Derived.OrdersIn
import Derived.RangeFuncRecord
import Derived.MapKept
import Derived.Laws.Cells
import Derived.Laws.Entries
import Derived.Laws.Tables
import Derived.Laws.StructEq
import Derived.Laws.CopyRow
import Derived.Laws.BytesString
import Derived.WideKeyRuns
import Derived.RangeFuncNested
set_option linter.unnecessarySimpa false
set_option linter.defProp false
set_option linter.unusedSectionVars false
set_option linter.unusedSimpArgs false
set_option linter.unusedVariables false
namespace Go.Am
open Go
def ak:=@List.mem_of_getElem?
def ar:=@List.getElem?_eq_some_iff
def aq:=@List.getElem?_eq_getElem
def aE:=@Int.toNat_natCast
def ba:=@List.getElem?_of_mem
def ah:=@List.cons.injEq
def aH:=@List.length_map
def aC:=@Bool.false_eq_true
inductive D where
 | undef
 | nil
 | nilfn
 | nilmap
 | int (k:IntKind) (n:Int)
 | bool (b:Bool)
 | str (s:ByteArray)
 | sl (xs:List D)
 | ms (n off len:Nat)
 | ptr (n i j:Nat)
 | vp (e:D) (j:Nat)
 | agg (cs:List D)
 | tup (ds:List D)
 | fn (f:FuncId) (a b:List D)
 | yld (n:Nat)
 | mp (n:Nat)
 | nilp
inductive Ex where
 | normal
 | exit (id:Nat)
 | ret
 | pan
 | jump (l:Nat)
structure dT where
 fn:FuncId
 nt:Nat
 env:Nat->D
 ps:List Nat
 assign:Code
 body:Code
inductive LSt where
 | ready
 | busy
 | done (x:Ex)
 | over (p:Option Code)
def LSt.st:LSt->LoopState
 | .ready=>.ready
 | .busy=>.busy
 | .done _=>.done
 | .over _=>.exhausted
def LSt.pend:LSt->Option Code
 | .done (.exit id)=>some (.exit id)
 | .done .ret=>some .ret
 | .over p=>p
 | _=>none
def D.cells:D->List D
 | .agg cs=>cs
 | d=>[d]
def D.one:D->Bool
 | .agg _=>false
 | .tup _=>false
 | .undef=>false
 | _=>true
def D.vone:D->Bool
 | .nil=>true
 | .nilfn=>true
 | .nilmap=>true
 | .nilp=>true
 | .int _ _=>true
 | .bool _=>true
 | .str _=>true
 | .sl _=>true
 | _=>false
theorem D.kz {d:D}(h:d.vone=true):d.one=true:=by cases d<;>simp_all [D.vone,D.one]
inductive KeyT where
 | int (k:IntKind)
 | pair (k:IntKind)
deriving DecidableEq
def KeyT.okB:KeyT->D->Bool
 | .int k,.int k' _=>decide (k=k')
 | .pair k,.agg [.int k1 _,.int k2 _]=>decide (k=k1)&&decide (k=k2)
 | _,_=>false
inductive Slot where
 | free
 | dead
 | box (v:D)
 | arr (esz:Nat) (els:List D)
 | frz (esz:Nat) (els:List D)
 | lp (st:LSt) (B:dT)
 | map (kt:KeyT) (ents:List (D×D))
def Slot.mine:Slot->Prop
 | .box _=>True
 | .arr _ _=>True
 | .lp _ _=>True
 | .map _ _=>True
 | _=>False
def Slot.used:Slot->Bool
 | .free=>false
 | _=>true
theorem Slot.P9 {s:Slot}(h:s≠.free):s.used=true:=by cases s<;>first|rfl|exact absurd rfl h
def Slot.row:Slot->Option (Nat×List D)
 | .arr e l=>some (e,l)
 | .frz e l=>some (e,l)
 | _=>none
abbrev Heap:=Nat → Slot
abbrev HKq:=D → Heap → Prop
abbrev HJq:=List D → Heap → Prop
abbrev TTq:=Nat → Option (List Nat×List Nat×List Nat)
abbrev TLq:=Nat → Option (List Nat×List Nat)
abbrev LSq:=List (Nat×Slot)
def aF {α:Type}(f:Nat->α) (n:Nat) (x:α):Nat->α:=λ m=>if m=n then x else f m
theorem av {α:Type}(f:Nat->α) (n:Nat) (x:α):aF f n x n=x:=by simp[aF]
theorem an {α:Type}(f:Nat->α){n m:Nat}(x:α) (h:m≠n):aF f n x m=f m:=by simp[aF,h]
structure XT where
 p:Nat->Prop
 lo:Nat
 dfs:List Deferred
instance:CoeFun XT (λ _=>Nat->Prop):=⟨XT.p⟩
structure Ctx where
 ρ:Nat->Option Nat
 X:XT
 h:Heap
 hp:Array Obj
def cellOf (hp:Array Obj) (b o:Nat):Option Value :=
 match hp[b]? with
 | some (.cells c _ _)=>c[o]?
 | _=>none
theorem pD (w:World) (b o:Nat):w.cell? ⟨b,o,none⟩=cellOf w.heap b o:=by
 grind [World.cell?,cellOf]
def Ctx.own (c:Ctx) (g:Nat):Prop:=c.X g\/∃n,(c.h n).mine/\c.ρ n=some g
def aT (xs:List D) (i j:Nat):Option D:=(xs[i]?).bind (λ e=>e.cells[j]?)
inductive aB (c:Ctx):D->Value->Prop where
 | undef (v:Value):aB c .undef v
 | nil:aB c .nil (.slice none 0 0)
 | nilfn:aB c .nilfn .nilFunc
 | nilmap:aB c .nilmap (.map none)
 | nilp:aB c .nilp (.pointer none)
 | int (k:IntKind) (n:Int):aB c (.int k n) (.int k n)
 | bool (b:Bool):aB c (.bool b) (.bool b)
 | str (s:ByteArray):aB c (.str s) (.string s)
 | iN (p:Option Addr) (cap:Nat) (hm:cap<=maxLen):aB c (.sl []) (.slice p 0 cap)
 | sl (xs:List D) (b o cap esz:Nat) (f:Nat->Nat->Value) (hne:xs≠[]) (hc:xs.length<=cap) (hm:cap<=maxLen) (he:0<esz)
   (hlen:∀e∈xs,e.cells.length=esz) (hone:∀i j (d:D),aT xs i j=some d->d.vone=true)
   (hcell:∀i j d,aT xs i j=some d->cellOf c.hp b (o+(i*esz+j))=some (f i j)) (hown:¬c.own b)
   (hrel:∀i j d,aT xs i j=some d->aB c d (f i j)):aB c (.sl xs) (.slice (some ⟨b,o,none⟩) xs.length cap)
 | msDead (n off len:Nat) (p:Option Addr) (l k:Nat) (h:c.h n=.dead):aB c (.ms n off len) (.slice p l k)
 | msNil (n esz:Nat) (els:List D) (h:(c.h n).row=some (esz,els)) (hρ:c.ρ n=none):aB c (.ms n 0 0) (.slice none 0 0)
 | ms (n off len g esz cap:Nat) (els:List D) (cur:Array Value) (ty:TypeId) (fr:Nat×Nat) (h:(c.h n).row=some (esz,els)) (hρ:c.ρ n=some g)
   (hl:off+len<=els.length) (hg:c.hp[g]?=some (Obj.cells cur ty fr)) (hs:(off+cap)*esz<=cur.size) (hc:len<=cap) (hm:cap<=maxLen) :
   aB c (.ms n off len) (.slice (some ⟨g,off*esz,none⟩) len cap)
 | msE (n off esz:Nat) (p:Option Addr) (els:List D) (h:(c.h n).row=some (esz,els)):aB c (.ms n off 0) (.slice p 0 0)
 | ptrDead (n i j b o:Nat) (h:c.h n=.dead):aB c (.ptr n i j) (.pointer (some ⟨b,o,none⟩))
 | ptrBox (n j g:Nat) (v:D) (h:c.h n=.box v) (hρ:c.ρ n=some g):aB c (.ptr n 0 j) (.pointer (some ⟨g,j,none⟩))
 | ptrRow (n i j g esz:Nat) (els:List D) (h:(c.h n).row=some (esz,els)) (hρ:c.ρ n=some g) (hi:i<els.length) :
   aB c (.ptr n i j) (.pointer (some ⟨g,i*esz+j,none⟩))
 | vp (e:D) (j b o:Nat) (f:Nat->Value) (hone:∀(k:Nat) (d:D),e.cells[k]?=some d->d.one=true)
   (hcell:∀(k:Nat) (d:D),e.cells[k]?=some d->cellOf c.hp b (o+k)=some (f k)) (hown:¬c.own b) (hb:b<c.hp.size)
   (hrel:∀(k:Nat) (d:D),e.cells[k]?=some d->aB c d (f k)):aB c (.vp e j) (.pointer (some ⟨b,o+j,none⟩))
 | agg (cs:List D) (vs:Array Value) (hsz:vs.size=cs.length) (hone:∀(i:Nat) (d:D),cs[i]?=some d->d.one=true)
   (hrel:∀(i:Nat) (d:D),cs[i]?=some d->aB c d (vs.getD i Go.undef)):aB c (.agg cs) (.agg vs)
 | tup (ds:List D) (vs:Array Value) (hsz:vs.size=ds.length)
   (hrel:∀(i:Nat) (d:D),ds[i]?=some d->aB c d (vs.getD i Go.undef)):aB c (.tup ds) (.tuple vs)
 | fn (f:FuncId) (a b:List D) (va vb:Array Value) (hsa:va.size=a.length) (hsb:vb.size=b.length)
   (hra:∀(i:Nat) (d:D),a[i]?=some d->aB c d (va.getD i Go.undef)) (hrb:∀(i:Nat) (d:D),b[i]?=some d->aB c d (vb.getD i Go.undef)) :
   aB c (.fn f a b) (.func (.func f) va vb)
 | yld (n g:Nat) (st:LSt) (B:dT) (h:c.h n=.lp st B) (hρ:c.ρ n=some g):aB c (.yld n) (.func (.yield g) #[] #[])
 | yldDead (n g:Nat) (h:c.h n=.dead):aB c (.yld n) (.func (.yield g) #[] #[])
 | mp (n g:Nat) (kt:KeyT) (ents:List (D×D)) (h:c.h n=.map kt ents) (hρ:c.ρ n=some g):aB c (.mp n) (.map (some g))
 | mpDead (n:Nat) (p:Option Nat) (h:c.h n=.dead):aB c (.mp n) (.map p)
inductive Trans:Slot->Slot->Prop where
 | free (s:Slot):Trans .free s
 | dead:Trans .dead .dead
 | boxBox (v v':D):Trans (.box v) (.box v')
 | boxDead (v:D):Trans (.box v) .dead
 | arrArr (e:Nat) (l l':List D) (h:l.length<=l'.length):Trans (.arr e l) (.arr e l')
 | arrFrz (e:Nat) (l l':List D) (h:l.length<=l'.length):Trans (.arr e l) (.frz e l')
 | arrDead (e:Nat) (l:List D):Trans (.arr e l) .dead
 | frzFrz (e:Nat) (l l':List D) (h:l.length<=l'.length):Trans (.frz e l) (.frz e l')
 | frzDead (e:Nat) (l:List D):Trans (.frz e l) .dead
 | lpLp (st st':LSt) (B:dT):Trans (.lp st B) (.lp st' B)
 | lpDead (st:LSt) (B:dT):Trans (.lp st B) .dead
 | mapMap (kt:KeyT) (l l':List (D×D)):Trans (.map kt l) (.map kt l')
 | mapDead (kt:KeyT) (l:List (D×D)):Trans (.map kt l) .dead
theorem Trans.refl (s:Slot):Trans s s:=by
 cases s<;>constructor<;>exact Nat.le_refl _
theorem Trans.trans {a b c:Slot}(h:Trans a b) (k:Trans b c):Trans a c:=by
 cases h<;>cases k<;>constructor<;>omega
structure Ctx.le (c c':Ctx):Prop where
 size:c.hp.size<=c'.hp.size
 X:c'.X=c.X
 keep:∀g,g<c.hp.size->(∀n,(c.h n).mine->c.ρ n≠some g)->c'.hp[g]?=c.hp[g]?
 shape:∀(g:Nat) (cur:Array Value) (ty:TypeId) (fr:Nat×Nat),c.hp[g]?=some (Obj.cells cur ty fr)->∃cur':Array Value,c'.hp[g]?=some (Obj.cells cur' ty fr)/\cur'.size=cur.size
 loop:∀(g:Nat) (r:Loop),c.hp[g]?=some (.loop r)->∃r':Loop,c'.hp[g]?=some (.loop r')/\r'.defers=r.defers
 names:∀n,c.h n≠.free->c'.ρ n=c.ρ n
 tr:∀n,Trans (c.h n) (c'.h n)
 born:∀n g,(c'.h n).mine->c'.ρ n=some g->g<c.hp.size->∃m,(c.h m).mine/\c.ρ m=some g
theorem Ctx.le.refl (c:Ctx):c.le c :=
 ⟨Nat.le_refl _,rfl,λ _ _ _=>rfl,λ _ cur _ _ h=>⟨cur,h,rfl⟩,λ _ r h=>⟨r,h,rfl⟩,λ _ _=>rfl,λ _=>Trans.refl _,λ n _ hm hr _=>⟨n,hm,hr⟩⟩
theorem Ctx.le.own {c c':Ctx}(h:c.le c') (g:Nat) (hg:g<c.hp.size) (ho:c'.own g):c.own g:=by
 rcases ho with hx|⟨n,hm,hr⟩
 ·exact Or.inl (h.X ▸ hx)
 ·exact Or.inr (h.born n g hm hr hg)
theorem Ctx.le.trans {a b c:Ctx}(h:a.le b) (k:b.le c):a.le c where
 size:=Nat.le_trans h.size k.size
 X:=k.X.trans h.X
 keep g hg hn:=by
  rw[k.keep g (Nat.lt_of_lt_of_le hg h.size) (λ n hm hr=>by
   obtain⟨m,H,G⟩:=h.born n g hm hr hg
   exact hn m H G),h.keep g hg hn]
 shape g cur ty fr hg:=by
  obtain⟨c1,h1,Z⟩:=h.shape g cur ty fr hg;obtain⟨c2,h2,V⟩:=k.shape g c1 ty fr h1;grind
 loop g r hg:=by
  obtain⟨I,h1,Z⟩:=h.loop g r hg;obtain⟨r2,h2,V⟩:=k.loop g I h1;grind
 names n hn:=by
  have ht:=h.tr n
  have hb:b.h n≠.free:=by
   intro Q;rw[Q]at ht;cases hx:a.h n<;>rw[hx]at ht hn<;>first|exact hn rfl|cases ht
  rw[k.names n hb,h.names n hn]
 tr n:=(h.tr n).trans (k.tr n)
 born n g hm hr hg:=by
  obtain⟨m,H,G⟩:=k.born n g hm hr (Nat.lt_of_lt_of_le hg h.size);exact h.born m g H G hg
theorem FB {hp:Array Obj}{b o:Nat}{v:Value}(h:cellOf hp b o=some v):b<hp.size:=by
 grind [cellOf]
theorem xp {hp hp':Array Obj}{b:Nat}(h:hp'[b]?=hp[b]?) (o:Nat):cellOf hp' b o=cellOf hp b o:=by
 simp[cellOf,h]
theorem Ctx.le.same {c c':Ctx}(h:c.le c'){g:Nat}(hg:g<c.hp.size) (hn:¬c.own g):c'.hp[g]?=c.hp[g]? :=
 h.keep g hg (λ n hm hr=>hn (Or.inr ⟨n,hm,hr⟩))
theorem Ctx.le.Jk {c c':Ctx}(h:c.le c'){g:Nat}(hg:g<c.hp.size) (hn:¬c.own g):¬c'.own g :=
 λ h'=>hn (h.own g hg h')
theorem Slot.oG {a b:Slot}(h:Trans a b){e:Nat}{l:List D}(hr:a.row=some (e,l)) :
  b=.dead\/∃l',b.row=some (e,l')/\l.length<=l'.length:=by
 cases h<;>simp[Slot.row]at hr ⊢
 all_goals grind
theorem Slot.fW {a:Slot}{x:Nat×List D}(h:a.row=some x):a≠.free:=by
 grind [Slot.row]
theorem aB.mono {c c':Ctx}(h:c.le c'){d:D}{v:Value}(hr:aB c d v):aB c' d v:=by
 induction hr with
 | undef v=>exact .undef v
 | nil=>exact .nil
 | nilfn=>exact .nilfn
 | nilmap=>exact .nilmap
 | nilp=>exact .nilp
 | int k n=>exact .int k n
 | bool b=>exact .bool b
 | str s=>exact .str s
 | iN p cap hm=>exact .iN p cap hm
 | sl xs b o cap esz f hne hc hm he hlen hone hcell hown _ Q =>
  have hb:b<c.hp.size:=by
   cases xs with
   | nil=>exact absurd rfl hne
   | cons e r =>
    have hl:=hlen e (by simp)
    cases a7:e.cells with
    | nil=>grind
    | cons d ds=>exact FB (hcell 0 0 d (by simp[aT,a7]))
  have V:=h.same hb hown;exact .sl xs b o cap esz f hne hc hm he hlen hone (λ i j d hd=>by grind [xp]) (h.Jk hb hown) Q
 | msDead n off len p l k hd =>
  refine .msDead n off len p l k ?_;have:=h.tr n;rw[hd]at this;cases hx:c'.h n<;>rw[hx]at this<;>first|rfl|cases this
 | msNil n esz els G hρ =>
  have H:=(h.names n (Slot.fW G)).trans hρ;rcases Slot.oG (h.tr n) G with hd|⟨l',I,_⟩
  ·exact .msDead _ _ _ _ _ _ hd
  ·exact .msNil n esz l' I H
 | ms n off len g esz cap els cur ty fr G hρ hl hg hs hc hm =>
  have H:=(h.names n (Slot.fW G)).trans hρ;obtain⟨cur',a6,hsz⟩:=h.shape g cur ty fr hg;rcases Slot.oG (h.tr n) G with hd|⟨l',I,hlen⟩
  ·exact .msDead _ _ _ _ _ _ hd
  ·exact .ms n off len g esz cap l' cur' ty fr I H (by omega) a6 (by omega) hc hm
 | msE n off esz p els G =>
  rcases Slot.oG (h.tr n) G with hd|⟨l',I,_⟩
  ·exact .msDead _ _ _ _ _ _ hd
  ·exact .msE n off esz p l' I
 | ptrDead n i j b o hd =>
  refine .ptrDead n i j b o ?_;have:=h.tr n;rw[hd]at this;cases hx:c'.h n<;>rw[hx]at this<;>first|rfl|cases this
 | ptrBox n j g v hb hρ =>
  have H:=(h.names n (by rw[hb];simp)).trans hρ;have ht:=h.tr n;rw[hb]at ht
  cases hx:c'.h n with
  | box v'=>exact .ptrBox n j g v' hx H
  | dead=>exact .ptrDead _ _ _ _ _ hx
  | _=>rw[hx]at ht;cases ht
 | ptrRow n i j g esz els G hρ hi =>
  have H:=(h.names n (Slot.fW G)).trans hρ;rcases Slot.oG (h.tr n) G with hd|⟨l',I,hlen⟩
  ·exact .ptrDead _ _ _ _ _ hd
  ·exact .ptrRow n i j g esz l' I H (by omega)
 | vp e j b o f hone hcell hown hb _ Q =>
  have V:=h.same hb hown;exact .vp e j b o f hone (λ k d hd=>by grind [xp]) (h.Jk hb hown) (Nat.lt_of_lt_of_le hb h.size) Q
 | agg cs vs hsz hone _ Q=>exact .agg cs vs hsz hone Q
 | tup ds vs hsz _ Q=>exact .tup ds vs hsz Q
 | fn f a b va vb hsa hsb _ _ a2 a1=>exact .fn f a b va vb hsa hsb a2 a1
 | yld n g st B hl hρ =>
  have H:=(h.names n (by rw[hl];simp)).trans hρ;have ht:=h.tr n;rw[hl]at ht
  cases hx:c'.h n with
  | lp st' B'=>exact .yld n g st' B' hx H
  | dead=>exact .yldDead _ _ hx
  | _=>rw[hx]at ht;cases ht
 | yldDead n g hd =>
  refine .yldDead n g ?_;have:=h.tr n;rw[hd]at this;cases hx:c'.h n<;>rw[hx]at this<;>first|rfl|cases this
 | mp n g kt ents hl hρ =>
  have H:=(h.names n (by rw[hl];simp)).trans hρ;have ht:=h.tr n;rw[hl]at ht
  cases hx:c'.h n with
  | map Z l'=>exact .mp n g Z l' hx H
  | dead=>exact .mpDead _ _ hx
  | _=>rw[hx]at ht;cases ht
 | mpDead n p hd =>
  refine .mpDead n p ?_;have:=h.tr n;rw[hd]at this;cases hx:c'.h n<;>rw[hx]at this<;>first|rfl|cases this
class ca where
 tab:Nat->Option (Array Value)
 panv:Value
variable [ca]
structure aay (c:Ctx) (g:Nat) (vs:Array Value):Prop where
 cell:∀(k:Nat) (v:Value),vs[k]?=some v->cellOf c.hp g k=some v
 own:¬c.own g
 lt:g<c.hp.size
def jO (c:Ctx):Prop:=∀g vs,ca.tab g=some vs->aay c g vs
theorem jO.mono {c c':Ctx}(h:c.le c') (k:jO c):jO c':=λ g o hg=>by
 obtain⟨h1,h2,h3⟩:=k g o hg;exact⟨λ i v hi=>(xp (h.same h3 h2) i).trans (h1 i v hi),h.Jk h3 h2,Nat.lt_of_lt_of_le h3 h.size⟩
def mW (els:List D):Prop:=∀i j (d:D),aT els i j=some d->d.one=true
def dk (c:Ctx) (n:Nat):Slot->Prop
 | .free=>True
 | .dead=>True
 | .box v=>∃(g:Nat) (cur:Array Value) (ty:TypeId),c.ρ n=some g/\c.hp[g]?=some (.cells cur ty (0,0))/\cur.size=v.cells.length /\
   ∀(i:Nat) (d:D),v.cells[i]?=some d->d.one=true/\aB c d (cur.getD i Go.undef)
 | .arr esz els=>0<esz/\(∀e∈els,e.cells.length=esz)/\mW els /\
   ((c.ρ n=none/\els=[])\/∃(g:Nat) (cur:Array Value) (ty:TypeId),c.ρ n=some g/\c.hp[g]?=some (.cells cur ty (0,0)) /\
    els.length*esz<=cur.size/\∀i j d,aT els i j=some d->aB c d (cur.getD (i*esz+j) Go.undef))
 | .frz esz els=>0<esz/\(∀e∈els,e.cells.length=esz)/\mW els /\
   ((c.ρ n=none/\els=[])\/∃(g:Nat) (cur:Array Value) (ty:TypeId) (fr:Nat×Nat),c.ρ n=some g/\c.hp[g]?=some (.cells cur ty fr) /\
    els.length*esz<=cur.size/\¬c.own g/\∀i j d,aT els i j=some d->aB c d (cur.getD (i*esz+j) Go.undef))
 | .lp st B=>∃(g:Nat) (tmps:Array Value) (dfs:Nat),c.ρ n=some g /\
   c.hp[g]?=some (.loop { state:=st.st,pending:=st.pend,fn:=B.fn,tmps:=tmps,params:=B.ps.toArray,assign:=B.assign,body:=B.body,defers:=dfs }) /\
   tmps.size=B.nt/\∀i,aB c (B.env i) (tmps.getD i Go.undef)
 | .map kt ents=>∃(g:Nat) (es:Array MapEntry) (clock:Nat),c.ρ n=some g/\c.hp[g]?=some (.map es clock)/\es.size=ents.length/\MapKept.Stamped es clock /\
   ∀(i:Nat) (p:D×D),ents[i]?=some p->kt.okB p.1=true/\p.2.one=true/\∃e:MapEntry,es[i]?=some e/\aB c p.1 e.key/\aB c p.2 e.val
structure aA (c:Ctx):Prop where
 slot:∀n,dk c n (c.h n)
 inj:∀n m g,(c.h n).mine->(c.h m).mine->c.ρ n=some g->c.ρ m=some g->n=m
 apart:∀n g,(c.h n).mine->c.ρ n=some g->¬c.X g
 xlt:∀g,c.X g->g<c.hp.size
 fin:∃N,∀n,N<=n->c.h n=.free
 glob:jO c
 lo:c.X.lo<=c.hp.size
structure WS (w w':World):Prop where
 os:w'.os=w.os
 tape:w'.tape=w.tape
 output:w'.output=w.output
theorem WS.refl (w:World):WS w w:=⟨rfl,rfl,rfl⟩
theorem WS.trans {a b c:World}(h:WS a b) (k:WS b c):WS a c:=⟨k.os.trans h.os,k.tape.trans h.tape,k.output.trans h.output⟩
abbrev Env:=Nat->D
def Mark (c:Ctx) (d:Deferred):Prop:=∃k,d={ target:=.collected k,args:= #[] }/\c.X.lo<=k/\c.hp[k]?=some (.deferred (some []))/\¬c.own k
structure Marks (c:Ctx) (ds:List Deferred):Prop where
 all:∀d∈ds,Mark c d
 nd:ds.Pairwise (· ≠ ·)
theorem Marks.nil {c:Ctx}:Marks c []:=⟨λ _ h=>by(cases h),.nil⟩
theorem Marks.mono {c c':Ctx}(h:c.le c'){ds:List Deferred}(k:Marks c ds):Marks c' ds:=⟨λ d hd=>by
 obtain⟨j,e,h0,h1,h2⟩:=k.all d hd;have G:=(Array.getElem?_eq_some_iff.1 h1).1
 exact⟨j,e,by rw[h.X];exact h0,(h.same G h2).trans h1,h.Jk G h2⟩,k.nd⟩
def Bp (d:Deferred):Bool:=match d.target with
 | .collected _=>true
 | _=>false
structure iu (c:Ctx) (ds:List Deferred):Prop where
 marks:Marks c (ds.filter Bp)
 rest:ds.filter (λ d=> !Bp d)=c.X.dfs
theorem iu.mono {c c':Ctx}(h:c.le c'){ds:List Deferred}(k:iu c ds):iu c' ds:=⟨k.marks.mono h,by rw[h.X];exact k.rest⟩
theorem iu.nil {c:Ctx}(h:c.X.dfs=[]):iu c []:=⟨Marks.nil,h.symm⟩
def oR (r:Option Nat) (c:Ctx):Prop:=∀l,r=some l->∃rc:Loop,c.hp[l]?=some (.loop rc)
theorem oR.mono {c c':Ctx}(h:c.le c'){r:Option Nat}(k:oR r c):oR r c':=λ l hl=>by
 obtain⟨rc,h1⟩:=k l hl;obtain⟨G,h2,_⟩:=h.loop l rc h1;exact⟨G,h2⟩
theorem oR.none {c:Ctx}:oR none c:=λ _ h=>by cases h
def rF (r:Option Nat):Fence:={ Fence.wide with round:=r }
structure rM (c:Ctx) (nt:Nat) (t:Env) (a:Act):Prop where
 glob:jO c
 lo:c.X.lo<=c.hp.size
 defers:iu c a.defers
 size:a.tmps.size=nt
 rel:∀i,aB c (t i) (a.tmps.getD i Go.undef)
theorem rM.mono {c c':Ctx}{nt:Nat}{t:Env}{a:Act}(h:c.le c') (s:rM c nt t a):rM c' nt t a :=
 ⟨s.glob.mono h,by rw[h.X];exact Nat.le_trans s.lo h.size,s.defers.mono h,s.size,λ i=>(s.rel i).mono h⟩
def Fin (c₀:Ctx) (w₀:World) (nt:Nat) (K:Env->Heap->Prop) (a:Act) (w:World):Prop :=
 ∃(ρ:Nat->Option Nat) (t:Env) (h:Heap),c₀.le ⟨ρ,c₀.X,h,w.heap⟩/\aA ⟨ρ,c₀.X,h,w.heap⟩/\WS w₀ w/\rM ⟨ρ,c₀.X,h,w.heap⟩ nt t a/\K t h
abbrev Post:=Ex->Env->Heap->Prop
def FinX (c₀:Ctx) (w₀:World) (nt:Nat) (Q:Post):Exit->Act->World->Prop
 | .normal=>Fin c₀ w₀ nt (Q .normal)
 | .exit id=>Fin c₀ w₀ nt (Q (.exit id))
 | .ret=>Fin c₀ w₀ nt (Q .ret)
 | .goto l=>Fin c₀ w₀ nt (Q (.jump l))
 | .panic ch=>λ a w=>ch=[{ v:=ca.panv,recovered:=false }]/\Fin c₀ w₀ nt (Q .pan) a w
 | _=>λ _ _=>False
theorem Fin.mono {c₀:Ctx}{w₀:World}{nt:Nat}{K K':Env->Heap->Prop}(hk:∀t h,K t h->K' t h){a:Act}{w:World}(h:Fin c₀ w₀ nt K a w):Fin c₀ w₀ nt K' a w:=by
 obtain⟨ρ,t,Z,V,Q,I,H,G⟩:=h;exact⟨ρ,t,Z,V,Q,I,H,hk _ _ G⟩
theorem Fin.from {c₀ c₁:Ctx}{w₀ w₁:World}{nt:Nat}{K:Env->Heap->Prop}{a:Act}{w:World}(hle:c₀.le c₁) (hw:WS w₀ w₁) (h:Fin c₁ w₁ nt K a w):Fin c₀ w₀ nt K a w:=by
 obtain⟨ρ,t,Z,I,H,V,G,Q⟩:=h;have hx:=hle.X;rw[hx]at I H G;exact⟨ρ,t,Z,hle.trans I,H,hw.trans V,G,Q⟩
theorem FinX.from {c₀ c₁:Ctx}{w₀ w₁:World}{nt:Nat}{Q:Post}(hle:c₀.le c₁) (hw:WS w₀ w₁) (e:Exit) (a:Act) (w:World) (h:FinX c₁ w₁ nt Q e a w):FinX c₀ w₀ nt Q e a w:=by
 cases e<;>first|exact Fin.from hle hw h|exact⟨h.1,Fin.from hle hw h.2⟩|exact h
theorem FinX.mono {c₀:Ctx}{w₀:World}{nt:Nat}{Q Q':Post}(hk:∀e t h,Q e t h->Q' e t h) (e:Exit) (a:Act) (w:World) (h:FinX c₀ w₀ nt Q e a w):FinX c₀ w₀ nt Q' e a w:=by
 cases e<;>first|exact Fin.mono (hk _) h|exact⟨h.1,Fin.mono (hk _) h.2⟩|exact h
def sC (P:Program) (nt:Nat) (code:Code) (Q:Post) (t:Env) (h:Heap):Prop :=
 ∀(r:Option Nat) (c:Ctx) (w:World) (a:Act),c.h=h->c.hp=w.heap->aA c->rM c nt t a->oR r c->code.wpIn (rF r) 0 P (FinX c w nt Q) a w
variable {P:Program}{nt:Nat}
theorem Fin.here {c:Ctx}{w:World}{t:Env}{h:Heap}{a:Act}{K:Env->Heap->Prop}(hh:c.h=h) (hp:c.hp=w.heap) (hr:aA c) (hs:rM c nt t a) (hk:K t h):Fin c w nt K a w:=by
 obtain⟨ρ,X,h',G⟩:=c;subst hh hp;exact⟨ρ,t,_,Ctx.le.refl _,hr,WS.refl w,hs,hk⟩
theorem sB {x:Code}{Q Q':Post}{t:Env}{h:Heap}(hk:∀e t h,Q e t h->Q' e t h) (hx:sC P nt x Q t h):sC P nt x Q' t h :=
 λ r c w a G hp hr hs ho=>wpIn_mono (hx r c w a G hp hr hs ho) (FinX.mono hk)
theorem OF {Q:Post}{t:Env}{h:Heap}(hk:Q .normal t h):sC P nt .skip Q t h :=
 λ _ _ _ _ G hp hr hs _=>wpIn_skip (Fin.here G hp hr hs hk)
theorem VC {id:Nat}{Q:Post}{t:Env}{h:Heap}(hk:Q (.exit id) t h):sC P nt (.exit id) Q t h :=
 λ _ _ _ _ G hp hr hs _=>wpIn_exit (Fin.here G hp hr hs hk)
theorem XO {Q:Post}{t:Env}{h:Heap}(hk:Q .ret t h):sC P nt .ret Q t h :=
 λ _ _ _ _ G hp hr hs _=>wpIn_ret (Fin.here G hp hr hs hk)
def Post.then (K:Env->Heap->Prop) (Q:Post):Post
 | .normal=>K
 | e=>Q e
theorem Ra {x y:Code}{Q:Post}{t:Env}{h:Heap}(hx:sC P nt x (Post.then (sC P nt y Q) Q) t h):sC P nt (.seq x y) Q t h:=by
 intro r c w a hh hp hr hs ho;refine wpIn_seq (wpIn_mono (hx r c w a hh hp hr hs ho) ?_);intro e a' w' he
 cases e with
 | normal =>
  obtain⟨ρ,t',h',G,Z,V,I,H⟩:=he;exact wpIn_mono (H r _ w' a' rfl rfl Z I (ho.mono G)) (λ e a w hf=>FinX.from G V e a w hf)
 | exit id=>exact he
 | ret=>exact he
 | goto l=>exact he
 | panic ch=>exact he
 | outgrown=>exact he
theorem VD {o:Operand}{x y:Code}{Q:Post}{t:Env}{h:Heap}{b:Bool}
  (he:∀(c:Ctx) (a:Act),c.h=h->rM c nt t a->a.eval o=.bool b) (hx:sC P nt (if b then x else y) Q t h):sC P nt (.cond o x y) Q t h :=
 λ r c w a G hp hr hs ho=>wpIn_cond (he c a G hs) (by cases b<;>exact hx r c w a G hp hr hs ho)
def Post.block (id:Nat) (Q:Post):Post
 | .exit id'=>λ t h=>if id'=id then Q .normal t h else Q (.exit id') t h
 | e=>Q e
theorem SC {id:Nat}{x:Code}{Q:Post}{t:Env}{h:Heap}(hx:sC P nt x (Post.block id Q) t h):sC P nt (.block id x) Q t h:=by
 intro r c w a V hp hr hs ho;refine wpIn_block (wpIn_mono (hx r c w a V hp hr hs ho) ?_);intro e a' w' he
 cases e with
 | exit G =>
  show(if G=id then _ else _)
  by_cases H:G=id
  ·rw[if_pos H];exact Fin.mono (λ t h I=>by grind [Post.block]) he
  ·rw[if_neg H];exact Fin.mono (λ t h I=>by grind [Post.block]) he
 | _=>exact he
theorem VA {x:Code}{Q:Post}{t:Env}{h:Heap}(I:Nat->Env->Heap->Prop) (n₀:Nat) (h₀:I n₀ t h)
  (round:∀n t h,I n t h->sC P nt x (Post.then (λ t' h'=>∃m,m<n/\I m t' h') Q) t h):sC P nt (.loop x) Q t h:=by
 intro r c w a hh hp hr hs ho b k cs a6 hb a1
 have key:∀n (t:Env) (h:Heap) (c:Ctx) (w:World) (a:Act),I n t h->c.h=h->c.hp=w.heap->aA c->rM c nt t a->oR r c ->
   ∃e a' w',FinX c w nt Q e a' w'/\ArrivesIn (Machine.fenced P (rF r)) P (lone (b.atR a (.code x::.inLoop x::k)) cs w) b k cs e a' w':=by
  intro n
  induction n using Nat.strongRecOn with
  | _ n ih =>
   intro t h c w a hI hh hp hr hs ho;obtain⟨e,V,H,Z,G⟩:=round n t h hI r c w a hh hp hr hs ho b (.inLoop x::k) cs a6 hb a1
   cases e with
   | normal =>
    obtain⟨ρ,t',h',r1,r2,r3,r4,m,hm,a8⟩:=Z;obtain⟨e₂,a₂,w₂,a7,a2⟩:=ih m hm t' h' _ H V a8 rfl rfl r2 r4 (ho.mono r1);exact⟨e₂,a₂,w₂,FinX.from r1 r3 _ _ _ a7,.of_steps (StepsIn.trans G (.one (fenced_calm hb a1 rfl) stepR_inLoop)) a2⟩
   | exit id=>exact⟨_,V,H,(show FinX c w nt Q (.exit id) V H from Z),.pass (x:=.inLoop x) rfl (λ _ _=>.inl (by simp)) G⟩
   | goto l=>exact⟨_,V,H,(show FinX c w nt Q (.goto l) V H from Z),.pass (x:=.inLoop x) rfl (λ _ _=>.inl (by simp)) G⟩
   | ret=>exact⟨_,V,H,(show FinX c w nt Q .ret V H from Z),.pass (x:=.inLoop x) rfl (λ _ _=>.inl (by simp)) G⟩
   | panic ch=>exact⟨_,V,H,(show FinX c w nt Q (.panic ch) V H from Z),.pass (x:=.inLoop x) rfl (λ _ _=>.inl (by simp)) G⟩
   | outgrown=>exact Z.elim
 obtain⟨e,a',w',Z,G⟩:=key n₀ t h c w a h₀ hh hp hr hs ho;exact⟨e,a',w',Z,.of_steps (.one (fenced_calm hb a1 rfl) stepR_loop) G⟩
theorem SB {l:Nat}{Q:Post}{t:Env}{h:Heap}(hk:Q .normal t h):sC P nt (.label l) Q t h :=
 λ _ _ _ _ G hp hr hs _=>wpIn_label (Fin.here G hp hr hs hk)
theorem VB {l:Nat}{Q:Post}{t:Env}{h:Heap}(hk:Q (.jump l) t h):sC P nt (.goto l) Q t h :=
 λ _ _ _ _ G hp hr hs _=>wpIn_goto (Fin.here G hp hr hs hk)
theorem jU {b:Frame}{a:Act}{k:List Item}{cs:List Frame}{w:World}{c:Code}:step P (lone (b.atR a (.code (.scope c)::k)) cs w)=.next (lone (b.atR a (.code c::.inScope c::k)) cs w) :=
 step_lone_go (by simp[stepG,stepG.exec,Frame.atR])
theorem zD {b:Frame}{a:Act}{k:List Item}{cs:List Frame}{w:World}{c:Code}:step P (lone (b.atR a (.inScope c::k)) cs w)=.next (lone (b.atR a k) cs w) :=
 step_lone_go (by simp[stepG,stepG.exec,Frame.atR])
def Post.jump (l:Nat) (J:Env->Heap->Prop) (Q:Post):Post
 | .jump l'=>λ t h=>l'=l/\J t h
 | e=>Q e
theorem Sz {x rest:Code}{l:Nat}(hf:findLabel x l=some rest){Q:Post}{t:Env}{h:Heap}(I:Nat->Env->Heap->Prop)
  (first:sC P nt x (Post.jump l (λ t' h'=>∃m,I m t' h') Q) t h)
  (round:∀n t h,I n t h->sC P nt rest (Post.jump l (λ t' h'=>∃m,m<n/\I m t' h') Q) t h):sC P nt (.scope x) Q t h:=by
 intro r c w a hh hp hr hs ho b k cs a8 hb a1;have hg:gotoIn l (.inScope x::k)=some (.code rest::.inScope x::k):=by simp[gotoIn,hf]
 have key:∀n (t:Env) (h:Heap) (c:Ctx) (w:World) (a:Act),I n t h->c.h=h->c.hp=w.heap->aA c->rM c nt t a->oR r c ->
   ∃e a' w',FinX c w nt Q e a' w'/\ArrivesIn (Machine.fenced P (rF r)) P (lone (b.atR a (.code rest::.inScope x::k)) cs w) b k cs e a' w':=by
  intro n
  induction n using Nat.strongRecOn with
  | _ n ih =>
   intro t h c w a hI hh hp hr hs ho;obtain⟨e,V,H,hq,G⟩:=round n t h hI r c w a hh hp hr hs ho b (.inScope x::k) cs a8 hb a1
   cases e with
   | normal=>exact⟨.normal,V,H,(show FinX c w nt Q .normal V H from hq),StepsIn.trans G (.one (fenced_calm hb a1 rfl) zD)⟩
   | exit id =>
    have hx:exitTo id (.inScope x::k)=exitTo id k:=by simp[exitTo]
    exact⟨.exit id,V,H,(show FinX c w nt Q (.exit id) V H from hq),λ k' hk=>G.1 k' (by rw[hx];exact hk),λ a2 hk=>G.2 a2 (by rw[hx];exact hk)⟩
   | goto l' =>
    obtain⟨ρ,t',h',r1,r2,r3,r4,rfl,m,hm,a7⟩:=hq;obtain⟨e₂,a₂,w₂,a6,Z⟩:=ih m hm t' h' _ H V a7 rfl rfl r2 r4 (ho.mono r1);exact⟨e₂,a₂,w₂,FinX.from r1 r3 _ _ _ a6,.of_steps (G.1 _ hg) Z⟩
   | ret=>exact⟨_,V,H,(show FinX c w nt Q .ret V H from hq),G⟩
   | panic ch=>exact⟨_,V,H,(show FinX c w nt Q (.panic ch) V H from hq),G⟩
   | outgrown=>exact hq.elim
 obtain⟨e,V,H,hq,G⟩:=first r c w a hh hp hr hs ho b (.inScope x::k) cs a8 hb a1
 have h0:(lone (b.atR a (.code (.scope x)::k)) cs w).fenced P (rF r):=fenced_calm hb a1 rfl
 cases e with
 | normal=>exact⟨.normal,V,H,(show FinX c w nt Q .normal V H from hq),.head h0 jU (StepsIn.trans G (.one (fenced_calm hb a1 rfl) zD))⟩
 | exit id =>
  have hx:exitTo id (.inScope x::k)=exitTo id k:=by simp[exitTo]
  exact⟨.exit id,V,H,(show FinX c w nt Q (.exit id) V H from hq),λ k' hk=>.head h0 jU (G.1 k' (by rw[hx];exact hk)),
   λ a2 hk=>let ⟨k₁,h1,h2⟩:=G.2 a2 (by rw[hx];exact hk);⟨k₁,h1,.head h0 jU h2⟩⟩
 | goto l' =>
  obtain⟨ρ,t',h',r1,r2,r3,r4,rfl,m,a7⟩:=hq;obtain⟨e₂,a₂,w₂,a6,Z⟩:=key m t' h' _ H V a7 rfl rfl r2 r4 (ho.mono r1);exact⟨e₂,a₂,w₂,FinX.from r1 r3 _ _ _ a6,.of_steps (.head h0 jU (G.1 _ hg)) Z⟩
 | ret=>exact⟨_,V,H,(show FinX c w nt Q .ret V H from hq),.of_steps (.one h0 jU) G⟩
 | panic ch=>exact⟨_,V,H,(show FinX c w nt Q (.panic ch) V H from hq),.of_steps (.one h0 jU) G⟩
 | outgrown=>exact hq.elim
def vW (P:Program) (nt:Nat) (ops:Array Oper) (l:List Nat) (K:Env->Heap->Prop) (t:Env) (h:Heap):Prop :=
 ∀(r:Option Nat) (c:Ctx) (w:World) (a:Act) (Q:Exit->Act->World->Prop),c.h=h->c.hp=w.heap->aA c->rM c nt t a->(∀a' w',Fin c w nt K a' w'->Q .normal a' w')->wpOpsIn (rF r) 0 P ops Q l a w
def OK (P:Program) (nt:Nat) (o:Oper) (K:Env->Heap->Prop) (t:Env) (h:Heap):Prop :=
 (∀c,o.op≠.defer c)->∀(r:Option Nat) (c:Ctx) (w:World) (a:Act) (Q:Exit->Act->World->Prop),c.h=h->c.hp=w.heap->aA c->rM c nt t a->o.wpIn (rF r) 0 P a w (Fin c w nt K) Q
theorem kF {r:Option Nat}{o:Oper}(hnd:∀c,o.op≠.defer c){a:Act}{w:World}{K:Act->World->Prop}{Q:Exit->Act->World->Prop}{R:Result Next}(hrun:(execOp a.eval o).run P w=R) (h:o.uponIn (rF r) 0 P a K Q R):o.wpIn (rF r) 0 P a w K Q:=by
 refine⟨λ _ _=>trivial,?_⟩;grind [Oper.semAt_eq]
theorem lh {ops:Array Oper}{K:Env->Heap->Prop}{t:Env}{h:Heap}(hk:K t h):vW P nt ops [] K t h :=
 λ _ _ _ _ _ H hp hr hs G=>G _ _ (Fin.here H hp hr hs hk)
theorem PQ {id:Nat}{ops:Array Oper}{Q:Post}{t:Env}{h:Heap}(hx:vW P nt ops (List.range ops.size) (Q .normal) t h):sC P nt (.region id ops false) Q t h :=
 λ r c w a G hp hr hs _=>wpIn_region (hx r c w a _ G hp hr hs (λ _ _ H=>H))
def Env.put (t:Env) (dst:Option Tmp) (d:D):Env :=
 match dst with
 | some i=>aF t i d
 | none=>t
theorem rM.put {c:Ctx}{t:Env}{a:Act}(s:rM c nt t a){dst:Option Tmp}(hd:∀i,dst=some i->i<nt){d:D}{v:Value}(hv:aB c d v):rM c nt (t.put dst d) (a.put dst v):=by
 cases dst with
 | none=>exact s
 | some j =>
  refine⟨s.glob,s.lo,s.defers,by simp[Act.put,s.size],λ i=>?_⟩;by_cases h:i=j
  ·subst h;have H:=hd i rfl
   have:(a.put (some i) v).tmps.getD i Go.undef=v:=by
    simp[Act.put,s.size,H]
   rw[this];simpa[Env.put,aF] using hv
  ·have G:j≠i:=λ e=>h e.symm
   have:(a.put (some j) v).tmps.getD i Go.undef=a.tmps.getD i Go.undef:=by
    simp[Act.put,G]
   rw[this];simpa[Env.put,aF,h] using s.rel i
def gv:D->Option (Option Bool)
 | .bool b=>some (some b)
 | .tup _=>some none
 | _=>none
abbrev gU:D:=.tup []
def guarded (g:Option (Nat×Bool)) (dst:Option Tmp) (X:(Env->Heap->Prop)->Env->Heap->Prop) (K:Env->Heap->Prop) (t:Env) (h:Heap):Prop :=
 match g with
 | none=>X K t h
 | some (j,want)=>∃b,gv (t j)=some b/\(b=some want->X K t h)/\(b≠some want->K (t.put dst gU) h)
theorem oZ {ops:Array Oper}{i:Nat}{rest:List Nat}{o:Oper}{K:Env->Heap->Prop}{t:Env}{h:Heap}(ho:ops[i]?=some o) (hnd:∀c,o.op≠.defer c)
  (g:Option (Nat×Bool)) (hg:∀j want,o.guard=some (j,want)->∃s,(ops[j]?).bind (·.dst)=some s/\g=some (s,want)) (hgn:o.guard=none->g=none)
  (hd:∀i,o.dst=some i->i<nt)
  (hx:guarded g o.dst (OK P nt o) (vW P nt ops rest K) t h):vW P nt ops (i::rest) K t h:=by
 intro r c w a Q hh hp hr hs hq
 have run:OK P nt o (vW P nt ops rest K) t h->o.wpIn (rF r) 0 P a w (wpOpsIn (rF r) 0 P ops Q rest) Q:=by
  intro hx;refine Oper.wpIn_mono (λ a' w' hf=>?_) (hx hnd r c w a Q hh hp hr hs);obtain⟨ρ,t',h',r1,r2,r3,r4,r5⟩:=hf;exact r5 r _ w' a' Q rfl rfl r2 r4 (λ a6 a2 hf=>hq _ _ (Fin.from r1 r3 hf))
 simp only[wpOpsIn,ho]
 cases G:o.guard with
 | none =>
  have:=hgn G;subst this;rw[if_pos (by simp[Region.wanted,G])];exact run hx
 | some p =>
  obtain⟨j,want⟩:=p;obtain⟨s,Z,rfl⟩:=hg j want G;obtain⟨b,hb,h1,h2⟩:=hx;have I:=hs.rel s;have hu:aB c gU Go.undef:=.tup [] #[] rfl (by simp)
  cases b with
  | some b =>
   have ht:t s=.bool b:=by
    generalize t s=d at hb;cases d<;>simp[gv]at hb;rw[hb]
   rw[ht]at I
   have V:a.tmps.getD s Go.undef=.bool b:=by
    generalize a.tmps.getD s Go.undef=v at I;cases I;rfl
   have hsz:s<a.tmps.size:=by
    grind [Go.undef]
   have hy:yielded ops a.tmps j=some b:=by
    have H:a.tmps[s]?=some (.bool b):=by
     have:a.tmps.getD s Go.undef=a.tmps[s]:=by simp[Array.getElem?_eq_getElem hsz]
     grind
    simp[yielded,Z,H]
   by_cases a1:b=want
   ·grind [Region.wanted]
   ·rw[if_neg (by grind [Region.wanted])];exact⟨λ _ _=>trivial,h2 (by simpa using a1) r c w _ Q hh hp hr (hs.put hd hu) hq⟩
  | none =>
   obtain⟨ds,ht⟩:∃ds,t s=.tup ds:=by
    generalize t s=d at hb;cases d<;>simp[gv]at hb;exact⟨_,rfl⟩
   rw[ht]at I
   obtain⟨vs,V⟩:∃vs,a.tmps.getD s Go.undef=.tuple vs:=by
    generalize a.tmps.getD s Go.undef=v at I;cases I;exact⟨_,rfl⟩
   have hy:yielded ops a.tmps j=none:=by
    rcases Nat.lt_or_ge s a.tmps.size with hsz|hsz
    ·have H:a.tmps[s]?=some (.tuple vs):=by
      have:a.tmps.getD s Go.undef=a.tmps[s]:=by simp[Array.getElem?_eq_getElem hsz]
      grind
     simp[yielded,Z,H]
    grind [yielded]
   rw[if_neg (by simp[Region.wanted,G,hy])];exact⟨λ _ _=>trivial,h2 (by simp) r c w _ Q hh hp hr (hs.put hd hu) hq⟩
end Go.Am
namespace Go.Am
open Go
instance gtab0:ca where
 panv:=Go.undef
 tab:=λ _=>none
variable [ca]
abbrev LEnv:=List (Nat×D)
def LEnv.get:LEnv->Nat->D
 | [],_=>.undef
 | (k,d)::r,i=>if i=k then d else LEnv.get r i
def LEnv.put (e:LEnv) (dst:Option Nat) (d:D):LEnv :=
 match dst with
 | some i=>(i,d)::e
 | none=>e
inductive Arg where
 | t (i:Nat)
 | c (d:D)
def Arg.get (e:LEnv):Arg->D
 | .t i=>e.get i
 | .c d=>d
def D.isAgg:D->Bool
 | .agg _=>true
 | _=>false
inductive CK where
 | i
 | b
 | s
inductive AOp where
 | mov (x:Arg)
 | pick (c a b:Arg)
 | bin (op:BinOp) (x y:Arg)
 | eqv (neg agg:Bool) (ks:List CK) (x y:Arg)
 | un (op:UnOp) (x:Arg)
 | conv (k:IntKind) (x:Arg)
 | ext (x:Arg) (i:Nat)
 | fld (x:Arg) (off size:Nat) (agg:Bool)
 | bld (zero:List D) (parts:List (Nat×Nat×Arg))
 | bldS (fz:Bool) (esz len:Nat) (zero:D) (parts:List (Nat×Arg))
 | len (x:Arg)
 | slen (x:Arg)
 | fadd (x:Arg) (off:Nat)
 | iadd (x i:Arg) (esz:Nat)
 | iadda (x i:Arg) (len esz:Nat)
 | sidx (x i:Arg) (len size:Nat) (agg:Bool)
 | ld (x:Arg) (size:Nat) (agg:Bool)
 | st (x v:Arg) (size:Nat)
 | alloc (zero:D)
 | box (x:Arg)
 | mk (esz bytes:Nat) (zero:D) (len cap:Arg)
 | mZ (x:Arg) (lo hi mx:Option Arg) (esz:Nat)
 | sslc (x:Arg) (lo hi:Option Arg)
 | slz (x:Arg) (esz:Nat)
 | SP (x:Arg) (n:Nat)
 | b2s (x:Arg)
 | mkc (bytes:Nat) (len cap:Arg)
 | nilq (neg:Bool) (x:Arg)
 | app (s x:Arg) (esz bytes:Nat) (zero:D)
 | Iy (d s:Arg) (esz:Nat)
 | call (f:FuncId) (args:List Arg)
 | callv (x:Arg) (args:List Arg)
 | mkf (f:FuncId) (a b:List Arg)
 | mn (x y:Arg)
 | mx (x y:Arg)
 | mn3 (x y z:Arg)
 | mx3 (x y z:Arg)
 | KL (kt:KeyT)
 | look (kt:KeyT) (x k:Arg) (z:D) (ok:Bool)
 | mupd (kt:KeyT) (x k v:Arg)
 | dead
structure AOper where
 dst:Option Nat
 op:AOp
 guard:Option (Nat×Bool)
inductive ACode where
 | skip
 | seq (a b:ACode)
 | seqj (keep vars:List Nat) (a b:ACode)
 | cond (c:Arg) (a b:ACode)
 | block (id:Nat) (a:ACode)
 | loop (keep vars:List Nat) (a:ACode)
 | exit (id:Nat)
 | ret
 | reg (l:List AOper)
 | dreg (vals tail rev:List AOper)
 | range (g:Arg) (ps keep exs:List Nat) (a b:ACode)
 | frz (a:ACode)
 | regx (l:List AOper)
 | panr
 | scope (l:Nat) (keep vars:List Nat) (a b:ACode)
 | label (l:Nat)
 | goto (l:Nat)
def ibits (op:BinOp) (k:IntKind) (x y:Int):Int :=
 let a:=BitVec.ofInt k.bits x
 let b:=BitVec.ofInt k.bits y
 k.wrap (match op with
  | .and=>(a &&& b).toNat
  | .or=>(a ||| b).toNat
  | .xor=>(a ^^^ b).toNat
  | _=>(a &&& ~~~b).toNat)
def ZB (k:IntKind) (a b:Int):Int:=k.wrap (a*2 ^ (min b.toNat k.bits))
def Jt (k:IntKind) (a b:Int):Int:=a.fdiv (2 ^ (min b.toNat k.bits))
def vbin (op:BinOp) (x y:D) (K:D->Prop):Prop :=
 match x,y with
 | .int k a,.int k' b =>
  match op with
  | .shl=>0<=b/\K (.int k (ZB k a b))
  | .shr=>0<=b/\K (.int k (Jt k a b))
  | .add=>k=k'/\K (.int k (k.wrap (a+b)))
  | .sub=>k=k'/\K (.int k (k.wrap (a-b)))
  | .mul=>k=k'/\K (.int k (k.wrap (a*b)))
  | .quo=>k=k'/\b≠0/\K (.int k (k.wrap (a.tdiv b)))
  | .rem=>k=k'/\b≠0/\K (.int k (a.tmod b))
  | .and=>k=k'/\K (.int k (ibits .and k a b))
  | .or=>k=k'/\K (.int k (ibits .or k a b))
  | .xor=>k=k'/\K (.int k (ibits .xor k a b))
  | .andNot=>k=k'/\K (.int k (ibits .andNot k a b))
  | .eql=>k=k'/\K (.bool (decide (a=b)))
  | .neq=>k=k'/\K (.bool (!decide (a=b)))
  | .lss=>k=k'/\K (.bool (decide (a<b)))
  | .leq=>k=k'/\K (.bool (decide (a<=b)))
  | .gtr=>k=k'/\K (.bool (decide (b<a)))
  | .geq=>k=k'/\K (.bool (decide (b<=a)))
 | .str a,.str b =>
  match op with
  | .eql=>K (.bool (a.toList == b.toList))
  | .neq=>K (.bool (!(a.toList == b.toList)))
  | .add=>a.size+b.size<=9223372036854775807/\K (.str (a++b))
  | _=>False
 | _,_=>False
def vun (op:UnOp) (x:D) (K:D->Prop):Prop :=
 match op,x with
 | .neg,.int k n=>K (.int k (k.wrap (0-n)))
 | .xor,.int k n=>K (.int k (ibits .xor k (if k.signed then -1 else k.max) n))
 | .not,.bool b=>K (.bool !b)
 | _,_=>False
def eqCells:List CK->List D->List D->Option Bool
 | [],[],[]=>some true
 | .i::ks,.int k a::r,.int k' b::s=>if k=k' then(eqCells ks r s).map (λ t=>decide (a=b)&&t) else none
 | .b::ks,.bool a::r,.bool b::s=>(eqCells ks r s).map (λ t=>(a == b)&&t)
 | .s::ks,.str a::r,.str b::s=>(eqCells ks r s).map (λ t=>(a.toList == b.toList)&&t)
 | _,_,_=>none
def veqv (neg:Bool) (ks:List CK) (x y:D) (K:D->Prop):Prop :=
 match eqCells ks x.cells y.cells with
 | some b=>K (.bool (if neg then !b else b))
 | none=>False
def vpart (cs:List D) (off size:Nat) (agg:Bool) (K:D->Prop):Prop :=
 if agg then off+size<=cs.length/\K (.agg ((cs.drop off).take size))
 else match cs[off]? with
  | some d=>K d
  | none=>False
def setCells (d:D) (j:Nat) (new:List D):D :=
 match d with
 | .agg cs=>.agg (cs.take j++new++cs.drop (j+new.length))
 | _=>match new with
  | [x]=>x
  | _=>.undef
def Slot.live:Slot->Bool
 | .box _=>true
 | .arr _ _=>true
 | .frz _ _=>true
 | _=>false
def velems (esz:Nat) (x:D) (h:Heap) (K:List D->Prop):Prop :=
 match x with
 | .nil=>K []
 | .sl xs=>(∀e∈xs,e.cells.length=esz)/\K xs
 | .ms n off len=>∃els,(h n).row=some (esz,els)/\off+len<=els.length/\K ((els.drop off).take len)
 | _=>False
def vint (x:D) (K:Int->Prop):Prop :=
 match x with
 | .int _ i=>K i
 | _=>False
def aM (x:D) (h:Heap) (K:D->Prop):Prop :=
 match x with
 | .nil=>K (.int .i64 0)
 | .sl xs=>K (.int .i64 xs.length)
 | .ms n _ len=>(h n).live=true/\K (.int .i64 len)
 | _=>False
def vopt (e:LEnv) (x:Option Arg) (dflt:Nat) (K:Int->Prop):Prop :=
 match x with
 | none=>K dflt
 | some a=>vint (a.get e) K
def fillD (cells:List D):List (Nat×Nat×List D)->List D
 | []=>cells
 | (off,size,cs)::r=>fillD (cells.take off++cs++cells.drop (off+size)) r
def kY (n:Nat) (l:List (Nat×Nat×D)):Prop :=
 ∀p∈l,p.2.2.cells.length=p.2.1/\p.1+p.2.1<=n/\∀d∈p.2.2.cells,d.one=true
def UC (n:Nat) (e:LEnv) (parts:List (Nat×Nat×Arg)):Prop :=
 ∀p∈parts,(p.2.2.get e).cells.length=p.2.1/\p.1+p.2.1<=n/\∀d,d∈(p.2.2.get e).cells->d.one=true
theorem N5 {n:Nat}{e:LEnv}{parts:List (Nat×Nat×Arg)}:kY n (parts.map λ p=>(p.1,p.2.1,p.2.2.get e))↔UC n e parts:=by
 simp only[kY,UC,List.mem_map,forall_exists_index,and_imp,forall_apply_eq_imp_iff₂]
def setEls (els:List D):List (Nat×D)->List D
 | []=>els
 | (i,x)::r=>setEls (els.set i x) r
def Heap.freeze (h:Heap) (n:Nat):Heap :=
 match h n with
 | .arr e l=>aF h n (.frz e l)
 | _=>h
def Heap.freezeAll (h:Heap):List Nat->Heap
 | []=>h
 | n::r=>Heap.freezeAll (h.freeze n) r
def D.fzc (h:Heap):D->D
 | .ms n off len=>match (h n).row with
  | some (_,els)=>.sl ((els.drop off).take len)
  | none=>.ms n off len
 | d=>d
def D.fz (h:Heap):D->D
 | .agg cs=>.agg (cs.map (D.fzc h))
 | d=>d.fzc h
def D.fzt (h:Heap):D->D
 | .tup ds=>.tup (ds.map (D.fz h))
 | d=>d.fz h
def D.lG:D->List Nat
 | .ms n _ _=>[n]
 | _=>[]
def D.nm:D->List Nat
 | .agg cs=>cs.flatMap D.lG
 | d=>d.lG
def aL (d:D):Prop:=∀x∈d.cells,x.one=true
def p6 (h:Heap):D->Prop
 | .ms n off len=>∃esz els,(h n).row=some (esz,els)/\off+len<=els.length/\∀x,x∈(els.drop off).take len->∀y∈x.cells,y.vone=true
 | _=>True
def nN (h:Heap) (d:D):Prop:=∀x∈d.cells,p6 h x
def OA (len esz:Nat) (l:List (Nat×D)):Prop:=∀p∈l,p.1<len/\p.2.cells.length=esz/\aL p.2
def Vu (h:Heap) (l:List (Nat×D)):Prop:=∀p∈l,nN h p.2
def aad (l:List (Nat×D)):Prop:=∀p∈l,∀y∈p.2.cells,y.vone=true
theorem FC {len esz:Nat}{e:LEnv}{parts:List (Nat×Arg)}:OA len esz (parts.map λ p=>(p.1,p.2.get e)) ↔ ∀p∈parts,p.1<len/\(p.2.get e).cells.length=esz/\aL (p.2.get e):=by
 simp only[OA,List.mem_map,forall_exists_index,and_imp,forall_apply_eq_imp_iff₂]
theorem LI {h:Heap}{e:LEnv}{parts:List (Nat×Arg)}:Vu h (parts.map λ p=>(p.1,p.2.get e)) ↔ ∀p∈parts,nN h (p.2.get e):=by
 simp only[Vu,List.mem_map,forall_exists_index,and_imp,forall_apply_eq_imp_iff₂]
theorem Vt {e:LEnv}{parts:List (Nat×Arg)}:aad (parts.map λ p=>(p.1,p.2.get e)) ↔ ∀p∈parts,∀y,y∈(p.2.get e).cells->y.vone=true:=by
 simp only[aad,List.mem_map,forall_exists_index,and_imp,forall_apply_eq_imp_iff₂]
def keySame:D->D->Bool
 | .int _ a,.int _ b=>decide (a=b)
 | .agg [.int _ a,.int _ b],.agg [.int _ c,.int _ d]=>decide (a=c)&&decide (b=d)
 | _,_=>false
def mget:List (D×D)->D->Option D
 | [],_=>none
 | (a,b)::r,k=>if keySame k a=true then some b else mget r k
def mset:List (D×D)->D->D->List (D×D)
 | [],k,v=>[(k,v)]
 | (a,b)::r,k,v=>if keySame k a=true then(a,v)::r else(a,b)::mset r k v
def ag (P:Program) (f:FuncId) (ds:List D) (h:Heap) (K:HKq):Prop :=
 ∀(c:Ctx) (w:World) (vals:Array Value),c.h=h->c.hp=w.heap->aA c->vals.size=ds.length ->
  (∀(i:Nat) (d:D),ds[i]?=some d->aB c d (vals.getD i Go.undef)) ->
  Calls P f vals w λ e w'=>∃(v:Value) (r:D) (ρ:Nat->Option Nat) (h':Heap),e=.returned v/\c.le ⟨ρ,c.X,h',w'.heap⟩ /\
   aA ⟨ρ,c.X,h',w'.heap⟩/\WS w w'/\aB ⟨ρ,c.X,h',w'.heap⟩ r v/\K r h'
theorem ag.mono {P:Program}{f:FuncId}{ds:List D}{h:Heap}{K K':HKq}(hk:∀r h',K r h'->K' r h') (hc:ag P f ds h K):ag P f ds h K':=by
 intro c w vals H hp hr hs G;refine(hc c w vals H hp hr hs G).mono ?_;grind
def yG (P:Program) (f:FuncId) (ds:List D) (h:Heap) (K:HKq) (KP:Heap->Prop):Prop :=
 ∀(c:Ctx) (w:World) (vals:Array Value),c.h=h->c.hp=w.heap->aA c->vals.size=ds.length ->
  (∀(i:Nat) (d:D),ds[i]?=some d->aB c d (vals.getD i Go.undef)) ->
  Calls P f vals w λ e w'=>∃(ρ:Nat->Option Nat) (h':Heap),c.le ⟨ρ,c.X,h',w'.heap⟩/\aA ⟨ρ,c.X,h',w'.heap⟩/\WS w w' /\
   ((∃(v:Value) (r:D),e=.returned v/\aB ⟨ρ,c.X,h',w'.heap⟩ r v/\K r h')\/(e=.panicked [{ v:=ca.panv,recovered:=false }]/\KP h'))
theorem yG.mono {P:Program}{f:FuncId}{ds:List D}{h:Heap}{K K':HKq}{KP KP':Heap->Prop}(hk:∀r h',K r h'->K' r h') (hp:∀h',KP h'->KP' h') (hc:yG P f ds h K KP):yG P f ds h K' KP':=by
 intro c w vals I G hr hs H;refine(hc c w vals I G hr hs H).mono ?_;grind
theorem yG.call {P:Program}{f:FuncId}{ds:List D}{h:Heap}{K:HKq}(hc:yG P f ds h K λ _=>False):ag P f ds h K:=by
 grind [yG,ag]
def rN (P:Program) (n:Nat) (ds:List D) (h:Heap) (K:HKq):Prop :=
 ∀(c:Ctx) (w:World) (vals:Array Value) (g:Nat),c.h=h->c.hp=w.heap->aA c->vals.size=ds.length ->
  (∀(i:Nat) (d:D),ds[i]?=some d->aB c d (vals.getD i Go.undef))->c.ρ n=some g ->
  ∃(fn:FuncId) (tmps:Array Value) (assign body:Code),(Instr.yield g vals).run P w=.ok (.round g fn tmps assign body) w /\
   RoundIn Fence.wide 0 P g fn tmps assign body w λ e w'=>∃(v:Value) (r:D) (ρ:Nat->Option Nat) (h':Heap),e=.returned v/\c.le ⟨ρ,c.X,h',w'.heap⟩ /\
    aA ⟨ρ,c.X,h',w'.heap⟩/\WS w w'/\aB ⟨ρ,c.X,h',w'.heap⟩ r v/\K r h'
theorem rN.mono {P:Program}{n:Nat}{ds:List D}{h:Heap}{K K':HKq}(hk:∀r h',K r h'->K' r h') (hc:rN P n ds h K):rN P n ds h K':=by
 intro c w vals g H hp hr hs G hg;obtain⟨fn,tmps,assign,body,h1,h2⟩:=hc c w vals g H hp hr hs G hg;refine⟨fn,tmps,assign,body,h1,h2.mono ?_⟩;grind
def fF (P:Program) (f:FuncId):Bool :=
 match P.funcs[f]? with
 | some fn=> !(fn.name == "runtime.NumGoroutine")&&fn.body.isSome
 | none=>false
def qE (h:Heap) (n:Nat):Prop:=(∀m,n<=m->h m=.free)/\∀k,n=k+1->h k≠.free
theorem qE.free {h:Heap}{n:Nat}(t:qE h n):h n=.free:=t.1 n (Nat.le_refl n)
def FX (h:Heap) (m esz:Nat) (els:List D):Prop:=∃rest,h m=.arr esz (els++rest)
theorem FX.of {h:Heap}{m esz:Nat}{els:List D}(e:h m=.arr esz els):FX h m esz els:=⟨[],by rw[List.append_nil];exact e⟩
def u8L:List D->Option (List Int)
 | []=>some []
 | .int .u8 n::r=>(u8L r).map (n :: ·)
 | _=>none
def strOf (ns:List Int):ByteArray:=ns.foldl (λ r n=>r.push (UInt8.ofNat n.toNat)) ByteArray.empty
def vcOp (P:Program) (op:AOp) (K:HKq) (e:LEnv) (h:Heap):Prop :=
 match op with
 | .mov x=>K (x.get e) h
 | .pick c a b=>match c.get e with
  | .bool t=>K (if t then a.get e else b.get e) h
  | _=>False
 | .bin op x y=>vbin op (x.get e) (y.get e) (K · h)
 | .eqv neg agg ks x y=>(x.get e).isAgg=agg/\(y.get e).isAgg=agg/\veqv neg ks (x.get e) (y.get e) (K · h)
 | .un op x=>vun op (x.get e) (K · h)
 | .conv k x=>vint (x.get e) λ i=>K (.int k (k.wrap i)) h
 | .ext x i=>match x.get e with
  | .tup ds=>match ds[i]? with
   | some d=>K d h
   | none=>False
  | _=>False
 | .fld x off size agg=>match x.get e with
  | .agg cs=>vpart cs off size agg (K · h)
  | _=>False
 | .bld zero parts=>kY zero.length (parts.map λ p=>(p.1,p.2.1,p.2.2.get e))/\K (.agg (fillD zero (parts.map λ p=>(p.1,p.2.1,(p.2.2.get e).cells)))) h
 | .bldS fz esz len zero parts=>OA len esz (parts.map λ p=>(p.1,p.2.get e))/\(fz=true->Vu h (parts.map λ p=>(p.1,p.2.get e))) /\
   ∀n,qE h n->K (.ms n 0 len) (aF (if fz then h.freezeAll (parts.flatMap λ p=>(p.2.get e).nm) else h) n
    (.arr esz (setEls (List.replicate len zero) (parts.map λ p=>(p.1,if fz then(p.2.get e).fz h else p.2.get e)))))
 | .len x=>aM (x.get e) h (K · h)
 | .slen x=>match x.get e with
  | .str s=>K (.int .i64 s.size) h
  | _=>False
 | .fadd x off=>match x.get e with
  | .ptr n i j=>(h n).used=true/\K (.ptr n i (j+off)) h
  | .vp d j=>K (.vp d (j+off)) h
  | _=>False
 | .iadd x i esz=>vint (i.get e) λ i=>match x.get e with
  | .sl xs=>0<=i/\i<xs.length/\∀d,xs[i.toNat]?=some d->d.cells.length=esz/\K (.vp d 0) h
  | .ms n off len=>0<=i/\i<len/\(∃els,(h n).row=some (esz,els))/\K (.ptr n (off+i.toNat) 0) h
  | _=>False
 | .iadda x i len esz=>vint (i.get e) λ i=>0<=i/\i<len/\match x.get e with
  | .ptr n k j=>(h n).live=true/\K (.ptr n k (j+i.toNat*esz)) h
  | .vp d j=>K (.vp d (j+i.toNat*esz)) h
  | _=>False
 | .sidx x i len size agg=>vint (i.get e) λ i=>match x.get e with
  | .str s=>len=0/\0<=i/\i<s.size/\∀b,s[i.toNat]?=some b->K (.int .u8 b.toNat) h
  | .agg cs=>0<len/\0<=i/\i<len/\vpart cs (i.toNat*size) size agg (K · h)
  | _=>False
 | .ld x size agg=>match x.get e with
  | .vp d j=>vpart d.cells j size agg (K · h)
  | .ptr n i j=>match h n with
   | .box v=>i=0/\vpart v.cells j size agg (K · h)
   | .arr _ els=>i<els.length/\∀d,els[i]?=some d->vpart d.cells j size agg (K · h)
   | .frz _ els=>i<els.length/\∀d,els[i]?=some d->vpart d.cells j size agg (K · h)
   | _=>False
  | _=>False
 | .st x v size=>(v.get e).cells.length=size/\aL (v.get e)/\match x.get e with
  | .ptr n i j=>match h n with
   | .box d=>i=0/\j+size<=d.cells.length/\K .undef (aF h n (.box (setCells d j (v.get e).cells)))
   | .arr esz els=>i<els.length/\j+size<=esz/\∀d,els[i]?=some d->K .undef (aF h n (.arr esz (els.set i (setCells d j (v.get e).cells))))
   | _=>False
  | _=>False
 | .alloc zero=>∀n,qE h n->K (.ptr n 0 0) (aF h n (.box zero))
 | .box x=>aL (x.get e)/\∀n,qE h n->K (.ptr n 0 0) (aF h n (.box (x.get e)))
 | .mk esz bytes zero len cap=>vint (len.get e) λ l=>vint (cap.get e) λ c=>0<=l/\l<=c/\c*bytes<=140737488355328/\c<=9223372036854775807 /\
   ∀n,qE h n->K (.ms n 0 l.toNat) (aF h n (.arr esz (List.replicate l.toNat zero)))
 | .mZ x lo hi mx esz=>match x.get e with
  | .nil=>vopt e lo 0 λ l=>vopt e hi 0 λ r=>vopt e mx 0 λ m=>l=0/\r=0/\m=0/\K .nil h
  | .sl xs=>vopt e lo 0 λ l=>vopt e hi xs.length λ r=>vopt e mx xs.length λ m=>0<=l/\l<=r/\r<=m/\m<=xs.length/\(∀d∈xs,d.cells.length=esz) /\
    K (.sl ((xs.drop l.toNat).take (r-l).toNat)) h
  | .ms n off len=>vopt e lo 0 λ l=>vopt e hi len λ r=>vopt e mx len λ m=>0<=l/\l<=r/\r<=m/\m<=len/\(∃els,(h n).row=some (esz,els)) /\
    K (.ms n (off+l.toNat) (r-l).toNat) h
  | _=>False
 | .nilq neg x=>match x.get e with
  | .nil=>K (.bool (!neg)) h
  | .sl (_::_)=>K (.bool neg) h
  | .sl []=>K (.bool true) h/\K (.bool false) h
  | _=>False
 | .slz x esz=>match x.get e with
  | .nil=>∀n,qE h n->K (.ms n 0 0) (aF h n (.arr esz []))
  | .sl _=>∀n,qE h n->K (.ms n 0 0) (aF h n (.arr esz []))
  | .ms m _ _=>(∃els,(h m).row=some (esz,els))/\∀n,qE h n->K (.ms n 0 0) (aF h n (.arr esz []))
  | _=>False
 | .SP x n=>match x.get e with
  | .ptr m i j=>match h m with
   | .box (.agg cs)=>i=0/\0<n/\n<=1000000/\j+n<=cs.length/\(∀d,d∈(cs.drop j).take n->d.vone=true)/\K (.sl ((cs.drop j).take n)) (aF h m .dead)
   | _=>False
  | _=>False
 | .mkc bytes len cap=>vint (len.get e) λ l=>vint (cap.get e) λ c=>0<=l/\l<=c/\c*bytes<=140737488355328/\c<=9223372036854775807/\K .undef h
 | .b2s x=>velems 1 (x.get e) h λ ys=>(∀y∈ys,aL y)/\match u8L ys with
  | some ns=>K (.str (strOf ns)) h
  | none=>False
 | .sslc x lo hi=>match x.get e with
  | .str s=>vopt e lo 0 λ l=>vopt e hi s.size λ r=>0<=l/\l<=r/\r<=s.size/\K (.str (s.extract l.toNat r.toNat)) h
  | _=>False
 | .app s x esz bytes _=>velems esz (x.get e) h λ ys=>(∀y∈ys,aL y)/\match s.get e with
  | .nil=>(ys.length*bytes<=140737488355328/\ys.length<=9223372036854775807)/\∀n,qE h n->K (.ms n 0 ys.length) (aF h n (.arr esz ys))
  | .ms m off len=>∃els,FX h m esz els/\off+len=els.length/\((len+ys.length)*bytes<=140737488355328/\len+ys.length<=9223372036854775807) /\
    ∀n,qE h n->K (.ms n 0 (len+ys.length)) (aF (aF h m .dead) n (.arr esz (els.drop off++ys))) /\
     (off≠0->K (.ms n off (len+ys.length)) (aF (aF h m .dead) n (.arr esz (els++ys))))
  | _=>False
 | .Iy d s esz=>velems esz (s.get e) h λ ys=>(∀y∈ys,aL y)/\match d.get e with
  | .ms m off len=>∃els,h m=.arr esz els/\off+len<=els.length /\
    K (.int .i64 (min ys.length len:Nat)) (aF h m (.arr esz (els.take off++ys.take len++els.drop (off+min ys.length len))))
  | _=>False
 | .call f args=>ag P f (args.map (·.get e)) h K
 | .callv x args=>match x.get e with
  | .fn f a b=>fF P f=true/\ag P f (a++args.map (·.get e)++b) h K
  | .yld n=>(∃st B,h n=.lp st B)/\rN P n (args.map (·.get e)) h K
  | _=>False
 | .mkf f a b=>K (.fn f (a.map (·.get e)) (b.map (·.get e))) h
 | .mn x y=>match x.get e,y.get e with
  | .int k a,.int k' b=>k=k'/\K (.int k (if b<a then b else a)) h
  | _,_=>False
 | .mx x y=>match x.get e,y.get e with
  | .int k a,.int k' b=>k=k'/\K (.int k (if a<b then b else a)) h
  | _,_=>False
 | .mn3 x y z=>match x.get e,y.get e,z.get e with
  | .int k a,.int k' b,.int k'' c=>k=k'/\k=k''/\K (.int k (min (min a b) c)) h
  | _,_,_=>False
 | .mx3 x y z=>match x.get e,y.get e,z.get e with
  | .int k a,.int k' b,.int k'' c=>k=k'/\k=k''/\K (.int k (max (max a b) c)) h
  | _,_,_=>False
 | .KL kt=>∀n,qE h n->K (.mp n) (aF h n (.map kt []))
 | .look kt x k z ok=>kt.okB (k.get e)=true/\match x.get e with
  | .mp n=>match h n with
   | .map kt' ents=>kt'=kt/\K (if ok then .tup [(mget ents (k.get e)).getD z,.bool (mget ents (k.get e)).isSome] else(mget ents (k.get e)).getD z) h
   | _=>False
  | _=>False
 | .mupd kt x k v=>kt.okB (k.get e)=true/\(v.get e).one=true/\match x.get e with
  | .mp n=>match h n with
   | .map kt' ents=>kt'=kt/\K .undef (aF h n (.map kt (mset ents (k.get e) (v.get e))))
   | _=>False
  | _=>False
 | .dead=>False
def D.vd:D->Bool
 | .agg cs=>cs.all D.vone
 | d=>d.vone
def D.M8:D->Bool
 | .tup ds=>ds.all D.vd
 | d=>d.vd
def PG (h:Heap) (l:List D):Prop:=∀d∈l,aL d/\nN h d/\(d.fz h).vd=true
theorem By {h:Heap}{e:LEnv}{args:List Arg}:PG h (args.map (·.get e)) ↔ ∀x∈args,aL (x.get e)/\nN h (x.get e)/\((x.get e).fz h).vd=true:=by
 grind [PG]
def aK (P:Program) (f:FuncId) (ds:List D) (K:D->Prop):Prop :=
 ∀(c:Ctx) (w:World) (vals:Array Value),(∀n,c.h n=.free)->c.hp=w.heap->aA c->vals.size=ds.length ->
  (∀(i:Nat) (d:D),ds[i]?=some d->aB c d (vals.getD i Go.undef)) ->
  Calls P f vals w λ e w'=>∃(v:Value) (r:D),e=.returned v/\c.le ⟨c.ρ,c.X,c.h,w'.heap⟩/\WS w w'/\aB ⟨c.ρ,c.X,c.h,w'.heap⟩ r v/\r.M8=true/\K r
theorem aK.mono {P:Program}{f:FuncId}{ds:List D}{K K':D->Prop}(hk:∀r,K r->K' r) (hc:aK P f ds K):aK P f ds K':=by
 intro c w vals H hp hr hs G;refine(hc c w vals H hp hr hs G).mono ?_;grind
def D.flatc:D->Bool
 | .int _ _=>true
 | .bool _=>true
 | .str _=>true
 | .nil=>true
 | .nilfn=>true
 | .nilmap=>true
 | .nilp=>true
 | _=>false
def D.Ls:D->Bool
 | .agg cs=>cs.all D.flatc
 | d=>d.flatc
def D.flat:D->Bool
 | .tup ds=>ds.all D.Ls
 | d=>d.Ls
def VN (h:Heap) (ns:List Nat):Prop:=∀n∈ns,∃esz els,h n=.frz esz els
def vcdOp (P:Program) (op:AOp) (K:D->Prop) (e:LEnv) (h:Heap):Prop :=
 match op with
 | .bldS _ esz len zero parts=>OA len esz (parts.map λ p=>(p.1,p.2.get e))/\aad (parts.map λ p=>(p.1,p.2.get e))/\(∀y∈zero.cells,y.vone=true) /\
   K (.sl (setEls (List.replicate len zero) (parts.map λ p=>(p.1,p.2.get e))))
 | .call f args=>∃r,aK P f (args.map λ x=>(x.get e).fz h) (· = r)/\PG h (args.map (·.get e))/\(r.flat=true\/VN h (args.flatMap λ x=>(x.get e).nm))/\K r
 | .mk esz bytes zero len cap=>vint (len.get e) λ l=>vint (cap.get e) λ c=>(0<=l/\l<=c/\c*bytes<=140737488355328/\c<=9223372036854775807)/\(zero.cells.length=esz/\∀y∈zero.cells,y.vone=true)/\K (.sl (List.replicate l.toNat zero))
 | .fadd x off=>match x.get e with
  | .ptr n i j=>(h n).used=true/\K (.ptr n i (j+off))
  | .vp d j=>K (.vp d (j+off))
  | _=>False
 | .nilq neg x=>match x.get e with
  | .nil=>K (.bool (!neg))
  | .sl (_::_)=>K (.bool neg)
  | _=>False
 | op=>vcOp P op (λ d _=>K d) e h
def Arg.res (e:LEnv) (x:Arg):Arg:=.c (x.get e)
def AOp.res (e:LEnv):AOp->AOp
 | .mov x=>.mov (x.res e)
 | .pick c a b=>.pick (c.res e) (a.res e) (b.res e)
 | .bin op x y=>.bin op (x.res e) (y.res e)
 | .eqv n g ks x y=>.eqv n g ks (x.res e) (y.res e)
 | .un op x=>.un op (x.res e)
 | .conv k x=>.conv k (x.res e)
 | .ext x i=>.ext (x.res e) i
 | .fld x o n g=>.fld (x.res e) o n g
 | .bld z ps=>.bld z (ps.map λ p=>(p.1,p.2.1,p.2.2.res e))
 | .bldS fz n l z ps=>.bldS fz n l z (ps.map λ p=>(p.1,p.2.res e))
 | .len x=>.len (x.res e)
 | .slen x=>.slen (x.res e)
 | .fadd x o=>.fadd (x.res e) o
 | .iadd x i n=>.iadd (x.res e) (i.res e) n
 | .iadda x i l n=>.iadda (x.res e) (i.res e) l n
 | .sidx x i l n g=>.sidx (x.res e) (i.res e) l n g
 | .ld x n g=>.ld (x.res e) n g
 | .st x v n=>.st (x.res e) (v.res e) n
 | .alloc z=>.alloc z
 | .box x=>.box (x.res e)
 | .mk n b z l c=>.mk n b z (l.res e) (c.res e)
 | .mZ x lo hi m3 n=>.mZ (x.res e) (lo.map (·.res e)) (hi.map (·.res e)) (m3.map (·.res e)) n
 | .sslc x lo hi=>.sslc (x.res e) (lo.map (·.res e)) (hi.map (·.res e))
 | .slz x n=>.slz (x.res e) n
 | .SP x n=>.SP (x.res e) n
 | .b2s x=>.b2s (x.res e)
 | .mkc b x y=>.mkc b (x.res e) (y.res e)
 | .nilq b x=>.nilq b (x.res e)
 | .app s x n b z=>.app (s.res e) (x.res e) n b z
 | .Iy d s n=>.Iy (d.res e) (s.res e) n
 | .call f l=>.call f (l.map (·.res e))
 | .callv x l=>.callv (x.res e) (l.map (·.res e))
 | .mkf f a b=>.mkf f (a.map (·.res e)) (b.map (·.res e))
 | .mn x y=>.mn (x.res e) (y.res e)
 | .mx x y=>.mx (x.res e) (y.res e)
 | .mn3 x y z=>.mn3 (x.res e) (y.res e) (z.res e)
 | .mx3 x y z=>.mx3 (x.res e) (y.res e) (z.res e)
 | .KL kt=>.KL kt
 | .look kt x k z ok=>.look kt (x.res e) (k.res e) z ok
 | .mupd kt x k v=>.mupd kt (x.res e) (k.res e) (v.res e)
 | .dead=>.dead
theorem Nf {e:LEnv}{a:Option Arg}{n:Nat}{Q:Int->Prop}:vopt [] (a.map (·.res e)) n Q=vopt e a n Q:=by cases a<;>rfl
theorem Ih {e:LEnv}{l:List Arg}:(l.map (·.res e)).map (·.get [])=l.map (·.get e):=by rw[List.map_map];rfl
theorem rS {P:Program}{op:AOp}{K:HKq}{e:LEnv}{h:Heap}:vcOp P (op.res e) K [] h=vcOp P op K e h:=by
 cases op with
 | bld z ps=>simp only[AOp.res,vcOp,List.map_map];rfl
 | bldS fz n l z ps=>simp only[AOp.res,vcOp,List.map_map,List.flatMap_map];rfl
 | mZ x lo hi mx n=>simp only[AOp.res,vcOp,Nf];rfl
 | sslc x lo hi=>simp only[AOp.res,vcOp,Nf];rfl
 | call f l=>simp only[AOp.res,vcOp,Ih]
 | callv x l=>simp only[AOp.res,vcOp,Ih];rfl
 | mkf f a b=>simp only[AOp.res,vcOp,Ih]
 | _=>rfl
theorem Rn {P:Program}{op:AOp}{K:D->Prop}{e:LEnv}{h:Heap}:vcdOp P (op.res e) K [] h=vcdOp P op K e h:=by
 cases op with
 | bldS fz n l z ps=>simp only[AOp.res,vcdOp,List.map_map];rfl
 | call f l=>simp only[AOp.res,vcdOp,Ih,List.map_map,List.flatMap_map];rfl
 | fadd x o=>rfl
 | nilq b x=>rfl
 | mk n b z l c=>rfl
 | bld z ps=>exact rS (op:=.bld z ps) (K:=λ d _=>K d) (P:=P) (h:=h)
 | mZ x lo hi mx n=>exact rS (op:=.mZ x lo hi mx n) (K:=λ d _=>K d) (P:=P) (h:=h)
 | sslc x lo hi=>exact rS (op:=.sslc x lo hi) (K:=λ d _=>K d) (P:=P) (h:=h)
 | callv x l=>exact rS (op:=.callv x l) (K:=λ d _=>K d) (P:=P) (h:=h)
 | mkf f a b=>exact rS (op:=.mkf f a b) (K:=λ d _=>K d) (P:=P) (h:=h)
 | _=>rfl
def ab (P:Program) (op:AOp) (h:Heap) (K:HKq):Prop:=vcOp P op K [] h
def au (P:Program) (op:AOp) (h:Heap) (K:D->Prop):Prop:=vcdOp P op K [] h
def movOf:AOp->Option Arg
 | .mov x=>some x
 | _=>none
theorem Jl {op:AOp}{x:Arg}(h:movOf op=some x):op=.mov x:=by cases op<;>simp[movOf]at h<;>rw[h]
def vguard (x:D) (want:Bool) (A:(HKq)->Prop) (h:Heap) (K:HKq):Prop :=
 match gv x with
 | some b=>(b=some want->A K)/\(b≠some want->K gU h)
 | none=>False
def ai (x:D) (want:Bool) (A:(D->Prop)->Prop) (K:D->Prop):Prop :=
 match gv x with
 | some b=>(b=some want->A K)/\(b≠some want->K gU)
 | none=>False
def aD (a b:List D):Prop:=a=b
def vcdOper (P:Program) (o:AOper) (K:LEnv->Heap->Prop) (e:LEnv) (h:Heap):Prop :=
 match o.guard with
 | none=>match movOf o.op with
  | some x=>K (e.put o.dst (x.get e)) h
  | none=>au P (o.op.res e) h (λ d=>K (e.put o.dst d) h)
 | some (j,want)=>ai (e.get j) want (λ C=>au P (o.op.res e) h C) λ d=>K (e.put o.dst d) h
theorem Ni {P:Program}{op:AOp}{K:HKq}{e:LEnv}{h:Heap}:ab P (op.res e) h K=vcOp P op K e h:=rS
theorem IG {P:Program}{op:AOp}{K:D->Prop}{e:LEnv}{h:Heap}:au P (op.res e) h K=vcdOp P op K e h:=Rn
theorem tF {P:Program}{o:AOper}{K:LEnv->Heap->Prop}{e:LEnv}{h:Heap}:vcdOper P o K e h=match o.guard with
 | none=>vcdOp P o.op (λ d=>K (e.put o.dst d) h) e h
 | some (j,want)=>ai (e.get j) want (λ C=>vcdOp P o.op C e h) λ d=>K (e.put o.dst d) h:=by
 unfold vcdOper
 cases o.guard with
 | none =>
  simp only
  cases hm:movOf o.op with
  | some x=>rw[Jl hm];rfl
  | none=>simp only[IG]
 | some p=>simp only[IG]
def vcVals (P:Program):List AOper->(LEnv->Heap->Prop)->LEnv->Heap->Prop
 | [],K=>K
 | o::r,K=>vcdOper P o (vcVals P r K)
def wH (P:Program) (o:AOper) (K:LEnv->Heap->Prop) (e:LEnv) (h:Heap):Prop :=
 match o.guard with
 | none=>match movOf o.op with
  | some x=>K (e.put o.dst (x.get e)) h
  | none=>ab P (o.op.res e) h (λ d h'=>K (e.put o.dst d) h')
 | some (j,want)=>vguard (e.get j) want (λ C=>ab P (o.op.res e) h C) h λ d h'=>K (e.put o.dst d) h'
theorem gC {P:Program}{o:AOper}{K:LEnv->Heap->Prop}{e:LEnv}{h:Heap}:wH P o K e h=match o.guard with
 | none=>vcOp P o.op (λ d h'=>K (e.put o.dst d) h') e h
 | some (j,want)=>vguard (e.get j) want (λ C=>vcOp P o.op C e h) h λ d h'=>K (e.put o.dst d) h':=by
 unfold wH
 cases o.guard with
 | none =>
  simp only
  cases hm:movOf o.op with
  | some x=>rw[Jl hm];rfl
  | none=>simp only[Ni]
 | some p=>simp only[Ni]
def zC (P:Program):List AOper->(LEnv->Heap->Prop)->LEnv->Heap->Prop
 | [],K=>K
 | o::r,K=>wH P o (zC P r K)
def Gh (P:Program):List AOper->LEnv->Heap->Prop
 | [],_,_=>True
 | b::r,e,h=>(match b.dst with
  | some s=>au P (b.op.res e) h (λ d=>aD [d] [e.get s])
  | none=>True)/\Gh P r e h
def fx (P:Program) (rev:List AOper):List AOper->(LEnv->Heap->Prop)->LEnv->Heap->Prop
 | [],K=>K
 | o::r,K=>wH P o λ e h=>Gh P rev e h/\fx P rev r K e h
def vcTail (P:Program) (rev l:List AOper) (K:LEnv->Heap->Prop) (e:LEnv) (h:Heap):Prop :=
 match rev with
 | []=>zC P l K e h
 | b::r=>fx P (b::r) l K e h
def up (K:LEnv->Heap->Prop):Env->Heap->Prop:=λ t h=>∃e:LEnv,t=e.get/\K e h
def A6 (id:Nat) (K:Nat->Prop):List Nat->Prop
 | []=>False
 | i::r=>(id=i/\K i)\/A6 id K r
def E1 (K:Prop):List Nat->Prop
 | []=>False
 | i::r=>(i=1000000/\K)\/E1 K r
def rangeEnd (n:Nat) (exs:List Nat) (KN:Heap->Prop) (KE:Nat->Heap->Prop) (KR:Heap->Prop) (h:Heap):Prop :=
 match h n with
 | .lp .ready _=>KN (aF h n .dead)
 | .lp (.done (.exit id)) _=>A6 id (λ i=>KE i (aF h n .dead)) exs
 | .lp (.done .ret) _=>E1 (KR (aF h n .dead)) exs
 | _=>False
theorem wT {id:Nat}{K:Nat->Prop}:∀{l:List Nat},A6 id K l->K id
 | [],h=>h.elim
 | i::r,h=>by
  rcases h with⟨rfl,h⟩|h
  ·exact h
  ·exact wT h
theorem zF {K:Prop}:∀{l:List Nat},E1 K l->K
 | [],h=>h.elim
 | i::r,h=>by
  rcases h with⟨_,h⟩|h
  ·exact h
  ·exact zF h
abbrev LPost:=Ex->LEnv->Heap->Prop
def LPost.then (K:LEnv->Heap->Prop) (Q:LPost):LPost
 | .normal=>K
 | e=>Q e
def LPost.block (id:Nat) (Q:LPost):LPost
 | .exit id'=>λ t h=>if id'=id then Q .normal t h else Q (.exit id') t h
 | e=>Q e
def LPost.jump (l:Nat) (J:LEnv->Heap->Prop) (Q:LPost):LPost
 | .jump l'=>λ e h=>l'=l/\J e h
 | e=>Q e
def vcOpsX (P:Program):List AOper->(LEnv->Heap->Prop)->(LEnv->Heap->Prop)->LEnv->Heap->Prop
 | [],KN,_,e,h=>KN e h
 | o::r,KN,KP,e,h=>match o.op with
  | .call f args=>yG P f (args.map (·.get e)) h (λ d h'=>vcOpsX P r KN KP (e.put o.dst d) h') (λ h'=>KP e h')
  | op=>vcOp P op (λ d h'=>vcOpsX P r KN KP (e.put o.dst d) h') e h
def vcC (P:Program):ACode->LPost->LEnv->Heap->Prop
 | .skip,Q,e,h=>Q .normal e h
 | .seq a b,Q,e,h=>vcC P a (LPost.then (vcC P b Q) Q) e h
 | .seqj keep vars a b,Q,e,h=>∃J:HJq,(∀(f:Nat->D) h',J (vars.map f) h'->vcC P b Q (vars.map (λ v=>(v,f v))++keep.map (λ k=>(k,e.get k))) h') /\
   vcC P a (LPost.then (λ e' h'=>keep.map (LEnv.get e')=keep.map e.get/\J (vars.map (LEnv.get e')) h') Q) e h
 | .cond c a b,Q,e,h=>match c.get e with
  | .bool t=>(t=true->vcC P a Q e h)/\(t=false->vcC P b Q e h)
  | _=>False
 | .block id a,Q,e,h=>vcC P a (LPost.block id Q) e h
 | .exit id,Q,e,h=>Q (.exit id) e h
 | .ret,Q,e,h=>Q .ret e h
 | .loop keep vars a,Q,e,h=>∃(I:Nat->HJq) (n₀:Nat),I n₀ (vars.map e.get) h /\
   ∀n (f:Nat->D) h',I n (vars.map f) h' ->
    vcC P a (LPost.then (λ e' h''=>keep.map (LEnv.get e')=keep.map e.get/\∃m,m<n/\I m (vars.map (LEnv.get e')) h'') Q) (vars.map (λ v=>(v,f v))++keep.map (λ k=>(k,e.get k))) h'
 | .reg l,Q,e,h=>zC P l (Q .normal) e h
 | .dreg vals tail rev,Q,e,h=>vcVals P vals (λ e' h'=>vcTail P rev tail (Q .normal) e' h') e h
 | .range g ps keep exs a b,Q,e,h=>match g.get e with
  | .fn f fs cs=>fs=[]/\fF P f=true/\∀(n:Nat) (B:dT),qE h n->B.env=LEnv.get (keep.map λ k=>(k,e.get k))->B.ps=ps->ps.Nodup->(∀p∈ps,p<B.nt) ->
    (∀(Q:LPost) (e:LEnv) (h:Heap),vcC P a Q e h->sC P B.nt B.assign (λ x=>up (Q x)) e.get h) ->
    (∀(Q:LPost) (e:LEnv) (h:Heap),vcC P b Q e h->sC P B.nt B.body (λ x=>up (Q x)) e.get h) ->
    ag P f (.yld n::cs) (aF h n (.lp .ready B)) λ _ h' =>
     rangeEnd n exs (Q .normal (keep.map λ k=>(k,e.get k))) (λ i=>Q (.exit i) (keep.map λ k=>(k,e.get k))) (Q .ret (keep.map λ k=>(k,e.get k))) h'
  | _=>False
 | .frz a,Q,e,h=>∃ns:List Nat,vcC P a Q e (h.freezeAll ns)
 | .regx l,Q,e,h=>vcOpsX P l (Q .normal) (Q .pan) e h
 | .panr,Q,e,h=>∀e':LEnv,Q .pan e' h
 | .label _,Q,e,h=>Q .normal e h
 | .goto l,Q,e,h=>Q (.jump l) e h
 | .scope l keep vars a b,Q,e,h=>∃I:Nat->HJq,
   vcC P a (LPost.jump l (λ e' h'=>keep.map (LEnv.get e')=keep.map e.get/\∃m,I m (vars.map (LEnv.get e')) h') Q) e h /\
   ∀n (f:Nat->D) h',I n (vars.map f) h' ->
    vcC P b (LPost.jump l (λ e' h''=>keep.map (LEnv.get e')=keep.map e.get/\∃m,m<n/\I m (vars.map (LEnv.get e')) h'') Q) (vars.map (λ v=>(v,f v))++keep.map (λ k=>(k,e.get k))) h'
def ACode.after:ACode->Nat->Option ACode
 | .seq a b,l=>match a.after l with
  | some r=>some (.seq r b)
  | none=>b.after l
 | .seqj k v a b,l=>match a.after l with
  | some r=>some (.seqj k v r b)
  | none=>b.after l
 | .label l',l=>if l' == l then some .skip else none
 | _,_=>none
def ACode.label1:ACode->Option Nat
 | .seq a b|.seqj _ _ a b=>match a.label1 with
  | some l=>some l
  | none=>b.label1
 | .label l=>some l
 | _=>none
end Go.Am
namespace Go.Am
open Go
variable [ca]
variable {P:Program}{nt:Nat}
def D.ofVc:Value->Option D
 | .bool b=>some (.bool b)
 | .int k n=>some (.int k n)
 | .string s=>some (.str s)
 | .slice none 0 0=>some .nil
 | .nilFunc=>some .nilfn
 | .map none=>some .nilmap
 | .pointer none=>some .nilp
 | _=>none
def ofVs:List Value->Option (List D)
 | []=>some []
 | v::r=>(D.ofVc v).bind λ d=>(ofVs r).map (d :: ·)
def D.ofV:Value->Option D
 | .agg cs=>(ofVs cs.toList).map .agg
 | v=>D.ofVc v
theorem Jj {v:Value}{d:D}(h:D.ofVc v=some d) (c:Ctx):aB c d v/\d.vone=true:=by
 unfold D.ofVc at h;split at h<;>simp at h<;>subst h<;>exact⟨by constructor,rfl⟩
theorem Ji {vs:List Value}{ds:List D}(h:ofVs vs=some ds) (c:Ctx):ds.length=vs.length/\∀(i:Nat) (d:D),ds[i]?=some d->d.vone=true/\aB c d (vs.getD i Go.undef):=by
 induction vs generalizing ds with
 | nil=>grind [ofVs]
 | cons v r H =>
  simp only[ofVs]at h
  cases G:D.ofVc v with
  | none=>simp[G]at h
  | some d =>
   cases hr:ofVs r with
   | none=>simp[G,hr]at h
   | some I =>
    simp[G,hr]at h;subst h;obtain⟨h1,h2⟩:=H hr;refine⟨by simp[h1],λ i Q hd=>?_⟩;grind [Jj]
theorem aO (vs:Array Value) (i:Nat):vs.toList.getD i Go.undef=vs.getD i Go.undef:=by
 by_cases h:i<vs.size
 ·simp[Array.getD,h,List.getD]
 grind
theorem jA {v:Value}{d:D}(h:D.ofV v=some d) (c:Ctx):aB c d v:=by
 unfold D.ofV at h;split at h
 ·rename_i cs
  cases hc:ofVs cs.toList with
  | none=>simp[hc]at h
  | some ds =>
   simp[hc]at h;subst h;obtain⟨h1,h2⟩:=Ji hc c;exact .agg ds cs (by simpa using h1.symm) (λ i d hd=>D.kz (h2 i d hd).1) (λ i d hd=>by grind [aO])
 ·exact(Jj h c).1
theorem gW {v:Value}{d:D}(h:D.ofV v=some d):aL d:=by
 intro x hx;unfold D.ofV at h;split at h
 ·rename_i cs
  cases hc:ofVs cs.toList with
  | none=>simp[hc]at h
  | some ds =>
   simp[hc]at h;subst h;obtain⟨i,hi⟩:=ba hx;exact D.kz ((Ji hc ⟨λ _=>none,⟨λ _=>False,0,[]⟩,λ _=>.free, #[]⟩).2 i x hi).1
 ·have:=(Jj h ⟨λ _=>none,⟨λ _=>False,0,[]⟩,λ _=>.free, #[]⟩).2;cases d<;>simp_all [D.cells,D.vone,D.one]
def cArg:Operand->Option Arg
 | .tmp i=>some (.t i)
 | .const v=>(D.ofV v).map .c
 | .func f=>some (.c (.fn f [] []))
 | .global g=>match ca.tab g with
  | some vs=>(ofVs vs.toList).map λ ds=>.c (.vp (.agg ds) 0)
  | none=>none
theorem aJ {x:Operand}{y:Arg}(h:cArg x=some y){c:Ctx}{e:LEnv}{a:Act}(s:rM c nt e.get a):aB c (y.get e) (a.eval x):=by
 cases x with
 | tmp i=>simp[cArg]at h;subst h;exact s.rel i
 | const v =>
  simp only[cArg]at h
  cases G:D.ofV v with
  | none=>simp[G]at h
  | some d=>simp[G]at h;subst h;exact jA G c
 | func f=>simp[cArg]at h;subst h;exact .fn f [] [] #[] #[] rfl rfl (by simp) (by simp)
 | global g =>
  simp only[cArg]at h;split at h
  ·rename_i vs ht
   cases G:ofVs vs.toList with
   | none=>simp[G]at h
   | some ds =>
    simp[G]at h;subst h;obtain⟨h1,h2,h3⟩:=s.glob g _ ht;obtain⟨V,I⟩:=Ji G c
    have Q:∀(k:Nat) (d:D),(D.agg ds).cells[k]?=some d->k<vs.size:=by
     grind [D.cells]
    have:=aB.vp (c:=c) (.agg ds) 0 g 0 (λ k=>vs.getD k Go.undef) (λ k d hd=>D.kz (I k d hd).1) (λ k d hd=>by
     have H:=Q k d hd;rw[Nat.zero_add]
     exact h1 k _ (by simp[Array.getD,H])) h2 h3 (λ k d hd=>by rw[<- aO];exact(I k d hd).2)
    exact this
  ·cases h
theorem LEnv.bO (e:LEnv) (dst:Option Nat) (d:D):(e.put dst d).get=Env.put e.get dst d:=by
 cases dst with
 | none=>rfl
 | some j=>funext i;simp[LEnv.put,LEnv.get,Env.put,aF]
def fT (P:Program) (nt:Nat) (o:Oper) (op:AOp):Prop :=
 ∀(K:HKq) (e:LEnv) (h:Heap),vcOp P op K e h->OK P nt o (λ t' h'=>∃d,t'=(e.put o.dst d).get/\K d h') e.get h
theorem fT.pure {o:Oper}{op:AOp}(hd:∀i,o.dst=some i->i<nt)
  (hx:∀(K:HKq) (e:LEnv) (c:Ctx) (w:World) (a:Act),vcOp P op K e c.h->c.hp=w.heap->aA c->rM c nt e.get a ->
   ∃v d,(execOp a.eval o).run P w=.ok (.value v) w/\aB c d v/\K d c.h):fT P nt o op:=by
 intro K e h I H r c w a Q Z hp hr hs;subst Z;obtain⟨v,d,G,hrel,V⟩:=hx K e c w a I hp hr hs;refine kF H G ?_;exact Fin.here rfl hp hr (hs.put hd hrel) ⟨d,by rw[LEnv.bO],V⟩
theorem fT.unit {o:Oper}{op:AOp}(hx:∀(K:HKq) (e:LEnv) (c:Ctx) (w:World) (a:Act),vcOp P op K e c.h->c.hp=w.heap->aA c->rM c nt e.get a ->
   ∃v w' ρ h' d,(execOp a.eval o).run P w=.ok v w'/\(v=.skip/\o.dst=none\/∃x,v=.value x/\(∀i,o.dst=some i->i<nt)/\aB ⟨ρ,c.X,h',w'.heap⟩ d x) /\
    c.le ⟨ρ,c.X,h',w'.heap⟩/\aA ⟨ρ,c.X,h',w'.heap⟩/\WS w w'/\K d h'):fT P nt o op:=by
 intro K e h hv Z r c w a Q hh hp hr hs;subst hh;obtain⟨v,w',ρ,h',d,H,hrel,hle,I,G,hk⟩:=hx K e c w a hv hp hr hs;refine kF Z H ?_;rcases hrel with⟨rfl,V⟩|⟨x,rfl,hd,hx⟩
 ·refine⟨ρ,(e.put o.dst d).get,h',hle,I,G,?_,d,rfl,hk⟩;simp only[V,Act.put];exact hs.mono hle
 ·exact⟨ρ,_,h',hle,I,G,(hs.mono hle).put hd hx,d,by rw[LEnv.bO],hk⟩
theorem Yj {o:Oper}{x:Operand}{y:Arg}(ho:o.op=.move x\/o.op=.assign x) (hx:cArg x=some y) (hd:∀i,o.dst=some i->i<nt):fT P nt o (.mov y):=by
 refine fT.pure hd λ K e c w a G _ _ hs=>⟨a.eval x,y.get e,?_,aJ hx hs,G⟩
 unfold execOp;rcases ho with ho|ho<;>simp[ho]
theorem Zd {o:Oper}{x y z:Operand}{x' y' z':Arg}(ho:o.op=.pick x y z) (hx:cArg x=some x') (hy:cArg y=some y') (hz:cArg z=some z')
  (hd:∀i,o.dst=some i->i<nt):fT P nt o (.pick x' y' z'):=by
 refine fT.pure hd λ K e c w a G _ _ hs=>?_
 have rx:=aJ hx hs;have V:=aJ hy hs;have Q:=aJ hz hs;simp only[vcOp]at G;cases hg:x'.get e<;>simp only[hg]at G rx<;>try exact G.elim
 rename_i t;generalize H:a.eval x=I at rx;cases rx;refine⟨if t then a.eval y else a.eval z,_,?_,?_,G⟩
 ·simp[execOp,ho,H,asBool]
 grind
theorem abd {o:Oper}{op:BinOp}{t t':TypeId}{x y:Operand}{x' y':Arg}(ho:o.op=.binOp op t x y t') (hx:cArg x=some x') (hy:cArg y=some y')
  (hd:∀i,o.dst=some i->i<nt):fT P nt o (.bin op x' y'):=by
 refine fT.pure hd λ K e c w a G _ _ hs=>?_
 have rx:=aJ hx hs;have Z:=aJ hy hs;simp only[vcOp]at G;generalize a2:x'.get e=dx at G rx;generalize a1:y'.get e=dy at G Z;generalize I:a.eval x=vx at rx;generalize H:a.eval y=vy at Z;unfold vbin at G;cases dx<;>try exact G.elim
 ·rename_i k m;cases dy<;>try exact G.elim
  rename_i k' n;cases rx;cases Z;cases op<;>simp only at G
  case add=>obtain⟨rfl,G⟩:=G;refine⟨_,_,?_,.int _ _,G⟩;simp[execOp,ho,I,H,eqGuard,binOp,Op.intArith]
  case sub=>obtain⟨rfl,G⟩:=G;refine⟨_,_,?_,.int _ _,G⟩;simp[execOp,ho,I,H,eqGuard,binOp,Op.intArith]
  case mul=>obtain⟨rfl,G⟩:=G;refine⟨_,_,?_,.int _ _,G⟩;simp[execOp,ho,I,H,eqGuard,binOp,Op.intArith]
  case quo=>obtain⟨rfl,hne,G⟩:=G;refine⟨_,_,?_,.int _ _,G⟩;simp[execOp,ho,I,H,eqGuard,binOp,Op.intDiv,hne]
  case rem=>obtain⟨rfl,hne,G⟩:=G;refine⟨_,_,?_,.int _ _,G⟩;simp[execOp,ho,I,H,eqGuard,binOp,Op.intDiv,hne]
  case and=>obtain⟨rfl,G⟩:=G;refine⟨_,_,?_,.int _ _,G⟩;simp[execOp,ho,I,H,eqGuard,binOp,Op.intBits,ibits]
  case or=>obtain⟨rfl,G⟩:=G;refine⟨_,_,?_,.int _ _,G⟩;simp[execOp,ho,I,H,eqGuard,binOp,Op.intBits,ibits]
  case xor=>obtain⟨rfl,G⟩:=G;refine⟨_,_,?_,.int _ _,G⟩;simp[execOp,ho,I,H,eqGuard,binOp,Op.intBits,ibits]
  case andNot=>obtain⟨rfl,G⟩:=G;refine⟨_,_,?_,.int _ _,G⟩;simp[execOp,ho,I,H,eqGuard,binOp,Op.intBits,ibits]
  case shl=>obtain⟨Q,G⟩:=G;refine⟨_,_,?_,.int _ _,G⟩;simp[execOp,ho,I,H,eqGuard,binOp,Op.shift,ZB,show ¬n<0 by omega]
  case shr=>obtain⟨Q,G⟩:=G;refine⟨_,_,?_,.int _ _,G⟩;simp[execOp,ho,I,H,eqGuard,binOp,Op.shift,Jt,show ¬n<0 by omega]
  all_goals
   obtain⟨rfl,G⟩:=G;refine⟨_,_,?_,.bool _,G⟩;simp[execOp,ho,I,H,eqGuard,binOp,Op.intCmp]
   try (rw[Bool.eq_iff_iff];simp)
 ·rename_i s;cases dy<;>try exact G.elim
  rename_i s';cases rx;cases Z;cases op<;>simp only at G
  case add =>
   obtain⟨Q,G⟩:=G;refine⟨_,_,?_,.str _,G⟩
   have V:¬((s.size+s'.size:Nat):Int)>IntKind.i64.max:=by
    have:IntKind.i64.max=9223372036854775807:=by decide
    omega
   simp only[execOp,ho,I,H,eqGuard,binOp,Op.stringOp,if_neg V];rfl
  case eql=>refine⟨_,_,?_,.bool _,G⟩;simp[execOp,ho,I,H,eqGuard,binOp,Op.stringOp]
  case neq=>refine⟨_,_,?_,.bool _,G⟩;simp[execOp,ho,I,H,eqGuard,binOp,Op.stringOp]
  all_goals exact G.elim
theorem EY {t el:TypeId}(hu:P.underlying t=some (.slice el)) (p:Option Addr) (l k l' k':Nat) (w:World):∀n,(Op.equalIn (n+1) t (.slice p l k) (.slice none l' k')).run P w=.ok p.isNone w:=by
 intro n;cases p<;>simp[Op.equalIn,Sem.run_bind,Result.andThen,run_underlying hu]
theorem Ze (neg:Bool){o:Oper}{t t' el:TypeId}{x y:Operand}{x':Arg}(ho:o.op=.binOp (if neg then .neq else .eql) t x y t') (hx:cArg x=some x') (hy:cArg y=some (.c .nil))
  (hd:∀i,o.dst=some i->i<nt) (hu:P.underlying t=some (.slice el)):fT P nt o (.nilq neg x'):=by
 refine fT.pure hd λ K e c w a I _ _ hs=>?_
 have rx:=aJ hx hs;have Q:=aJ hy hs;simp only[vcOp]at I;generalize Z:x'.get e=dx at I rx;generalize H:a.eval x=vx at rx;generalize G:a.eval y=vy at Q;simp only[Arg.get]at Q;cases Q;cases dx<;>try exact I.elim
 ·cases rx;refine⟨_,_,?_,.bool _,I⟩;have he:=EY (P:=P) hu none 0 0 0 0 w 9999;cases neg
  ·simp only[execOp,ho,H,G,if_false,aC,eqGuard,binOp,Op.equal,Op.maxDepth];simp[he]
  ·simp only[execOp,ho,H,G,if_true,eqGuard,binOp,Op.equal,Op.maxDepth];simp[he]
 ·rename_i xs
  cases xs with
  | nil =>
   generalize hl:([]:List D)=l at rx
   cases rx with
   | sl _ b V cap esz f hne=>exact absurd hl.symm hne
   | iN p cap hm =>
    have he:=EY (P:=P) hu p 0 cap 0 0 w 9999;refine⟨_,.bool (p.isNone != neg),?_,.bool _,by cases (p.isNone != neg);exact I.2;exact I.1⟩;cases neg
    ·simp only[execOp,ho,H,G,if_false,aC,eqGuard,binOp,Op.equal,Op.maxDepth];simp[he]
    ·simp only[execOp,ho,H,G,if_true,eqGuard,binOp,Op.equal,Op.maxDepth];simp[he]
  | cons d r =>
   simp only at I;generalize hl:d::r=l at rx
   cases rx with
   | iN p cap hm=>cases hl
   | sl _ b V cap esz f hne hc hm he hlen hone hcell hown hrel =>
    refine⟨_,_,?_,.bool _,I⟩;have he:=EY (P:=P) hu (some ⟨b,V,none⟩) l.length cap 0 0 w 9999;cases neg
    ·simp only[execOp,ho,H,G,if_false,aC,eqGuard,binOp,Op.equal,Op.maxDepth];simp[he]
    ·simp only[execOp,ho,H,G,if_true,eqGuard,binOp,Op.equal,Op.maxDepth];simp[he]
end Go.Am
namespace Go.Am
open Go
variable [ca]
variable {P:Program}{nt:Nat}
def Mem (c:Ctx) (b o:Nat) (cs:List D):Prop :=
 ∀(k:Nat) (d:D),cs[k]?=some d->d.one=true/\∃v,cellOf c.hp b (o+k)=some v/\aB c d v
theorem Ub {c:Ctx}{d:D}{j:Nat}{v:Value}(h:aB c (.vp d j) v):∃b o,v=.pointer (some ⟨b,o+j,none⟩)/\Mem c b o d.cells:=by
 cases h with
 | vp e j b o f hone hcell hown hb hrel=>exact⟨b,o,rfl,λ k d hd=>⟨hone k d hd,f k,hcell k d hd,hrel k d hd⟩⟩
theorem dC {hp:Array Obj}{g:Nat}{cur:Array Value}{ty:TypeId}{fr:Nat×Nat}(hg:hp[g]?=some (.cells cur ty fr)){k:Nat}(hk:k<cur.size) :
  cellOf hp g k=some (cur.getD k Go.undef):=by
 simp[cellOf,hg,Array.getD,hk]
theorem Mk {c:Ctx}(hr:aA c){n i j:Nat}{d:D}(hn:c.h n=.box d){v:Value}(h:aB c (.ptr n i j) v) :
  ∃g,v=.pointer (some ⟨g,j,none⟩)/\i=0/\c.ρ n=some g/\Mem c g 0 d.cells:=by
 have hs:=hr.slot n;rw[hn]at hs;obtain⟨g,cur,ty,hρ,hg,hsz,H⟩:=hs
 cases h with
 | ptrDead _ _ _ _ _ hd=>rw[hn]at hd;cases hd
 | ptrRow _ _ _ Q esz els G _ _=>rw[hn]at G;cases G
 | ptrBox _ _ Q v' hb I =>
  grind [dC,Mem]
theorem fL {els:List D}{i j:Nat}{e d:D}(he:els[i]?=some e) (hd:e.cells[j]?=some d):aT els i j=some d:=by
 simp[aT,he,hd]
theorem Sq {els:List D}{esz i j:Nat}{e d:D}(hlen:∀e∈els,e.cells.length=esz) (he:els[i]?=some e) (hd:e.cells[j]?=some d):i*esz+j<els.length*esz:=by
 have hi:=(ar.1 he).1;have G:=(ar.1 hd).1;rw[hlen e (ak he)]at G
 calc i*esz+j<i*esz+esz:=by omega
  _=(i+1)*esz:=by rw[Nat.add_mul];omega
  _<=els.length*esz:=Nat.mul_le_mul_right _ hi
theorem Qn {c:Ctx}(hr:aA c){n esz:Nat}{els:List D}(hn:(c.h n).row=some (esz,els)) :
  0<esz/\(∀e∈els,e.cells.length=esz)/\mW els/\((c.ρ n=none/\els=[])\/∃(g:Nat) (cur:Array Value) (ty:TypeId) (fr:Nat×Nat),c.ρ n=some g/\c.hp[g]?=some (.cells cur ty fr) /\
   els.length*esz<=cur.size/\∀i j d,aT els i j=some d->aB c d (cur.getD (i*esz+j) Go.undef)):=by
 have hs:=hr.slot n
 cases hx:c.h n with
 | arr e l =>
  rw[hx]at hs hn;simp[Slot.row]at hn;obtain⟨rfl,rfl⟩:=hn;obtain⟨h1,h2,h3,h4⟩:=hs;grind
 | frz e l =>
  rw[hx]at hs hn;simp[Slot.row]at hn;obtain⟨rfl,rfl⟩:=hn;obtain⟨h1,h2,h3,h4⟩:=hs;grind
 | _=>grind [Slot.row]
theorem mem_row {c:Ctx}(hr:aA c){n i j esz:Nat}{els:List D}{d:D}(hn:(c.h n).row=some (esz,els)) (hd:els[i]?=some d){v:Value}(h:aB c (.ptr n i j) v) :
  ∃g,v=.pointer (some ⟨g,i*esz+j,none⟩)/\c.ρ n=some g/\Mem c g (i*esz) d.cells:=by
 obtain⟨_,hlen,hone,hm⟩:=Qn hr hn
 cases h with
 | ptrDead _ _ _ _ _ hx=>grind [Slot.row]
 | ptrBox _ _ g' v' hb _=>grind [Slot.row]
 | ptrRow _ _ _ g' Q V G H hi =>
  rw[hn]at G;simp at G;obtain⟨rfl,rfl⟩:=G;rcases hm with⟨hρ,_⟩|⟨g,cur,ty,fr,hρ,hg,hsz,I⟩
  ·rw[hρ]at H;cases H
  ·rw[hρ]at H;cases H;refine⟨_,rfl,hρ,λ k x hx=>?_⟩;have Z:=Sq hlen hd hx;exact⟨hone i k x (fL hd hx),_,dC hg (by omega),I i k x (fL hd hx)⟩
structure Kd (P:Program) (t:TypeId) (size:Nat) (agg:Bool):Prop where
 info:(P.info? t).map (·.size)=some size
 und:∃d,P.underlying t=some d/\agg=(match d with|.struct _=>true|.array _ _=>true|_=>false)
theorem run_typeInfo {t:TypeId}{i:TypeInfo}(h:P.info? t=some i) (w:World):(typeInfo t).run P w=.ok i w:=by
 unfold typeInfo program;simp[Sem.run,h]
theorem run_sizeOf {t:TypeId}{size:Nat}(h:(P.info? t).map (·.size)=some size) (w:World):(sizeOf t).run P w=.ok size w:=by
 cases hi:P.info? t with
 | none=>simp[hi]at h
 | some i =>
  simp[hi]at h;unfold sizeOf;simp[run_typeInfo hi,h]
theorem K6 {t:TypeId}{size:Nat}{agg:Bool}(h:Kd P t size agg) (w:World):(isAgg t).run P w=.ok agg w:=by
 obtain⟨d,hd,ha⟩:=h.und;unfold isAgg;simp only[Sem.run_bind,run_underlying hd];subst ha;cases d<;>rfl
theorem KI {w:World}{b o:Nat}{v:Value}(h:cellOf w.heap b o=some v):(load ⟨b,o,none⟩).run P w=.ok v w:=by
 grind [pD,load,Sem.run]
theorem gF {α:Type}(cs:List α) (off size i:Nat):((cs.drop off).take size)[i]?=if i<size then cs[off+i]? else none:=by
 grind
theorem uB {c:Ctx}{w:World}(hp:c.hp=w.heap){b o j size:Nat}{agg:Bool}{cs:List D}(hm:Mem c b o cs){t:TypeId}(ht:Kd P t size agg){K:D->Prop}
  (hv:vpart cs j size agg K):∃v d,(loadVar t ⟨b,o+j,none⟩).run P w=.ok v w/\aB c d v/\K d:=by
 unfold vpart at hv;unfold loadVar;simp only[Sem.run_bind,K6 ht]
 cases agg with
 | true =>
  simp only[if_true]at hv;obtain⟨hlen,V⟩:=hv
  let vs:List Value:=(List.range size).map λ k=>(cellOf w.heap b (o+(j+k))).getD Go.undef
  have H:vs.length=size:=by simp[vs]
  have I:∀k,k<size->∃d,cs[j+k]?=some d/\vs[k]?=some ((cellOf w.heap b (o+(j+k))).getD Go.undef):=by
   intro k V;exact⟨cs[j+k],by grind,by simp[vs,V]⟩
  have hcell:∀(k:Nat) (v:Value),vs[k]?=some v->w.cell? ((⟨b,o+j,none⟩:Addr).add k)=some v:=by
   grind [Addr.add_lit,pD,Mem]
  have G:=run_loadCells_list (P:=P) (w:=w) ⟨b,o+j,none⟩ vs hcell;rw[H]at G;refine⟨.agg vs.toArray,.agg ((cs.drop j).take size),?_,?_,V⟩
  ·simp[Result.andThen,run_sizeOf ht.info,G]
  ·refine .agg _ _ (by simp[H];omega) ?_ ?_
   ·intro i d hd;rw[gF]at hd;split at hd
    ·exact(hm _ _ hd).1
    ·cases hd
   ·intro i d hd;rw[gF]at hd;split at hd
    ·rename_i hi;obtain⟨d',Z,Q⟩:=I i hi;obtain⟨_,u,hu,hrel⟩:=hm (j+i) d hd;rw[hp]at hu
     have:vs.toArray.getD i Go.undef=u:=by
      rw[<- aO];simp[List.getD,Q,hu]
     grind
    ·cases hd
 | false =>
  grind [Result.andThen,KI,Mem]
end Go.Am
namespace Go.Am
open Go
variable [ca]
variable {P:Program}{nt:Nat}
theorem fA {c:Ctx}{k:IntKind}{n:Int}{v:Value}(h:aB c (.int k n) v):v=.int k n:=by cases h;rfl
theorem wS {c:Ctx}{b:Bool}{v:Value}(h:aB c (.bool b) v):v=.bool b:=by cases h;rfl
theorem Cn {c:Ctx}{s:ByteArray}{v:Value}(h:aB c (.str s) v):v=.string s:=by cases h;rfl
theorem ac1 {o:Oper}{op:UnOp}{t:TypeId}{x:Operand}{x':Arg}(ho:o.op=.unOp op t x) (hx:cArg x=some x') (hd:∀i,o.dst=some i->i<nt):fT P nt o (.un op x'):=by
 refine fT.pure hd λ K e c w a G _ _ hs=>?_
 have rx:=aJ hx hs;simp only[vcOp]at G;generalize I:x'.get e=V at G rx;generalize H:a.eval x=Q at rx;unfold vun at G;split at G
 ·cases rx;exact⟨_,_,by simp only[execOp,ho,H,Op.unary,Op.intArith];rfl,.int _ _,G⟩
 ·cases rx;exact⟨_,_,by simp only[execOp,ho,H,Op.unary,Op.intBits];rfl,.int _ _,G⟩
 ·cases rx;exact⟨_,_,by simp only[execOp,ho,H,Op.unary];rfl,.bool _,G⟩
 ·exact G.elim
theorem Zj {o:Oper}{src dst:TypeId}{x:Operand}{x':Arg}{ds:TypeDesc}{k:IntKind}(ho:o.op=.convert src dst x) (hx:cArg x=some x') (hd:∀i,o.dst=some i->i<nt)
  (hsrc:P.underlying src=some ds) (hdst:P.underlying dst=some (.int k)):fT P nt o (.conv k x'):=by
 refine fT.pure hd λ K e c w a G _ _ hs=>?_
 have rx:=aJ hx hs;simp only[vcOp]at G;generalize I:x'.get e=V at G rx;generalize H:a.eval x=Q at rx;unfold vint at G;split at G
 ·cases rx;refine⟨_,_,?_,.int _ _,G⟩;simp[execOp,ho,H,convert,Sem.run_bind,run_underlying hsrc,run_underlying hdst,Conv.intToInt,Result.andThen]
 ·exact G.elim
theorem aa8 {o:Oper}{x:Operand}{x':Arg}{i:Nat}(ho:o.op=.extract x i) (hx:cArg x=some x') (hd:∀i,o.dst=some i->i<nt):fT P nt o (.ext x' i):=by
 refine fT.pure hd λ K e c w a H _ _ hs=>?_
 have rx:=aJ hx hs;simp only[vcOp]at H;generalize Q:x'.get e=V at H rx;generalize I:a.eval x=Z at rx;cases V<;>try exact H.elim
 rename_i ds
 cases G:ds[i]? with
 | none=>simp[G]at H
 | some d =>
  simp only[G]at H
  cases rx with
  | tup _ vs hsz hrel =>
   have hi:i<vs.size:=by grind
   refine⟨vs.getD i Go.undef,d,?_,hrel i d G,H⟩;simp[execOp,ho,I,Instr.extract,hi,Array.getD]
theorem Ck {c:Ctx}{w:World}{cs:List D}{vs:Array Value}(hsz:vs.size=cs.length) (hone:∀(i:Nat) (d:D),cs[i]?=some d->d.one=true)
  (hrel:∀(i:Nat) (d:D),cs[i]?=some d->aB c d (vs.getD i Go.undef)) {t:TypeId}{off size:Nat}{agg:Bool}(ht:Kd P t size agg) {K:D->Prop}
  (hv:vpart cs off size agg K):∃v d,(part t vs off).run P w=.ok v w/\aB c d v/\K d:=by
 unfold vpart at hv;unfold part;simp only[Sem.run_bind,K6 ht]
 cases agg with
 | true =>
  simp only[if_true]at hv;obtain⟨hlen,H⟩:=hv;refine⟨.agg (vs.extract off (off+size)),.agg ((cs.drop off).take size),by simp[Result.andThen,run_sizeOf ht.info],?_,H⟩;refine .agg _ _ (by simp;omega) ?_ ?_
  ·grind
  ·intro i d hd;rw[gF]at hd;split at hd
   ·rename_i hi;have h1:=hrel _ _ hd;have G:=(ar.1 hd).1
    have:(vs.extract off (off+size)).getD i Go.undef=vs.getD (off+i) Go.undef:=by
     simp[Array.getD,show i<min (off+size) vs.size-off by omega,show off+i<vs.size by omega]
    rw[this];exact h1
   ·cases hd
 | false =>
  simp only[aC,if_false]at hv
  cases hd:cs[off]? with
  | none=>simp[hd]at hv
  | some d =>
   simp only[hd]at hv;have G:=(ar.1 hd).1;refine⟨vs.getD off Go.undef,d,?_,hrel _ _ hd,hv⟩;simp[Result.andThen,show off<vs.size by omega,Array.getD]
theorem aa7 {o:Oper}{t:TypeId}{x:Operand}{x':Arg}{f:Nat}{fs:Array Field}{fd:Field}{size:Nat}{agg:Bool}(ho:o.op=.field t x f) (hx:cArg x=some x')
  (hd:∀i,o.dst=some i->i<nt) (hu:P.underlying t=some (.struct fs)) (hf:fs[f]?=some fd) (ht:Kd P fd.type size agg):fT P nt o (.fld x' fd.offset size agg):=by
 refine fT.pure hd λ K e c w a G _ _ hs=>?_
 have rx:=aJ hx hs;simp only[vcOp]at G;generalize I:x'.get e=Q at G rx;generalize H:a.eval x=V at rx;cases Q<;>try exact G.elim
 rename_i cs
 cases rx with
 | agg _ vs hsz hone hrel =>
  obtain⟨v,d,h1,h2,h3⟩:=Ck (P:=P) (w:=w) hsz hone hrel ht G;refine⟨v,d,?_,h2,h3⟩;simp[execOp,ho,H,Instr.field,Sem.run_bind,run_underlying hu,hf,asAgg,Result.andThen,h1]
theorem ac4 {o:Oper}{t:TypeId}{x:Operand}{x':Arg}{size:Nat}{agg:Bool}(ho:o.op=.load t x) (hx:cArg x=some x')
  (hd:∀i,o.dst=some i->i<nt) (ht:Kd P t size agg):fT P nt o (.ld x' size agg):=by
 refine fT.pure hd λ K e c w a G hp hr hs=>?_
 have rx:=aJ hx hs;simp only[vcOp]at G
 have fin:∀(b I j:Nat) (cs:List D),a.eval x=.pointer (some ⟨b,I+j,none⟩)->Mem c b I cs->vpart cs j size agg (K · c.h) ->
   ∃v d,(execOp a.eval o).run P w=.ok (.value v) w/\aB c d v/\K d c.h:=by
  intro b I j cs he hm G;obtain⟨v,d,h1,h2,h3⟩:=uB (P:=P) hp hm ht G;refine⟨v,d,?_,h2,h3⟩;simp[execOp,ho,he,Instr.loadAt,Instr.sureAddr,Result.andThen,h1]
 generalize Q:x'.get e=V at G rx;cases V<;>try exact G.elim
 ·rename_i n i j;cases hn:c.h n<;>simp only[hn]at G<;>try exact G.elim
  ·grind [Mk]
  ·obtain⟨hi,G⟩:=G;rename_i esz els;have H:els[i]?=some els[i]:=by simp[hi]
   obtain⟨g,he,_,hm⟩:=mem_row hr (by rw[hn];rfl) H rx;grind
  ·obtain⟨hi,G⟩:=G;rename_i esz els;have H:els[i]?=some els[i]:=by simp[hi]
   obtain⟨g,he,_,hm⟩:=mem_row hr (by rw[hn];rfl) H rx;grind
 grind [Ub]
theorem Uj {c:Ctx}{n i j:Nat}{v:Value}(hl:(c.h n).live=true) (h:aB c (.ptr n i j) v) :
  ∃b q,v=.pointer (some ⟨b,q+j,none⟩)/\∀k,aB c (.ptr n i k) (.pointer (some ⟨b,q+k,none⟩)):=by
 cases h with
 | ptrDead _ _ _ _ _ hd=>rw[hd]at hl;cases hl
 | ptrBox _ _ g d hb hρ=>exact⟨g,0,by simp,λ k=>by rw[Nat.zero_add];exact .ptrBox n k g d hb hρ⟩
 | ptrRow _ _ _ g esz els G hρ hi=>exact⟨g,i*esz,rfl,λ k=>.ptrRow n i k g esz els G hρ hi⟩
theorem Np {c:Ctx}{n i j:Nat}{v:Value}(hl:(c.h n).used=true) (h:aB c (.ptr n i j) v) :
  ∃b q,v=.pointer (some ⟨b,q,none⟩)/\∀k,aB c (.ptr n i (j+k)) (.pointer (some ⟨b,q+k,none⟩)):=by
 cases h with
 | ptrDead _ _ _ b o hd=>exact⟨b,o,rfl,λ k=>.ptrDead n i (j+k) b (o+k) hd⟩
 | ptrBox _ _ g d hb hρ=>exact⟨g,j,rfl,λ k=>.ptrBox n (j+k) g d hb hρ⟩
 | ptrRow _ _ _ g esz els G hρ hi=>exact⟨g,i*esz+j,rfl,λ k=>by rw[Nat.add_assoc];exact .ptrRow n i (j+k) g esz els G hρ hi⟩
theorem LY {c:Ctx}{d:D}{j:Nat}{v:Value}(h:aB c (.vp d j) v):∃b q,v=.pointer (some ⟨b,q+j,none⟩)/\∀k,aB c (.vp d k) (.pointer (some ⟨b,q+k,none⟩)):=by
 cases h with
 | vp e j b o f hone hcell hown hb hrel=>exact⟨b,o,rfl,λ k=>.vp d k b o f hone hcell hown hb hrel⟩
theorem Zi {o:Oper}{t:TypeId}{x:Operand}{x':Arg}{f:Nat}{fs:Array Field}{fd:Field}{size:Nat}(ho:o.op=.fieldAddr t x f) (hx:cArg x=some x')
  (hd:∀i,o.dst=some i->i<nt) (hu:P.underlying t=some (.struct fs)) (hf:fs[f]?=some fd) (ht:(P.info? fd.type).map (·.size)=some size) (hne:size≠0):fT P nt o (.fadd x' fd.offset):=by
 refine fT.pure hd λ K e c w a G hp hr hs=>?_
 have rx:=aJ hx hs;simp only[vcOp]at G
 have fin:∀(b q:Nat),a.eval x=.pointer (some ⟨b,q,none⟩)->(execOp a.eval o).run P w=.ok (.value (.pointer (some ⟨b,q+fd.offset,none⟩))) w:=by
  intro b q he;simp[execOp,ho,he,Instr.fieldAt,Instr.sureAddr,Sem.run_bind,Result.andThen,run_underlying hu,hf,fieldPlace,run_sizeOf ht,hne,Addr.add_lit,Nat.add_assoc]
 grind [Np,LY]
theorem Zf {o:Oper}{x:Operand}{x':Arg}(ho:o.op=.nilCheck x) (hx:cArg x=some x') (hd:∀i,o.dst=some i->i<nt):fT P nt o (.fadd x' 0):=by
 refine fT.pure hd λ K e c w a G hp hr hs=>?_
 have rx:=aJ hx hs;simp only[vcOp]at G
 have fin:∀(b q:Nat),a.eval x=.pointer (some ⟨b,q,none⟩)->(execOp a.eval o).run P w=.ok (.value (.pointer (some ⟨b,q+0,none⟩))) w:=by
  intro b q he;simp[execOp,ho,he]
 grind [Np,LY]
theorem Wm {o:Oper}{t elem:TypeId}{x i:Operand}{x' i':Arg}{len esz:Nat}(ho:o.op=.indexAddr t x i) (hx:cArg x=some x') (hi:cArg i=some i')
  (hd:∀i,o.dst=some i->i<nt) (hu:P.underlying t=some (.array len elem)) (ht:(P.info? elem).map (·.size)=some esz):fT P nt o (.iadda x' i' len esz):=by
 refine fT.pure hd λ K e c w a G hp hr hs=>?_
 have rx:=aJ hx hs;have H:=aJ hi hs;simp only[vcOp]at G;generalize Q:i'.get e=Z at G H;generalize I:a.eval i=V at H;unfold vint at G;split at G
 case h_2=>exact G.elim
 rename_i k n;cases H;obtain⟨h0,h1,G⟩:=G
 have fin:∀(b q j:Nat),a.eval x=.pointer (some ⟨b,q+j,none⟩)->(execOp a.eval o).run P w=.ok (.value (.pointer (some ⟨b,q+(j+n.toNat*esz),none⟩))) w:=by
  intro b q j he;have hc:(0<=n/\n<(len:Int)):=⟨h0,h1⟩;simp[execOp,ho,he,I,Instr.indexAt,Instr.sureAddr,asIntOf,Sem.run_bind,Result.andThen,run_underlying hu,run_sizeOf ht,Addr.add_lit,Nat.add_assoc,hc]
 grind [Uj,LY]
theorem aaX {c:Ctx}{xs:List D}{v:Value}(h:aB c (.sl xs) v){i:Nat}{d:D}(hd:xs[i]?=some d) :
  ∃b o cap,v=.slice (some ⟨b,o,none⟩) xs.length cap/\aB c (.vp d 0) (.pointer (some ⟨b,o+i*d.cells.length,none⟩)):=by
 cases h with
 | iN p cap hm=>simp at hd
 | sl _ b o cap esz f hne hc hm he hlen hone hcell hown hrel =>
  have hl:=hlen d (ak hd);refine⟨b,o,cap,rfl,?_⟩;rw[hl]
  have hb:b<c.hp.size:=by
   cases G:d.cells with
   | nil=>grind
   | cons y ys=>exact FB (hcell i 0 y (fL hd (by simp[G])))
  refine aB.vp d 0 b (o+i*esz) (f i) (λ k x hx=>D.kz (hone i k x (fL hd hx))) (λ k x hx=>?_) hown hb (λ k x hx=>hrel i k x (fL hd hx));grind [fL]
theorem Zh {o:Oper}{t elem:TypeId}{x i:Operand}{x' i':Arg}{esz:Nat}(ho:o.op=.indexAddr t x i) (hx:cArg x=some x') (hi:cArg i=some i')
  (hd:∀i,o.dst=some i->i<nt) (hu:P.underlying t=some (.slice elem)) (ht:(P.info? elem).map (·.size)=some esz):fT P nt o (.iadd x' i' esz):=by
 refine fT.pure hd λ K e c w a H hp hr hs=>?_
 have rx:=aJ hx hs;have Q:=aJ hi hs;simp only[vcOp]at H;generalize b1:i'.get e=di at H Q;generalize Z:a.eval i=vi at Q;unfold vint at H;split at H
 case h_2=>exact H.elim
 rename_i k n;cases Q
 have fin:∀(b q len cap:Nat),0<=n->n<len->a.eval x=.slice (some ⟨b,q,none⟩) len cap->(execOp a.eval o).run P w=.ok (.value (.pointer (some ⟨b,q+n.toNat*esz,none⟩))) w:=by
  intro b q len cap h0 h1 he;have hc:(0<=n/\n<(len:Int)):=⟨h0,h1⟩;simp[execOp,ho,he,Z,Instr.indexAt,asIntOf,Sem.run_bind,Result.andThen,run_underlying hu,run_sizeOf ht,Addr.add_lit,hc]
 generalize a8:x'.get e=dx at H rx;cases dx<;>try exact H.elim
 ·rename_i xs;obtain⟨h0,h1,H⟩:=H;have a1:n.toNat<xs.length:=by omega
  have a2:xs[n.toNat]?=some xs[n.toNat]:=by simp[a1]
  grind [aaX]
 ·rename_i m off len;obtain⟨h0,h1,⟨els,I⟩,hk⟩:=H;generalize V:a.eval x=vx at rx
  cases rx with
  | msDead _ _ _ _ _ _ a2=>grind [Slot.row]
  | msNil _ _ _ _ _=>exact absurd h1 (by omega)
  | msE _ _ _ _ _ _=>exact absurd h1 (by omega)
  | ms _ _ _ g a6 cap a7 cur ty fr G hρ hl hg hsz hc hm =>
   rw[I]at G;simp at G;obtain⟨rfl,rfl⟩:=G;refine⟨_,_,fin g _ _ _ h0 h1 V,?_,hk⟩;have:=aB.ptrRow (c:=c) m (off+n.toNat) 0 g esz els I hρ (by omega);grind
end Go.Am
namespace Go.Am
open Go
variable [ca]
variable {P:Program}{nt:Nat}
theorem Qq {c:Ctx}{d:D}{v:Value}(h:aB c d v) (h1:d.one=true):v.cells = #[v]/\v.oneCell'=true:=by
 cases h<;>first|exact⟨rfl,rfl⟩|(simp[D.one]at h1;done)
structure gB (c:Ctx) (ds:List D) (vs:List Value):Prop where
 len:vs.length=ds.length
 rel:∀(i:Nat) (d:D),ds[i]?=some d->d.one=true/\aB c d (vs.getD i Go.undef)
theorem dE {c:Ctx}{d:D}{v:Value}(h:aB c d v) (h1:aL d):gB c d.cells v.cells.toList:=by
 by_cases ha:d.one=true
 ·have:d.cells=[d]:=by cases d<;>simp_all [D.one,D.cells]
  obtain⟨G,_⟩:=Qq h ha;rw[this,G];refine⟨rfl,λ i x hx=>?_⟩;grind
 ·cases d with
  | agg cs =>
   cases h with
   | agg _ vs hsz hone hrel =>
    exact⟨by grind [Value.cells,D.cells],λ i x hx=>⟨hone i x hx,by rw[show Value.cells (.agg vs)=vs from rfl,aO];exact hrel i x hx⟩⟩
  | tup ds=>exact absurd (h1 (.tup ds) (by simp[D.cells])) (by simp[D.one])
  | undef=>exact absurd (h1 .undef (by simp[D.cells])) (by simp[D.one])
  | _=>simp[D.one]at ha
theorem gB.Wz {c:Ctx}{ds:List D}{vs:List Value}(h:gB c ds vs):∀v∈vs,v.oneCell'=true:=by
 intro v H;obtain⟨i,hi⟩:=ba H;have G:i<ds.length:=by rw[<- h.len];grind
 obtain⟨h1,h2⟩:=h.rel i ds[i] (by simp[G]);have:vs.getD i Go.undef=v:=by simp[List.getD,hi]
 rw[this]at h2;exact(Qq h2 h1).2
theorem gB.mono {c c':Ctx}(hle:c.le c'){ds:List D}{vs:List Value}(h:gB c ds vs):gB c' ds vs :=
 ⟨h.len,λ i d hd=>⟨(h.rel i d hd).1,(h.rel i d hd).2.mono hle⟩⟩
theorem gB.append {c:Ctx}{ds es:List D}{vs us:List Value}(h:gB c ds vs) (k:gB c es us):gB c (ds++es) (vs++us):=by
 refine⟨by simp[h.len,k.len],λ i d hd=>?_⟩;by_cases hi:i<ds.length
 ·rw[List.getElem?_append_left hi]at hd;have:(vs++us).getD i Go.undef=vs.getD i Go.undef:=by simp[List.getD,List.getElem?_append_left (show i<vs.length by rw[h.len];exact hi)]
  rw[this];exact h.rel i d hd
 ·rw[List.getElem?_append_right (by omega)]at hd
  have:(vs++us).getD i Go.undef=us.getD (i-ds.length) Go.undef:=by
   simp[List.getD,List.getElem?_append_right (show vs.length<=i by rw[h.len];omega),h.len]
  rw[this];exact k.rel _ d hd
theorem gB.take {c:Ctx}{ds:List D}{vs:List Value}(h:gB c ds vs) (n:Nat):gB c (ds.take n) (vs.take n):=by
 refine⟨by simp[h.len],λ i d hd=>?_⟩;rw[List.getElem?_take]at hd;split at hd
 ·rename_i hi;have:(vs.take n).getD i Go.undef=vs.getD i Go.undef:=by simp[List.getD,hi]
  rw[this];exact h.rel i d hd
 ·cases hd
theorem gB.drop {c:Ctx}{ds:List D}{vs:List Value}(h:gB c ds vs) (n:Nat):gB c (ds.drop n) (vs.drop n):=by
 refine⟨by simp[h.len],λ i d hd=>?_⟩;rw[List.getElem?_drop]at hd;have:(vs.drop n).getD i Go.undef=vs.getD (n+i) Go.undef:=by grind
 rw[this];exact h.rel _ d hd
theorem Ux (cells:List Value):∀(new:List Value) (off k:Nat) (cs:Array Value),cs.toList=cells->off+k+new.length<=cells.length ->
  (List.foldl (λ(cs:Array Value) (p:Value×Nat)=>cs.setIfInBounds (off+p.2) p.1) cs (new.zipIdx k)).toList=cells.take (off+k)++new++cells.drop (off+k+new.length):=by
 intro new
 induction new generalizing cells with
 | nil=>intro off k cs hc _;simp[hc]
 | cons v r G =>
  intro off k cs hc hl;simp only[List.zipIdx_cons,List.foldl_cons];simp only[List.length_cons]at hl;rw[G (cells.set (off+k) v) off (k+1) _ (by simp[hc]) (by simp;omega)];grind [List.take_succ_eq_append_getElem,List.take_set_of_le,List.drop_set_of_lt]
theorem Jz {c:Ctx}(place:Nat->Option (Nat×Nat)):∀(ps:List (Nat×Value)) (parts:List (Nat×Nat×List D)) (cells:Array Value) (ds:List D),gB c ds cells.toList ->
  ps.length=parts.length ->
  (∀(i:Nat) (p:Nat×Value) (q:Nat×Nat×List D),ps[i]?=some p->parts[i]?=some q->place p.1=some (q.1,q.2.1)/\gB c q.2.2 p.2.cells.toList/\q.2.2.length=q.2.1/\q.1+q.2.1<=ds.length) ->
  ∃cells',Instr.fill place cells ps=some cells'/\gB c (fillD ds parts) cells'.toList/\(fillD ds parts).length=ds.length:=by
 intro ps
 induction ps with
 | nil =>
  intro parts cells ds h hl _
  cases parts with
  | nil=>exact⟨cells,rfl,h,rfl⟩
  | cons a b=>simp at hl
 | cons p r Z =>
  intro parts cells ds h hl G
  cases parts with
  | nil=>simp at hl
  | cons q s =>
   obtain⟨h1,h2,h3,h4⟩:=G 0 p q (by simp) (by simp);obtain⟨off,size,cs⟩:=q;simp only at h1 h2 h3 h4;have hsz:p.2.cells.size=size:=by rw[<- h3, <- h2.len];simp
   have I:cells.toList.length=ds.length:=h.len;have a1:cells.size=ds.length:=by simpa using I
   let new:=p.2.cells.zipIdx.foldl (λ(cs:Array Value) (x:Value×Nat)=>cs.setIfInBounds (off+x.2) x.1) cells
   have H:new.toList=cells.toList.take off++p.2.cells.toList++cells.toList.drop (off+size):=by
    have:=Ux cells.toList p.2.cells.toList off 0 cells rfl (by simp;omega);simp only[Nat.add_zero,Array.length_toList,hsz]at this;rw[<- this];simp only[new];rw[<- Array.foldl_toList];simp
   have hrel:gB c (ds.take off++cs++ds.drop (off+size)) new.toList:=by
    rw[H];exact((h.take off).append h2).append (h.drop _)
   have hlen:(ds.take off++cs++ds.drop (off+size)).length=ds.length:=by simp[h3];omega
   obtain⟨cells',g1,g2,g3⟩:=Z s new _ hrel (by simpa using hl) (λ i V Q hp hq=>by
    have:=G (i+1) V Q (by simpa using hp) (by simpa using hq);rw[hlen]
    exact this)
   grind [fillD,Instr.fill]
end Go.Am
namespace Go.Am
open Go
variable [ca]
variable {P:Program}{nt:Nat}
theorem exec_builtin {o:Oper}{b:Builtin}{args:Array Operand}{ats:Array TypeId}(ho:o.op=.call { callee:=.builtin b,args:=args,argTypes:=ats }) (ρ:Operand->Value) (w:World) :
  (execOp ρ o).run P w=(builtin b ats o.type (args.map λ|.const _=>true|_=>false) (args.map ρ)).run P w:=by
 grind [execOp,resolve,invoke]
theorem KJ {c:Ctx}{x:D}{v:Value}(h:aB c x v){K:D->Prop}(hv:aM x c.h K):∃p l cap,v=.slice p l cap/\K (.int .i64 (l:Nat)):=by
 unfold aM at hv;cases h<;>try exact hv.elim
 ·exact⟨_,_,_,rfl,hv⟩
 ·exact⟨_,_,_,rfl,hv⟩
 ·exact⟨_,_,_,rfl,hv⟩
 ·grind [Slot.live]
 ·grind
 ·grind
 grind
theorem aa6 {o:Oper}{t e:TypeId}{x:Operand}{x':Arg}(ho:o.op=.call { callee:=.builtin .len,args:= #[x],argTypes:= #[t] }) (hx:cArg x=some x')
  (hd:∀i,o.dst=some i->i<nt) (hu:P.underlying t=some (.slice e)):fT P nt o (.len x'):=by
 refine fT.pure hd λ K e c w a G hp hr hs=>?_
 have rx:=aJ hx hs;simp only[vcOp]at G;obtain⟨p,l,cap,he,H⟩:=KJ rx G;refine⟨_,_,?_,.int _ _,H⟩;rw[exec_builtin ho];simp[builtin,Builtin.len_,he,Sem.run_bind,run_underlying hu,Result.andThen,goInt]
theorem Zb {o:Oper}{t:TypeId}{x:Operand}{x':Arg}(ho:o.op=.call { callee:=.builtin .len,args:= #[x],argTypes:= #[t] }) (hx:cArg x=some x')
  (hd:∀i,o.dst=some i->i<nt) (hu:P.underlying t=some .string):fT P nt o (.slen x'):=by
 refine fT.pure hd λ K e c w a G hp hr hs=>?_
 have rx:=aJ hx hs;simp only[vcOp]at G;generalize H:x'.get e=I at G rx;cases I<;>try exact G.elim
 have he:=Cn rx;refine⟨_,_,?_,.int _ _,G⟩;rw[exec_builtin ho];simp[builtin,Builtin.len_,he,Sem.run_bind,run_underlying hu,Result.andThen,goInt]
theorem aa3 {o:Oper}{ats:Array TypeId}{x y:Operand}{x' y':Arg}(mx:Bool) (ho:o.op=.call { callee:=.builtin (if mx then .max else .min),args:= #[x,y],argTypes:=ats }) (hx:cArg x=some x') (hy:cArg y=some y')
  (hd:∀i,o.dst=some i->i<nt):fT P nt o (if mx then .mx x' y' else .mn x' y'):=by
 refine fT.pure hd λ K e c w a G hp hr hs=>?_
 have rx:=aJ hx hs;have I:=aJ hy hs;cases mx
 all_goals
  simp only[if_true,if_false,aC,vcOp]at G ho;generalize V:x'.get e=dx at G rx;generalize Q:y'.get e=Z at G I;cases dx<;>try exact G.elim
  cases Z<;>try exact G.elim
  obtain⟨rfl,G⟩:=G;have he:=fA rx;have H:=fA I;refine⟨_,_,?_,.int _ _,G⟩;rw[exec_builtin ho];simp[builtin,Builtin.min_,Builtin.max_,Builtin.min2,Builtin.max2,he,H]
theorem adg (a b c:Int):(if c<(if b<a then b else a) then c else(if b<a then b else a))=min (min a b) c:=by
 split<;>split<;>omega
theorem adk (a b c:Int):(if(if a<b then b else a)<c then c else(if a<b then b else a))=max (max a b) c:=by
 split<;>split<;>omega
theorem Yk {o:Oper}{ats:Array TypeId}{x y z:Operand}{x' y' z':Arg}(mx:Bool) (ho:o.op=.call { callee:=.builtin (if mx then .max else .min),args:= #[x,y,z],argTypes:=ats }) (hx:cArg x=some x') (hy:cArg y=some y')
  (hz:cArg z=some z') (hd:∀i,o.dst=some i->i<nt):fT P nt o (if mx then .mx3 x' y' z' else .mn3 x' y' z'):=by
 refine fT.pure hd λ K e c w a G hp hr hs=>?_
 have rx:=aJ hx hs;have V:=aJ hy hs;have Q:=aJ hz hs;cases mx
 all_goals
  simp only[if_true,if_false,aC,vcOp]at G ho;generalize a2:x'.get e=dx at G rx;generalize a1:y'.get e=dy at G V;generalize Z:z'.get e=dz at G Q;cases dx<;>try exact G.elim
  cases dy<;>try exact G.elim
  cases dz<;>try exact G.elim
  obtain⟨rfl,rfl,G⟩:=G;have he:=fA rx;have I:=fA V;have H:=fA Q;refine⟨_,_,?_,.int _ _,G⟩;rw[exec_builtin ho];simp[builtin,Builtin.min_,Builtin.max_,Builtin.min2,Builtin.max2,he,I,H,adg,adk]
theorem Sw {xs:List Operand}{ys:List Arg}(h:xs.mapM cArg=some ys){c:Ctx}{e:LEnv}{a:Act}(s:rM c nt e.get a) :
  (xs.map a.eval).length=(ys.map (·.get e)).length/\∀(i:Nat) (d:D),(ys.map (·.get e))[i]?=some d->aB c d ((xs.map a.eval).getD i Go.undef):=by
 induction xs generalizing ys with
 | nil=>simp at h;subst h;simp
 | cons x r G =>
  simp only[List.mapM_cons]at h
  cases hx:cArg x with
  | none=>simp[hx]at h
  | some y =>
   cases hr:r.mapM cArg with
   | none=>simp[hx,hr]at h
   | some s' =>
    grind [aJ]
theorem pE {xs:Array Operand}{ys:List Arg}(h:xs.toList.mapM cArg=some ys){c:Ctx}{e:LEnv}{a:Act}(s:rM c nt e.get a) :
  (xs.map a.eval).size=(ys.map (·.get e)).length/\∀(i:Nat) (d:D),(ys.map (·.get e))[i]?=some d->aB c d ((xs.map a.eval).getD i Go.undef):=by
 grind [Sw,aO,Array.toList_map]
theorem aa5 {o:Oper}{f:FuncId}{xs ys:Array Operand}{xs' ys':List Arg}(ho:o.op=.makeFunc (.func f) xs ys) (hx:xs.toList.mapM cArg=some xs') (hy:ys.toList.mapM cArg=some ys')
  (hd:∀i,o.dst=some i->i<nt):fT P nt o (.mkf f xs' ys'):=by
 refine fT.pure hd λ K e c w a G hp hr hs=>?_
 obtain⟨V,Q⟩:=pE hx hs;obtain⟨I,H⟩:=pE hy hs;simp only[vcOp]at G;exact⟨_,_,by simp only[execOp,ho,Instr.makeFunc];rfl,.fn f _ _ _ _ V I Q H,G⟩
theorem Zc {o:Oper}{t:TypeId}{x i:Operand}{x' i':Arg}(ho:o.op=.index t x i) (hx:cArg x=some x') (hi:cArg i=some i')
  (hd:∀i,o.dst=some i->i<nt) (hu:P.underlying t=some .string):fT P nt o (.sidx x' i' 0 0 false):=by
 refine fT.pure hd λ K e c w a G hp hr hs=>?_
 have rx:=aJ hx hs;have H:=aJ hi hs;simp only[vcOp]at G;generalize Z:i'.get e=di at G H;unfold vint at G;split at G
 case h_2=>exact G.elim
 rename_i k n;have hi:=fA H;generalize V:x'.get e=dx at G rx;cases dx<;>try grind
 rename_i s;have hx:=Cn rx;obtain⟨_,h0,h1,Q⟩:=G;have I:n.toNat<s.size:=by omega
 have hb:s[n.toNat]?=some s[n.toNat]:=by
  grind
 refine⟨_,_,?_,.int _ _,Q _ hb⟩;simp[execOp,ho,hx,hi,Instr.index,asIntOf,Sem.run_bind,run_underlying hu,Result.andThen,h0,hb]
theorem Wl {o:Oper}{t elem:TypeId}{len size:Nat}{agg:Bool}{x i:Operand}{x' i':Arg}(ho:o.op=.index t x i) (hx:cArg x=some x') (hi:cArg i=some i')
  (hd:∀i,o.dst=some i->i<nt) (hu:P.underlying t=some (.array len elem)) (ht:Kd P elem size agg) (hne:0<len):fT P nt o (.sidx x' i' len size agg):=by
 refine fT.pure hd λ K e c w a G hp hr hs=>?_
 have rx:=aJ hx hs;have I:=aJ hi hs;simp only[vcOp]at G;generalize Z:i'.get e=di at G I;unfold vint at G;split at G
 case h_2=>exact G.elim
 rename_i k n;have hi:=fA I;generalize V:x'.get e=dx at G rx;generalize H:a.eval x=vx at rx;cases dx<;>try exact G.elim
 ·exact absurd G.1 (by omega)
 ·rename_i cs;obtain⟨_,h0,h1,Q⟩:=G
  cases rx with
  | agg _ vs hsz hone hrel =>
   obtain⟨v,d,g1,g2,g3⟩:=Ck (P:=P) (w:=w) hsz hone hrel ht Q;refine⟨v,d,?_,g2,g3⟩;simp[execOp,ho,H,hi,Instr.index,asIntOf,Sem.run_bind,run_underlying hu,Result.andThen,h0,h1,run_sizeOf ht.info,g1]
end Go.Am
namespace Go.Am
open Go
variable [ca]
variable {P:Program}{nt:Nat}
def cOpt:Option Operand->Option (Option Arg)
 | none=>some none
 | some x=>(cArg x).map some
theorem Rz {c:Ctx}{e:LEnv}{a:Act}(s:rM c nt e.get a){x:Operand}{x':Arg}(hx:cArg x=some x'){K:Int->Prop}(hv:vint (x'.get e) K) :
  ∃i,K i/\∀(y:Nat) (cd:BoundsCode) (w:World),0<=i->i<=y->(Instr.sliceBound (a.eval x) y cd).run P w=.ok i.toNat w:=by
 have rx:=aJ hx s;generalize G:x'.get e=H at hv rx;unfold vint at hv;split at hv
 ·rename_i k n;have hi:=fA rx;refine⟨n,hv,λ y cd w h0 h1=>?_⟩;have hc:(0<=n/\n<=(y:Int)):=⟨h0,h1⟩;simp[Instr.sliceBound,hi,asIntOf,Result.andThen,hc]
 ·exact hv.elim
theorem fJ {c:Ctx}{e:LEnv}{a:Act}(s:rM c nt e.get a){x:Option Operand}{x':Option Arg}(hx:cOpt x=some x'){dflt:Nat}{K:Int->Prop}(hv:vopt e x' dflt K) :
  ∃i,K i/\(x=none->i=dflt)/\∀(v:Value) (y:Nat) (cd:BoundsCode) (w:World),x.map a.eval=some v->0<=i->i<=y->(Instr.sliceBound v y cd).run P w=.ok i.toNat w:=by
 cases x with
 | none =>
  simp[cOpt]at hx;subst hx;exact⟨dflt,hv,λ _=>rfl,λ v y cd w h=>by simp at h⟩
 | some x =>
  simp only[cOpt]at hx
  cases hc:cArg x with
  | none=>simp[hc]at hx
  | some y =>
   simp[hc]at hx;subst hx;obtain⟨i,G,hr⟩:=Rz (P:=P) s hc hv;grind
theorem eV {lo hi mx:Option Value}{len cap l r m:Nat}{w:World}(hmx:mx.isSome=true->hi.isSome=true)
  (hl:∀(v:Value) (y:Nat) (cd:BoundsCode),lo=some v->l<=y->(Instr.sliceBound v y cd).run P w=.ok l w) (hl0:lo=none->l=0)
  (hr:∀(v:Value) (y:Nat) (cd:BoundsCode),hi=some v->r<=y->(Instr.sliceBound v y cd).run P w=.ok r w) (hr0:hi=none->r=len)
  (hm:∀(v:Value) (y:Nat) (cd:BoundsCode),mx=some v->m<=y->(Instr.sliceBound v y cd).run P w=.ok m w) (hm0:mx=none->m=cap)
  (h1:l<=r) (h2:r<=m) (h3:m<=cap) (isS:Bool):(Instr.sliceBounds isS len cap lo hi mx).run P w=.ok (l,r,m) w:=by
 unfold Instr.sliceBounds
 cases mx with
 | some I =>
  cases hi with
  | none=>simp at hmx
  | some H =>
   cases lo with
   | none=>simp[Sem.run_bind,hm I cap _ rfl h3,hr H m _ rfl h2,Result.andThen,hl0 rfl]
   | some G=>simp[Sem.run_bind,hm I cap _ rfl h3,hr H m _ rfl h2,hl G r _ rfl h1,Result.andThen]
 | none =>
  have:=hm0 rfl;subst this
  cases hi with
  | none =>
   have:=hr0 rfl;subst this
   cases lo with
   | none=>simp[Sem.run_bind,Result.andThen,hl0 rfl]
   | some G=>simp[Sem.run_bind,hl G r _ rfl h1,Result.andThen]
  | some H =>
   cases lo with
   | none=>simp[Sem.run_bind,hr H m _ rfl h2,Result.andThen,hl0 rfl]
   | some G=>simp[Sem.run_bind,hr H m _ rfl h2,hl G r _ rfl h1,Result.andThen]
theorem Y9 {c:Ctx}{xs:List D}{esz:Nat}(hsz:∀d∈xs,d.cells.length=esz){v:Value}(h:aB c (.sl xs) v){l r m cap:Nat}{p:Option Addr}(hv:v=.slice p xs.length cap)
  (h1:l<=r) (h2:r<=xs.length) (h3:r<=m) (h4:m<=cap):aB c (.sl ((xs.drop l).take (r-l))) (.slice (if m=l then p else p.map (·.add (l*esz))) (r-l) (m-l)):=by
 by_cases he:r=l
 ·have:(xs.drop l).take (r-l)=[]:=by simp[he]
  rw[this,show r-l=0 by omega];refine .iN _ _ ?_
  cases h with
  | iN p' H hm=>cases hv;omega
  | sl _ b o H G f hne hc hm Q hlen hone hcell hown hrel=>cases hv;omega
 ·have a1:l<xs.length:=by omega
  have a2:((xs.drop l).take (r-l)).length=r-l:=by simp;omega
  cases h with
  | iN p' H hm=>simp at a1
  | sl _ b o H G f hne hc hm Q hlen hone hcell hown hrel =>
   cases hv
   have I:G=esz:=by
    rw[<- hlen xs[0] (by simp),hsz xs[0] (by simp)]
   subst I;rw[if_neg (by omega)];have Z:(some (⟨b,o,none⟩:Addr)).map (·.add (l*G))=some ⟨b,o+l*G,none⟩:=by simp[Addr.add_lit]
   rw[Z]
   have V:∀i j d,aT ((xs.drop l).take (r-l)) i j=some d->aT xs (l+i) j=some d:=by
    grind [aT,gF]
   have:=aB.sl (c:=c) ((xs.drop l).take (r-l)) b (o+l*G) (m-l) G (λ i j=>f (l+i) j) (by grind) (by omega) (by omega) Q
    (λ e hm=>hlen e (List.mem_of_mem_drop (List.mem_of_mem_take hm))) (λ i j d hd=>hone _ _ _ (V i j d hd))
    (λ i j d hd=>by
     grind) hown (λ i j d hd=>hrel _ _ _ (V i j d hd))
   grind
theorem Gp {c:Ctx}{xs:List D}{v:Value}(h:aB c (.sl xs) v):∃p cap,v=.slice p xs.length cap/\xs.length<=cap/\cap<=maxLen:=by
 cases h with
 | iN p cap hm=>exact⟨p,cap,rfl,by simp,hm⟩
 | sl _ b o cap esz f hne hc hm he hlen hone hcell hown hrel=>grind
theorem aa1 {o:Oper}{t elem:TypeId}{x:Operand}{x':Arg}{lo hi mx:Option Operand}{lo' hi' mx':Option Arg}{esz:Nat}(ho:o.op=.slice t x lo hi mx) (hx:cArg x=some x')
  (hlo:cOpt lo=some lo') (hhi:cOpt hi=some hi') (hmx:cOpt mx=some mx') (hmh:mx.isSome=true->hi.isSome=true)
  (hd:∀i,o.dst=some i->i<nt) (hu:P.underlying t=some (.slice elem)) (ht:(P.info? elem).map (·.size)=some esz):fT P nt o (.mZ x' lo' hi' mx' esz):=by
 refine fT.pure hd λ K e c w a G hp hr hs=>?_
 have rx:=aJ hx hs;simp only[vcOp]at G
 have fin:∀(p:Option Addr) (len cap l r m:Nat),a.eval x=.slice p len cap ->
   (Instr.sliceBounds true len cap (lo.map a.eval) (hi.map a.eval) (mx.map a.eval)).run P w=.ok (l,r,m) w ->
   (execOp a.eval o).run P w=.ok (.value (.slice (if m=l then p else p.map (·.add (l*esz))) (r-l) (m-l))) w:=by
  intro p len cap l r m he hb;simp[execOp,ho,he,Instr.sliceAt,Instr.slice,Sem.run_bind,Result.andThen,run_underlying hu,run_sizeOf ht,hb]
 generalize b4:x'.get e=dx at G rx;cases dx<;>try exact G.elim
 ·simp only at G;obtain⟨l,G,l0,lr⟩:=fJ (P:=P) hs hlo G;obtain⟨r,G,r0,rr⟩:=fJ (P:=P) hs hhi G;obtain⟨m,G,m0,mr⟩:=fJ (P:=P) hs hmx G;obtain⟨rfl,rfl,rfl,hk⟩:=G
  have he:a.eval x=.slice none 0 0:=by
   generalize a.eval x=vx at rx;cases rx;rfl
  have hb:(Instr.sliceBounds true 0 0 (lo.map a.eval) (hi.map a.eval) (mx.map a.eval)).run P w=.ok (0,0,0) w :=
   eV (by simpa using hmh) (λ v y V h hy=>by grind) (λ _=>rfl)
    (λ v y V h hy=>by grind) (λ _=>rfl)
    (λ v y V h hy=>by grind) (λ _=>rfl) (Nat.le_refl _) (Nat.le_refl _) (Nat.le_refl _) true
  grind
 ·rename_i xs;simp only at G;obtain⟨l,G,l0,lr⟩:=fJ (P:=P) hs hlo G;obtain⟨r,G,r0,rr⟩:=fJ (P:=P) hs hhi G;obtain⟨m,G,m0,mr⟩:=fJ (P:=P) hs hmx G;obtain⟨g1,g2,g3,g4,hsz,hk⟩:=G;obtain⟨p,cap,he,a1,b3⟩:=Gp rx
  have Z:∃H:Nat,(mx=none->H=cap)/\(mx≠none->H=m.toNat)/\r.toNat<=H/\H<=cap:=by
   by_cases hm:mx=none
   ·exact⟨cap,λ _=>rfl,λ h=>absurd hm h,by omega,Nat.le_refl _⟩
   ·exact⟨m.toNat,λ h=>absurd h hm,λ _=>rfl,by omega,by omega⟩
  obtain⟨H,q1,q2,q3,q4⟩:=Z
  have hb:(Instr.sliceBounds true xs.length cap (lo.map a.eval) (hi.map a.eval) (mx.map a.eval)).run P w=.ok (l.toNat,r.toNat,H) w:=by
   refine eV (by simpa using hmh) (λ v y V h hy=>lr v y V w h g1 (by omega)) (λ h=>by have:=l0 (by simpa using h);omega)
    (λ v y V h hy=>rr v y V w h (by omega) (by omega)) (λ h=>by have:=r0 (by simpa using h);omega)
    (λ v y V h hy=>?_) (λ h=>q1 (by simpa using h)) (by omega) q3 q4 true
   have hne:mx≠none:=by rintro rfl;simp at h
   grind
  refine⟨_,_,fin p _ cap _ _ _ he hb,?_,hk⟩;have:=Y9 hsz rx he (l:=l.toNat) (r:=r.toNat) (m:=H) (by omega) (by omega) q3 q4;grind
 ·rename_i n off len;simp only at G;obtain⟨l,G,l0,lr⟩:=fJ (P:=P) hs hlo G;obtain⟨r,G,r0,rr⟩:=fJ (P:=P) hs hhi G;obtain⟨m,G,m0,mr⟩:=fJ (P:=P) hs hmx G;obtain⟨g1,g2,g3,g4,⟨els,Q⟩,hk⟩:=G
  have form:∃p cap,a.eval x=.slice p len cap/\len<=cap:=by
   generalize a.eval x=vx at rx
   cases rx with
   | msDead _ _ _ _ _ _ b2=>grind [Slot.row]
   | msNil _ _ _ _ _=>grind
   | msE _ _ _ p _ _=>grind
   | ms _ _ _ g a6 cap a7 cur ty fr I hρ hl hg hsz hc hm=>exact⟨_,cap,rfl,hc⟩
  obtain⟨p,cap,he,a1⟩:=form
  have Z:∃H:Nat,(mx=none->H=cap)/\(mx≠none->H=m.toNat)/\r.toNat<=H/\H<=cap:=by
   by_cases hm:mx=none
   ·exact⟨cap,λ _=>rfl,λ h=>absurd hm h,by omega,Nat.le_refl _⟩
   ·exact⟨m.toNat,λ h=>absurd h hm,λ _=>rfl,by omega,by omega⟩
  obtain⟨H,q1,q2,q3,q4⟩:=Z
  have hb:(Instr.sliceBounds true len cap (lo.map a.eval) (hi.map a.eval) (mx.map a.eval)).run P w=.ok (l.toNat,r.toNat,H) w:=by
   refine eV (by simpa using hmh) (λ v y V h hy=>lr v y V w h g1 (by omega)) (λ h=>by have:=l0 (by simpa using h);omega)
    (λ v y V h hy=>rr v y V w h (by omega) (by omega)) (λ h=>by have:=r0 (by simpa using h);omega)
    (λ v y V h hy=>?_) (λ h=>q1 (by simpa using h)) (by omega) q3 q4 true
   have hne:mx≠none:=by rintro rfl;simp at h
   grind
  refine⟨_,_,fin p _ cap _ _ _ he hb,?_,hk⟩;rw[show(r-l).toNat=r.toNat-l.toNat by omega];rw[he]at rx
  cases rx with
  | msDead _ _ _ _ _ _ b2=>grind [Slot.row]
  | msNil _ _ _ _ _ =>
   have e1:l.toNat=0:=by omega
   have e2:r.toNat=0:=by omega
   have e3:H=0:=by omega
   rw[e1,e2,e3];exact .msE _ _ esz _ els Q
  | msE _ _ _ _ _ _ =>
   have e1:l.toNat=0:=by omega
   have e2:r.toNat=0:=by omega
   have e3:H=0:=by omega
   rw[e1,e2,e3];exact .msE _ _ esz _ els Q
  | ms _ _ _ g a6 _ a7 cur ty fr I hρ hl hg hsz hc hm =>
   rw[Q]at I;simp at I;obtain⟨rfl,rfl⟩:=I;by_cases b1:H=l.toNat
   ·rw[show r.toNat-l.toNat=0 by omega,show H-l.toNat=0 by omega];exact .msE _ _ esz _ els Q
   ·rw[if_neg b1];have a2:(some (⟨g,off*esz,none⟩:Addr)).map (·.add (l.toNat*esz))=some ⟨g,(off+l.toNat)*esz,none⟩:=by simp[Addr.add_lit,Nat.add_mul]
    rw[a2];have a8:(off+l.toNat+(H-l.toNat))*esz<=cur.size:=Nat.le_trans (Nat.mul_le_mul_right _ (by omega)) hsz;exact .ms n (off+l.toNat) (r.toNat-l.toNat) g esz (H-l.toNat) els cur ty fr Q hρ (by omega) hg a8 (by omega) (by omega)
theorem Za {o:Oper}{t:TypeId}{x:Operand}{x':Arg}{lo hi:Option Operand}{lo' hi':Option Arg}(ho:o.op=.slice t x lo hi none) (hx:cArg x=some x')
  (hlo:cOpt lo=some lo') (hhi:cOpt hi=some hi')
  (hd:∀i,o.dst=some i->i<nt) (hu:P.underlying t=some .string):fT P nt o (.sslc x' lo' hi'):=by
 refine fT.pure hd λ K e c w a G hp hr hs=>?_
 have rx:=aJ hx hs;simp only[vcOp]at G;generalize a1:x'.get e=dx at G rx;cases dx<;>try exact G.elim
 rename_i s;simp only at G;have he:=Cn rx;obtain⟨l,G,V,lr⟩:=fJ (P:=P) hs hlo G;obtain⟨r,G,Q,I⟩:=fJ (P:=P) hs hhi G;obtain⟨g1,g2,g3,Z⟩:=G
 have hb:(Instr.sliceBounds false s.size s.size (lo.map a.eval) (hi.map a.eval) none).run P w=.ok (l.toNat,r.toNat,s.size) w:=by
  refine eV (by simp) (λ v y H h hy=>lr v y H w h g1 (by omega)) (λ h=>by have:=V (by simpa using h);omega)
   (λ v y H h hy=>I v y H w h (by omega) (by omega)) (λ h=>by have:=Q (by simpa using h);omega)
   (λ v y H h hy=>by simp at h) (λ _=>rfl) (by omega) (by omega) (Nat.le_refl _) false
 refine⟨_,_,?_,.str _,Z⟩;simp[execOp,ho,he,Instr.sliceAt,Instr.slice,Sem.run_bind,Result.andThen,run_underlying hu,hb]
end Go.Am
namespace Go.Am
open Go
variable [ca]
variable {P:Program}{nt:Nat}
def cPlace (P:Program) (t:TypeId) (i:Nat):Option (Nat×Nat) :=
 match P.underlying t with
 | some (.struct fields)=>match fields.toList.mapM (λ f=>(P.info? f.type).map λ i=>(f.offset,i.size)) with
  | some places=>places.toArray[i]?
  | none=>none
 | some (.array _ e)=>match P.info? e with
  | some ie=>some (i*ie.size,ie.size)
  | none=>none
 | _=>none
def fM (P:Program) (t:TypeId):Option D:=((P.info? t).bind (·.zero)).bind D.ofV
def cParts (P:Program) (t:TypeId):List (Nat×Operand)->Option (List (Nat×Nat×Arg))
 | []=>some []
 | (i,x)::r=>match cPlace P t i,cArg x,cParts P t r with
  | some (off,size),some y,some s=>some ((off,size,y)::s)
  | _,_,_=>none
theorem GD {t:TypeId}:∀{ps:List (Nat×Operand)}{qs:List (Nat×Nat×Arg)},cParts P t ps=some qs ->
  ps.length=qs.length/\∀(k:Nat) (p:Nat×Operand) (q:Nat×Nat×Arg),ps[k]?=some p->qs[k]?=some q->cPlace P t p.1=some (q.1,q.2.1)/\cArg p.2=some q.2.2
 | [],qs,h=>by grind [cParts]
 | (i,x)::r,qs,h=>by
  simp only[cParts]at h
  cases h1:cPlace P t i with
  | none=>simp[h1]at h
  | some os =>
   cases h2:cArg x with
   | none=>simp[h1,h2]at h
   | some y =>
    cases h3:cParts P t r with
    | none=>simp[h1,h2,h3]at h
    | some s =>
     simp[h1,h2,h3]at h;subst h;obtain⟨l,G⟩:=GD h3;grind
theorem Vp {t:TypeId}{z:Value}{i:TypeInfo}(hi:P.info? t=some i) (hz:i.zero=some z){ps:List (Nat×Value)}{cells:Array Value}
  (hf:Instr.fill (cPlace P t) z.cells ps=some cells) (hu:(∃fs,P.underlying t=some (.struct fs))\/∃n e,P.underlying t=some (.array n e)) (hne:ps≠[]):P.built t ps=some cells:=by
 unfold Program.built;rcases hu with⟨fs,hu⟩|⟨n,e,hu⟩
 ·simp only[hi,hu,hz]
  cases hp:fs.toList.mapM (λ f=>(P.info? f.type).map λ i=>(f.offset,i.size)) with
  | none =>
   have hc:∀i,cPlace P t i=none:=λ i=>by simp[cPlace,hu,hp]
   cases ps with
   | nil=>exact absurd rfl hne
   | cons p r=>grind [Instr.fill]
  | some G =>
   have hc:(λ i=>cPlace P t i)=λ i=>G.toArray[i]?:=by grind [cPlace]
   grind
 ·simp only[hi,hu,hz]
  cases hp:P.info? e with
  | none =>
   have hc:∀i,cPlace P t i=none:=λ i=>by simp[cPlace,hu,hp]
   cases ps with
   | nil=>exact absurd rfl hne
   | cons p r=>grind [Instr.fill]
  | some H =>
   have hc:(λ i=>cPlace P t i)=λ i=>some (i*H.size,H.size):=by grind [cPlace]
   grind
theorem Sx {t:TypeId}{z:Value}{i:TypeInfo}(hi:P.info? t=some i) (hz:i.zero=some z) (hp:cPlace P t 0≠none):P.built t []=some z.cells:=by
 grind [Program.built,cPlace,Instr.fill]
theorem abc {o:Oper}{t:TypeId}{ps:Array (Nat×Operand)}{zd:D}{qs:List (Nat×Nat×Arg)}(ho:o.op=.build t ps) (hz:fM P t=some zd) (hq:cParts P t ps.toList=some qs)
  (hp0:cPlace P t 0≠none) (hd:∀i,o.dst=some i->i<nt):fT P nt o (.bld zd.cells qs):=by
 refine fT.pure hd λ K e c w a hv hp hr hs=>?_
 simp only[vcOp,N5]at hv;obtain⟨b2,hk⟩:=hv
 cases hi:P.info? t with
 | none=>simp[fM,hi]at hz
 | some i =>
  cases a6:i.zero with
  | none=>simp[fM,hi,a6]at hz
  | some z =>
   have Q:D.ofV z=some zd:=by grind [fM]
   have a7:=dE (jA Q c) (gW Q);obtain⟨hlen,H⟩:=GD hq
   let vs:List (Nat×Value):=ps.toList.map λ p=>(p.1,a.eval p.2)
   let parts:List (Nat×Nat×List D):=qs.map λ q=>(q.1,q.2.1,(q.2.2.get e).cells)
   obtain⟨G,g1,g2,g3⟩:=Jz (c:=c) (cPlace P t) vs parts z.cells zd.cells a7 (by simp[vs,parts,hlen]) (by
    intro k p q a2 Z;simp only[vs,parts,List.getElem?_map,Option.map_eq_some_iff]at a2 Z;obtain⟨p',b1,rfl⟩:=a2;obtain⟨q',a1,rfl⟩:=Z;obtain⟨s1,s2⟩:=H k p' q' b1 a1;obtain⟨o1,o2,o3⟩:=b2 q' (ak a1)
    exact⟨s1,dE (aJ s2 hs) o3,o1,o2⟩)
   have hb:P.built t vs=some G:=by
    by_cases hne:vs=[]
    ·grind [Instr.fill,Sx]
    grind [Vp,cPlace]
   have V:=run_build (P:=P) w t (vs.toArray) G (by simpa using hb);refine⟨.agg G,_,?_,?_,hk⟩
   ·have a8:ps.map (λ(i,x)=>(i,a.eval x))=vs.toArray:=by apply Array.ext';simp[vs]
    simp only[execOp,ho,a8];simp[V]
   ·refine .agg _ _ (by simpa using g2.len) (λ i d I=>(g2.rel i d I).1) (λ i d I=>by rw[<- aO];exact(g2.rel i d I).2)
def eqTy (P:Program):Nat->TypeId->Option (List CK)
 | 0,_=>none
 | d+1,t=>match P.underlying t with
  | some (.int _)=>some [.i]
  | some .bool=>some [.b]
  | some .string=>some [.s]
  | some (.struct fs)=>if P.stoodInHeld t then none else
   fs.toList.foldl (λ acc f=>acc.bind λ ks=>if f.name ≠ "_" /\f.offset=ks.length then
    (match eqTy P d f.type,(P.info? f.type).map (·.size) with
     | some n,some m=>if n.length=m then some (ks++n) else none
     | _,_=>none) else none) (some [])
  | _=>none
theorem Oa:∀(ks:List CK) (a c:List D) (r:Bool),eqCells ks a c=some r->a.length=ks.length/\c.length=ks.length:=by
 intro ks
 induction ks with
 | nil=>grind [eqCells]
 | cons k ks I =>
  intro a c r h
  have step:∀(p:Bool) (xs ys:List D),(eqCells ks xs ys).map (λ t=>p&&t)=some r->xs.length=ks.length/\ys.length=ks.length:=by
   intro p xs ys hp
   cases G:eqCells ks xs ys with
   | none=>simp[G]at hp
   | some q=>exact I xs ys q G
  cases a with
  | nil=>grind [eqCells]
  | cons x xs =>
   cases c with
   | nil=>grind [eqCells]
   | cons y ys =>
    have H:xs.length=ks.length/\ys.length=ks.length:=by
     cases k<;>cases x<;>cases y<;>simp only[eqCells]at h<;>try (cases h;done)
     ·grind
     ·exact step _ _ _ h
     ·exact step _ _ _ h
    simp[H.1,H.2]
theorem JA:∀(ks ls:List CK) (a c b d:List D) (r:Bool),a.length=ks.length->c.length=ks.length->eqCells (ks++ls) (a++b) (c++d)=some r ->
  ∃r1 r2,eqCells ks a c=some r1/\eqCells ls b d=some r2/\r=(r1&&r2):=by
 intro ks
 induction ks with
 | nil =>
  intro ls a c b d r hl G h;cases a<;>cases c<;>simp at hl G;exact⟨true,r,rfl,h,by simp⟩
 | cons k ks I =>
  intro ls a c b d r hl G h
  cases a with
  | nil=>simp at hl
  | cons x xs =>
   cases c with
   | nil=>simp at G
   | cons y ys =>
    simp only[List.cons_append]at h
    have step:∀(p:Bool),(eqCells (ks++ls) (xs++b) (ys++d)).map (λ t=>p&&t)=some r ->
      ∃r1 r2,(eqCells ks xs ys).map (λ t=>p&&t)=some r1/\eqCells ls b d=some r2/\r=(r1&&r2):=by
     intro p hp
     cases H:eqCells (ks++ls) (xs++b) (ys++d) with
     | none=>simp[H]at hp
     | some q =>
      grind
    cases k<;>cases x<;>cases y<;>simp only[eqCells]at h ⊢<;>try (cases h;done)
    ·split at h
     ·grind
     ·cases h
    ·exact step _ h
    ·exact step _ h
def LS (c:Ctx) (agg:Bool) (ds:List D) (x:Value):Prop :=
 if agg then ∃xs,x=.agg xs/\gB c ds xs.toList else ∃d,ds=[d]/\aB c d x
theorem NC {c:Ctx}{w:World}{ds:List D}{xs:Array Value}(h:gB c ds xs.toList){t:TypeId}{off n:Nat}{agg:Bool}(ht:Kd P t n agg) (hl:off+n<=ds.length) (h1:agg=false->n=1) :
  ∃v,(part t xs off).run P w=.ok v w/\LS c agg ((ds.drop off).take n) v:=by
 have hsz:xs.size=ds.length:=by simpa using h.len
 have hone:∀(i:Nat) (d:D),ds[i]?=some d->d.one=true:=λ i d hd=>(h.rel i d hd).1
 have hrel:∀(i:Nat) (d:D),ds[i]?=some d->aB c d (xs.getD i Go.undef):=λ i d hd=>by rw[<- aO];exact(h.rel i d hd).2
 unfold LS
 cases agg with
 | true =>
  obtain⟨v,d,g1,Z,V⟩:=Ck (P:=P) (w:=w) (off:=off) (K:=λ d=>d=.agg ((ds.drop off).take n)) hsz hone hrel ht (by simp[vpart,hl]);subst V;refine⟨v,g1,?_⟩;simp only[if_true]
  cases Z with
  | agg _ vs H G I=>exact⟨vs,rfl,by simpa using H,λ i d hd=>⟨G i d hd,by grind [aO]⟩⟩
 | false =>
  have hn:=h1 rfl;subst hn;have Q:off<ds.length:=by omega
  obtain⟨v,d,g1,Z,V⟩:=Ck (P:=P) (w:=w) (off:=off) (K:=λ d=>d=ds[off]) hsz hone hrel ht (by simp[vpart,Q]);grind [List.drop_eq_getElem_cons]
theorem eW (f:Option (List CK)->Field->Option (List CK)) (hf:∀x,f none x=none):∀l:List Field,l.foldl f none=none
 | []=>rfl
 | x::r=>by rw[List.foldl_cons,hf,eW f hf r]
theorem Gm {c:Ctx}{w:World}:∀(d:Nat) (t:TypeId) (ks:List CK),eqTy P d t=some ks->∀(agg:Bool),Kd P t ks.length agg->∀(ds es:List D) (x y:Value) (b:Bool),LS c agg ds x->LS c agg es y ->
  eqCells ks ds es=some b->∀k,d<=k->(Op.equalIn k t x y).run P w=.ok b w:=by
 intro d
 induction d with
 | zero=>intro t n h;simp[eqTy]at h
 | succ d ih =>
  intro t ks h agg ht ds es x y b hx hy hb k hk;obtain⟨k',rfl⟩:∃k',k=k'+1:=⟨k-1,by omega⟩;obtain⟨c4,hu,I⟩:=ht.und;unfold eqTy at h;rw[hu]at h;cases c4<;>simp only at h I<;>try (cases h;done)
  ·cases h;subst I;obtain⟨p,rfl,rp⟩:=hx;obtain⟨q,rfl,rq⟩:=hy;cases p<;>cases q<;>simp only[eqCells]at hb<;>try (cases hb;done)
   simp at hb;rw[wS rp,wS rq,run_equalIn_bool' w k' t _ _ hu,hb]
  ·cases h;subst I;obtain⟨p,rfl,rp⟩:=hx;obtain⟨q,rfl,rq⟩:=hy;cases p<;>cases q<;>simp only[eqCells]at hb<;>try (cases hb;done)
   split at hb
   ·rename_i c2;subst c2;simp at hb;rw[fA rp,fA rq,run_equalIn_int w k' t _ _ _ _ hu, <- hb];congr 1
   ·cases hb
  ·cases h;subst I;obtain⟨p,rfl,rp⟩:=hx;obtain⟨q,rfl,rq⟩:=hy;cases p<;>cases q<;>simp only[eqCells]at hb<;>try (cases hb;done)
   simp at hb;rw[Cn rp,Cn rq,run_equalIn_string w k' t _ _ hu, <- hb]
  ·rename_i fs;split at h
   ·cases h
   ·rename_i b5;subst I;obtain⟨xs,rfl,rx⟩:=hx;obtain⟨ys,rfl,ry⟩:=hy;have a6:P.stoodInHeld t=false:=by simpa using b5
    have b2:P.fieldsOf t=fs:=by simp[Program.fieldsOf,hu]
    rw[run_equalIn_struct w k' t xs ys (by rw[b2];exact hu) a6,b2];obtain⟨c1,c0⟩:=Oa _ _ _ _ hb
    have key:∀(l:List Field) (G:List CK),l.foldl (λ acc f=>acc.bind λ ks=>if f.name ≠ "_" /\f.offset=ks.length then
      (match eqTy P d f.type,(P.info? f.type).map (·.size) with
       | some n,some m=>if n.length=m then some (ks++n) else none
       | _,_=>none) else none) (some G)=some ks->G.length<=ks.length ->
      ∀b',(∃Q,ks=G++Q/\eqCells Q (ds.drop G.length) (es.drop G.length)=some b')->(Op.eqFields k' xs ys l).run P w=.ok b' w:=by
     intro l
     induction l with
     | nil =>
      intro G h0 hle b' H;obtain⟨Q,rfl,H⟩:=H;simp at h0;subst h0;have e1:ds.drop G.length=[]:=by simp;simp at c1;omega
      have e2:es.drop G.length=[]:=by simp;simp at c0;omega
      rw[e1,e2]at H;simp[eqCells]at H;subst H;simp[Op.eqFields]
     | cons f r b4 =>
      intro G h0 hle b' H;obtain⟨Q,c6,H⟩:=H;rw[List.foldl_cons]at h0;simp only[Option.bind_some]at h0;split at h0
      ·rename_i hc;obtain⟨a1,a8⟩:=hc
       cases hq:eqTy P d f.type with
       | none=>grind [eW]
       | some n =>
        cases hs:(P.info? f.type).map (·.size) with
        | none=>grind [eW]
        | some m =>
         simp only[hq,hs]at h0;split at h0
         ·rename_i b7;subst b7
          have a7:∀(l:List Field) (ka kb:List CK),l.foldl (λ acc f=>acc.bind λ ks=>if f.name ≠ "_" /\f.offset=ks.length then
            (match eqTy P d f.type,(P.info? f.type).map (·.size) with
             | some n,some m=>if n.length=m then some (ks++n) else none
             | _,_=>none) else none) (some ka)=some kb->∃kc,kb=ka++kc:=by
           intro l
           induction l with
           | nil=>intro ka kb hh;simp at hh;exact⟨[],by simp[hh]⟩
           | cons g s c5 =>
            grind [eW]
          obtain⟨kc,b1⟩:=a7 r _ _ h0
          have c3:Q=n++kc:=by
           grind [List.append_cancel_left]
          rw[c3]at H;have hlen:ks.length=G.length+n.length+kc.length:=by rw[b1];simp;omega
          have sd:ds.drop G.length=(ds.drop G.length).take n.length++ds.drop (G.length+n.length):=by
           grind [List.drop_drop,List.take_append_drop]
          have se:es.drop G.length=(es.drop G.length).take n.length++es.drop (G.length+n.length):=by
           grind [List.drop_drop,List.take_append_drop]
          rw[sd,se]at H;obtain⟨r1,r2,e1,e2,rfl⟩:=JA n kc _ _ _ _ _ (by simp;omega) (by simp;omega) H
          have V:∃agg,Kd P f.type n.length agg/\(agg=false->n.length=1):=by
           cases d with
           | zero=>simp[eqTy]at hq
           | succ d =>
            unfold eqTy at hq
            cases a2:P.underlying f.type with
            | none=>simp[a2]at hq
            | some dd =>
             refine⟨_,⟨hs,dd,a2,rfl⟩,?_⟩;grind
          obtain⟨b3,V,h1⟩:=V;obtain⟨vx,px,qx⟩:=NC (P:=P) (w:=w) rx V (off:=G.length) (by omega) h1;obtain⟨vy,py,qy⟩:=NC (P:=P) (w:=w) ry V (off:=G.length) (by omega) h1;have heq:=ih f.type n hq b3 V _ _ vx vy r1 qx qy e1 k' (by omega);have Z:=b4 (G++n) h0 (by simp;omega) r2 ⟨kc,b1,by grind⟩;simp only[Op.eqFields,if_pos a1,Sem.run_bind,a8,px,py,Result.andThen_ok,heq];cases r1
          ·simp
          ·simpa using Z
         grind [eW]
      grind [eW]
    grind
theorem aa9 {o:Oper}{t t':TypeId}{x y:Operand}{x' y':Arg}{ks:List CK}{agg:Bool}(neg:Bool) (ho:o.op=.binOp (if neg then .neq else .eql) t x y t') (hx:cArg x=some x') (hy:cArg y=some y')
  (hd:∀i,o.dst=some i->i<nt) (ht:eqTy P 100 t=some ks) (hty:Kd P t ks.length agg) (hg:P.eqGuardType P.depth t=false) (hsc:agg=false->ks=[.b]):fT P nt o (.eqv neg agg ks x' y'):=by
 refine fT.pure hd λ K e c w a G hp hr hs=>?_
 have rx:=aJ hx hs;have ry:=aJ hy hs;simp only[vcOp]at G;obtain⟨ax,ay,G⟩:=G;unfold veqv at G
 cases hb:eqCells ks (x'.get e).cells (y'.get e).cells with
 | none=>simp[hb]at G
 | some b =>
  simp only[hb]at G;refine⟨_,_,?_,.bool _,G⟩
  cases agg with
  | false =>
   have:=hsc rfl;subst this;generalize x'.get e=dx at *;generalize y'.get e=Z at *
   have I:LS c false dx.cells (a.eval x)/\LS c false Z.cells (a.eval y):=by
    constructor
    ·cases dx<;>simp[D.isAgg]at ax<;>exact⟨_,rfl,rx⟩
    ·cases Z<;>simp[D.isAgg]at ay<;>exact⟨_,rfl,ry⟩
   have heq:=Gm (P:=P) (w:=w) 100 t _ ht false hty _ _ _ _ b I.1 I.2 hb 10000 (by omega);cases dx<;>simp[D.isAgg]at ax<;>cases Z<;>simp[D.isAgg]at ay<;>simp only[D.cells,eqCells]at hb<;>try (cases hb;done)
   have ex:=wS rx;have ey:=wS ry;rw[ex,ey]at heq;cases neg
   ·simp only[execOp,ho,ex,ey,if_false,aC,eqGuard,binOp,Op.equal,Op.maxDepth];simp[heq]
   ·simp only[execOp,ho,ex,ey,if_true,eqGuard,binOp,Op.equal,Op.maxDepth];simp[heq]
  | true =>
   generalize x'.get e=dx at *;generalize y'.get e=Z at *;cases dx<;>simp[D.isAgg]at ax;cases Z<;>simp[D.isAgg]at ay;generalize hex:a.eval x=vx at rx;generalize V:a.eval y=vy at ry;rename_i cs a2
   cases rx with
   | agg _ xs hsz hone hrel =>
    cases ry with
    | agg _ ys Q H a1 =>
     have heq:=Gm (P:=P) (w:=w) 100 t ks ht true hty cs a2 (.agg xs) (.agg ys) b ⟨xs,rfl,by simpa using hsz,λ i d hd=>⟨hone i d hd,by rw[aO];exact hrel i d hd⟩⟩
      ⟨ys,rfl,by simpa using Q,λ i d hd=>⟨H i d hd,by grind [aO]⟩⟩ hb 10000 (by omega)
     cases neg
     ·simp only[execOp,ho,hex,V,if_false,aC];simp[run_eqGuard_agg w _ t x y xs ys hg,run_eql_struct,heq]
     ·simp only[execOp,ho,hex,V,if_true];simp[run_eqGuard_agg w _ t x y xs ys hg,run_neq_struct,heq]
end Go.Am
namespace Go.Am
open Go
variable [ca]
variable {P:Program}{nt:Nat}
theorem jE {c:Ctx}(hr:aA c){n g:Nat}(hm:(c.h n).mine) (hρ:c.ρ n=some g):g<c.hp.size:=by
 have hs:=hr.slot n
 cases hx:c.h n with
 | box v =>
  rw[hx]at hs;obtain⟨G,cur,ty,h1,h2,_⟩:=hs;grind
 | arr e l =>
  rw[hx]at hs;obtain⟨_,_,_,⟨h1,_⟩|⟨G,cur,ty,h1,h2,_⟩⟩:=hs
  ·rw[hρ]at h1;cases h1
  grind
 | lp st B =>
  rw[hx]at hs;obtain⟨G,tmps,dfs,h1,h2,_⟩:=hs;grind
 | map kt l =>
  rw[hx]at hs;obtain⟨G,es,clock,h1,h2,_⟩:=hs;grind
 | _=>rw[hx]at hm;cases hm
theorem iz {c c':Ctx}(hle:c.le c'){n:Nat}{s:Slot}(hs:dk c n s) (hρ:s≠.free->s≠.dead->c'.ρ n=c.ρ n) (hb:∀g,s.mine->c.ρ n=some g->c'.hp[g]?=c.hp[g]?):dk c' n s:=by
 cases s with
 | free=>trivial
 | dead=>trivial
 | box v =>
  obtain⟨g,cur,ty,h1,h2,h3,h4⟩:=hs;exact⟨g,cur,ty,(hρ (by simp) (by simp)).trans h1,(hb g trivial h1).trans h2,h3,λ i d hd=>⟨(h4 i d hd).1,(h4 i d hd).2.mono hle⟩⟩
 | arr e l =>
  obtain⟨h1,h2,h3,h4⟩:=hs;refine⟨h1,h2,h3,?_⟩;rcases h4 with⟨H,G⟩|⟨g,cur,ty,H,G,Q,I⟩
  ·grind
  ·exact Or.inr ⟨g,cur,ty,(hρ (by simp) (by simp)).trans H,(hb g trivial H).trans G,Q,λ i j d hd=>(I i j d hd).mono hle⟩
 | frz e l =>
  obtain⟨h1,h2,h3,h4⟩:=hs;refine⟨h1,h2,h3,?_⟩;rcases h4 with⟨H,G⟩|⟨g,cur,ty,fr,H,G,Q,I,V⟩
  ·grind
  ·have hg:=(Array.getElem?_eq_some_iff.1 G).1;exact Or.inr ⟨g,cur,ty,fr,(hρ (by simp) (by simp)).trans H,(hle.same hg I).trans G,Q,hle.Jk hg I,λ i j d hd=>(V i j d hd).mono hle⟩
 | lp st B =>
  obtain⟨g,tmps,dfs,h1,h2,h3,h4⟩:=hs;exact⟨g,tmps,dfs,(hρ (by simp) (by simp)).trans h1,(hb g trivial h1).trans h2,h3,λ i=>(h4 i).mono hle⟩
 | map kt l =>
  obtain⟨g,es,clock,h1,h2,h3,Z,h4⟩:=hs;refine⟨g,es,clock,(hρ (by simp) (by simp)).trans h1,(hb g trivial h1).trans h2,h3,Z,λ i p hp=>?_⟩;obtain⟨H,G,e,Q,I,V⟩:=h4 i p hp;exact⟨H,G,e,Q,I.mono hle,V.mono hle⟩
structure kg (c c':Ctx) (m n g:Nat):Prop where
 X:c'.X=c.X
 hother:∀k,k≠n->k≠m->c'.h k=c.h k
 ρother:∀k,k≠n->c'.ρ k=c.ρ k
 hn:n=m\/c.h n=.free
 hm:n≠m->c'.h m=.dead/\Trans (c.h m) .dead
 mine:(c'.h n).mine
 ρn:c'.ρ n=some g
 tn:Trans (c.h n) (c'.h n)
 T4:c.h n≠.free->c.ρ n=some g
 size:c.hp.size<=c'.hp.size
 hp:∀k,k<c.hp.size->k≠g->c'.hp[k]?=c.hp[k]?
 shape:∀(cur:Array Value) (ty:TypeId) (fr:Nat×Nat),c.hp[g]?=some (Obj.cells cur ty fr)->∃cur':Array Value,c'.hp[g]?=some (Obj.cells cur' ty fr)/\cur'.size=cur.size
 loop:∀(r:Loop),c.hp[g]?=some (.loop r)->∃r':Loop,c'.hp[g]?=some (.loop r')/\r'.defers=r.defers
 from':c.hp.size<=g\/((c.h m).mine/\c.ρ m=some g)
theorem kg.le {c c':Ctx}{m n g:Nat}(s:kg c c' m n g):c.le c' where
 size:=s.size
 X:=s.X
 keep k Q V:=by
  refine s.hp k Q ?_;rintro rfl;rcases s.from' with h|⟨h1,h2⟩
  ·omega
  ·exact V m h1 h2
 shape k cur ty fr Q:=by
  by_cases I:k=g
  ·subst I;exact s.shape cur ty fr Q
  ·exact⟨cur,(s.hp k (Array.getElem?_eq_some_iff.1 Q).1 I).trans Q,rfl⟩
 loop k r Q:=by
  by_cases I:k=g
  ·subst I;exact s.loop r Q
  ·exact⟨r,(s.hp k (Array.getElem?_eq_some_iff.1 Q).1 I).trans Q,rfl⟩
 names k Q:=by
  by_cases G:k=n
  ·subst G;rw[s.ρn,s.T4 Q]
  ·exact s.ρother k G
 tr k:=by
  by_cases G:k=n
  ·subst G;exact s.tn
  ·by_cases H:k=m
   ·subst H;obtain⟨h1,h2⟩:=s.hm (λ e=>G e.symm);rw[h1];exact h2
   ·rw[s.hother k G H];exact Trans.refl _
 born k Z hm hρ hg:=by
  by_cases G:k=n
  ·subst G;rw[s.ρn]at hρ;cases hρ;rcases s.from' with h|⟨h1,h2⟩
   ·omega
   ·exact⟨m,h1,h2⟩
  ·by_cases H:k=m
   ·subst H;rw[(s.hm (λ e=>G e.symm)).1]at hm;cases hm
   ·rw[s.hother k G H]at hm;rw[s.ρother k G]at hρ;exact⟨k,hm,hρ⟩
theorem kg.heap {c c':Ctx}{m n g:Nat}(s:kg c c' m n g) (hr:aA c) (hs:dk c' n (c'.h n)):aA c' where
 slot k:=by
  by_cases G:k=n
  ·subst G;exact hs
  ·by_cases H:k=m
   ·subst H;rw[(s.hm (λ e=>G e.symm)).1];trivial
   ·rw[s.hother k G H];refine iz s.le (hr.slot k) (λ _ _=>s.ρother k G) (λ I Q hρ=>?_);refine s.hp I (jE hr Q hρ) ?_;rintro rfl;rcases s.from' with h|⟨h1,h2⟩
    ·have:=jE hr Q hρ;omega
    ·exact H (hr.inj k m I Q h1 hρ h2)
 inj k1 Z I m1 m2 r1 r2:=by
  have key:∀k,k≠n->(c'.h k).mine->c'.ρ k=some g->False:=by
   intro k G hm hρ;by_cases H:k=m
   ·subst H;rw[(s.hm (λ e=>G e.symm)).1]at hm;cases hm
   ·rw[s.hother k G H]at hm;rw[s.ρother k G]at hρ;rcases s.from' with h|⟨h1,h2⟩
    ·have:=jE hr hm hρ;omega
    ·exact H (hr.inj k m g hm h1 hρ h2)
  by_cases h1:k1=n
  ·by_cases h2:Z=n
   ·rw[h1,h2]
   ·subst h1;rw[s.ρn]at r1;grind
  ·by_cases h2:Z=n
   ·subst h2;rw[s.ρn]at r2;grind
   ·have g1:k1≠m:=by
     rintro rfl;rw[(s.hm (λ e=>h1 e.symm)).1]at m1;cases m1
    have g2:Z≠m:=by
     rintro rfl;rw[(s.hm (λ e=>h2 e.symm)).1]at m2;cases m2
    rw[s.hother k1 h1 g1]at m1;rw[s.hother Z h2 g2]at m2;rw[s.ρother k1 h1]at r1;rw[s.ρother Z h2]at r2;exact hr.inj k1 Z I m1 m2 r1 r2
 apart k I hm hρ V:=by
  rw[s.X]at V;by_cases G:k=n
  ·subst G;rw[s.ρn]at hρ;cases hρ;rcases s.from' with h|⟨h1,h2⟩
   ·have:=hr.xlt g V;omega
   ·exact hr.apart m g h1 h2 V
  ·by_cases H:k=m
   ·subst H;rw[(s.hm (λ e=>G e.symm)).1]at hm;cases hm
   ·rw[s.hother k G H]at hm;rw[s.ρother k G]at hρ;exact hr.apart k I hm hρ V
 xlt I V:=by
  rw[s.X]at V;exact Nat.lt_of_lt_of_le (hr.xlt I V) s.size
 fin:=by
  obtain⟨N,hN⟩:=hr.fin;refine⟨N+n+m+1,λ k hk=>?_⟩;rw[s.hother k (by omega) (by omega)];exact hN k (by omega)
 glob:=hr.glob.mono s.le
 lo:=by rw[s.X];exact Nat.le_trans hr.lo s.size
theorem ft {c:Ctx}(hr:aA c):∃n,qE c.h n:=by
 obtain⟨N,G⟩:=hr.fin
 induction N with
 | zero=>exact⟨0,G,λ k h=>by omega⟩
 | succ N H =>
  by_cases h:c.h N=.free
  ·grind
  ·refine⟨N+1,G,λ k I=>?_⟩;grind
theorem kg.new {c:Ctx}{n:Nat}(hn:c.h n=.free){s:Slot}(hm:s.mine) (o:Obj){hp':Array Obj}(hhp:hp'=c.hp.push o) :
  kg c ⟨aF c.ρ n (some c.hp.size),c.X,aF c.h n s,hp'⟩ n n c.hp.size where
 X:=rfl
 hother k h1 _:=by simp[aF,h1]
 ρother k h1:=by simp[aF,h1]
 hn:=Or.inl rfl
 hm h:=absurd rfl h
 mine:=by simpa[aF] using hm
 ρn:=by simp[aF]
 tn:=by rw[hn];exact .free _
 T4 h:=absurd hn h
 size:=by subst hhp;simp
 hp k h1 _:=by grind
 shape cur ty fr h:=by
  grind
 loop r h:=by
  grind
 from':=Or.inl (Nat.le_refl _)
theorem o9 (hp:Array Obj) (o:Obj):(hp.push o)[hp.size]?=some o:=by simp
theorem Tz {o:Oper}{op:AOp}(hd:∀i,o.dst=some i->i<nt)
  (hx:∀(K:HKq) (e:LEnv) (c:Ctx) (w:World) (a:Act),vcOp P op K e c.h->c.hp=w.heap->aA c->rM c nt e.get a ->
   ∃(n:Nat) (s:Slot) (d:D) (cells:Array Value) (ty:TypeId) (v:Value),c.h n=.free/\s.mine/\(execOp a.eval o).run P w=.ok (.value v) (w.alloc (.cells cells ty)) /\
    (∀c',c.le c'->c'.hp=w.heap.push (.cells cells ty)->c'.h=aF c.h n s->c'.ρ=aF c.ρ n (some w.heap.size)->dk c' n s/\aB c' d v)/\K d (aF c.h n s)):fT P nt o op:=by
 refine fT.unit λ K e c w a Q hp hr hs=>?_
 obtain⟨n,s,d,cells,ty,v,kU,H,I,hrel,V⟩:=hx K e c w a Q hp hr hs;have G:=kg.new kU H (.cells cells ty) (hp':=(w.alloc (.cells cells ty)).heap) (by rw[hp];rfl);obtain⟨h1,h2⟩:=hrel _ G.le rfl rfl (by rw[hp]);refine⟨.value v,w.alloc (.cells cells ty),aF c.ρ n (some c.hp.size),aF c.h n s,d,I,Or.inr ⟨v,rfl,hd,h2⟩,G.le,G.heap hr (by simpa[aF] using h1),⟨rfl,rfl,rfl⟩,V⟩
theorem Oz {c':Ctx}{hp:Array Obj}{n:Nat}{d:D}{vs:Array Value}{ty:TypeId}(hhp:c'.hp=hp.push (.cells vs ty)) (hρ:c'.ρ n=some hp.size) (h:gB c' d.cells vs.toList):dk c' n (.box d):=by
 refine⟨hp.size,vs,ty,hρ,by rw[hhp];exact o9 _ _,by simpa using h.len,λ i x hx=>?_⟩;obtain⟨h1,h2⟩:=h.rel i x hx;grind [aO]
theorem bX {t:TypeId}{z:Value}(h:(P.info? t).bind (·.zero)=some z) (w:World):(zeroValue t).run P w=.ok z w:=by
 cases hi:P.info? t with
 | none=>simp[hi]at h
 | some i =>
  simp[hi]at h;unfold zeroValue;simp[run_typeInfo hi,h]
theorem cA (ty:TypeId) (vs:Array Value) (w:World):(newRow ty vs).run P w=.ok ⟨w.heap.size,0,none⟩ (w.alloc (.cells vs ty)):=by
 simp[newRow,run_newObj]
theorem hQ {t:TypeId}{zd:D}(h:fM P t=some zd):∃z,(P.info? t).bind (·.zero)=some z/\D.ofV z=some zd:=by
 unfold fM at h
 cases G:(P.info? t).bind (·.zero) with
 | none=>simp[G]at h
 | some z=>grind
theorem Wo {o:Oper}{t:TypeId}{zd:D}(ho:o.op=.alloc t) (hz:fM P t=some zd) (hd:∀i,o.dst=some i->i<nt):fT P nt o (.alloc zd):=by
 obtain⟨z,H,G⟩:=hQ hz;refine Tz hd λ K e c w a I hp hr hs=>?_
 simp only[vcOp]at I;obtain⟨n,ht⟩:=ft hr;have hn:=ht.free;refine⟨n,.box zd,.ptr n 0 0,z.cells,t,.pointer (some ⟨w.heap.size,0,none⟩),hn,trivial,?_,?_,I n ht⟩
 ·simp[execOp,ho,Instr.alloc,bX H,newVar,cA]
 ·intro c' hle h1 h2 h3;refine⟨Oz h1 (by rw[h3];simp[aF]) (dE (jA G c') (gW G)),.ptrBox n 0 _ zd (by rw[h2];simp[aF]) (by rw[h3];simp[aF])⟩
theorem abb {o:Oper}{t:TypeId}{x:Operand}{x':Arg}(ho:o.op=.box t x) (hx:cArg x=some x') (hd:∀i,o.dst=some i->i<nt):fT P nt o (.box x'):=by
 refine Tz hd λ K e c w a G hp hr hs=>?_
 simp only[vcOp]at G;obtain⟨hone,G⟩:=G;have rx:=aJ hx hs;obtain⟨n,ht⟩:=ft hr;have hn:=ht.free;refine⟨n,.box (x'.get e),.ptr n 0 0,(a.eval x).cells,t,.pointer (some ⟨w.heap.size,0,none⟩),hn,trivial,?_,?_,G n ht⟩
 ·simp[execOp,ho,Instr.box,newVar,cA]
 ·intro c' hle h1 h2 h3;refine⟨Oz h1 (by rw[h3];simp[aF]) ((dE rx hone).mono hle),.ptrBox n 0 _ (x'.get e) (by rw[h2];simp[aF]) (by rw[h3];simp[aF])⟩
theorem JU {c':Ctx}{hp:Array Obj}{n esz:Nat}{els:List D}{vs:Array Value}{ty:TypeId}(hhp:c'.hp=hp.push (.cells vs ty)) (hρ:c'.ρ n=some hp.size) (he:0<esz)
  (hlen:∀e∈els,e.cells.length=esz) (hsz:els.length*esz<=vs.size) (h:∀i j d,aT els i j=some d->d.one=true/\aB c' d (vs.getD (i*esz+j) Go.undef)):dk c' n (.arr esz els) :=
 ⟨he,hlen,λ i j d hd=>(h i j d hd).1,Or.inr ⟨hp.size,vs,ty,hρ,by rw[hhp];exact o9 _ _,hsz,λ i j d hd=>(h i j d hd).2⟩⟩
theorem iJ {n i j:Nat}{z d:D}(h:aT (List.replicate n z) i j=some d):i<n/\z.cells[j]?=some d:=by
 grind [aT]
theorem Jm (z:Array Value) (hz:0<z.size) (n k:Nat) (hk:k<n):((Array.range n).map (λ i=>z[i % z.size]!)).getD k Go.undef=z.getD (k % z.size) Go.undef:=by
 have G:=Nat.mod_lt k hz;simp[Array.getD,hk,G]
theorem ac3 {o:Oper}{t elem:TypeId}{x y:Operand}{x' y':Arg}{i:TypeInfo}{zd:D}(ho:o.op=.makeSlice t x y) (hx:cArg x=some x') (hy:cArg y=some y') (hd:∀i,o.dst=some i->i<nt)
  (hu:P.underlying t=some (.slice elem)) (hi:P.info? elem=some i) (hz:fM P elem=some zd) (hsz:zd.cells.length=i.size) (hpos:0<i.size):fT P nt o (.mk i.size i.bytes zd x' y'):=by
 obtain⟨z,V,Q⟩:=hQ hz;refine Tz hd λ K e c w a G hp hr hs=>?_
 simp only[vcOp]at G;have rx:=aJ hx hs;have ry:=aJ hy hs;generalize c0:x'.get e=dx at G rx;generalize b7:y'.get e=dy at G ry;unfold vint at G;split at G
 case h_2=>exact G.elim
 rename_i k l;split at G
 case h_2=>exact G.elim
 rename_i k' m;obtain⟨h0,h1,h2,h3,G⟩:=G;have ex:=fA rx;have ey:=fA ry;obtain⟨n,ht⟩:=ft hr;have hn:=ht.free;have I:=dE (jA Q c) (gW Q);have b1:z.cells.size=i.size:=by rw[<- hsz, <- I.len];simp
 have wl:IntKind.i64.wrap l=l:=by grind [IntKind.wrap,IntKind.bits]
 have wm:IntKind.i64.wrap m=m:=by grind [IntKind.wrap,IntKind.bits]
 have a7:¬(m<0):=by omega
 have a6:¬((i.bytes:Int)*m>281474976710656):=by rw[Int.mul_comm];omega
 have a2:¬(l<0):=by omega
 have a1:¬(l>m):=by omega
 have H:¬(m.toNat*i.bytes>140737488355328):=by
  grind
 let vs:=(Array.range (m.toNat*i.size)).map (λ k=>z.cells[k % z.cells.size]!)
 have a8:(do let zero <- (if m.toNat*i.size=0 then pure #[] else do pure (<- zeroValue elem).cells:Sem (Array Value));pure ((Array.range (m.toNat*i.size)).map (λ k=>zero[k % zero.size]!)):Sem (Array Value)).run P w=.ok vs w:=by
  by_cases h:m.toNat*i.size=0
  ·simp[h,vs]
  ·simp[h,vs,bX V]
 have b2:vs.size=m.toNat*i.size:=by simp[vs]
 refine⟨n,.arr i.size (List.replicate l.toNat zd),.ms n 0 l.toNat,vs,elem,.slice (some ⟨w.heap.size,0,none⟩) l.toNat m.toNat,hn,trivial,?_,?_,G n ht⟩
 ·have Z:(P.info? elem).map (·.size)=some i.size:=by simp[hi]
  by_cases h:m.toNat*i.size=0
  ·have b3:vs = #[]:=by grind
   rw[b3];simp[execOp,ho,ex,ey,Instr.makeSlice,run_underlying hu,asInt,asIntOf,run_typeInfo hi,wl,wm,a7,a6,a2,a1,askRoom,H,run_sizeOf Z,h,cA,Array.range_zero']
  ·simp[execOp,ho,ex,ey,Instr.makeSlice,run_underlying hu,asInt,asIntOf,run_typeInfo hi,wl,wm,a7,a6,a2,a1,askRoom,H,run_sizeOf Z,h,bX V,cA,vs]
 ·intro c' hle g1 g2 g3;have hρ:c'.ρ n=some w.heap.size:=by rw[g3];simp[aF]
  have hh:(c'.h n).row=some (i.size,List.replicate l.toNat zd):=by rw[g2];simp[aF,Slot.row]
  have b5:l.toNat*i.size<=m.toNat*i.size:=Nat.mul_le_mul_right _ (by omega);refine⟨JU g1 hρ hpos (λ e he=>by grind) (by simp;omega) (λ a b d hd=>?_),?_⟩
  ·obtain⟨q1,q2⟩:=iJ hd;have hb:b<i.size:=by grind
   obtain⟨p1,p2⟩:=I.rel b d q2;refine⟨p1,?_⟩
   have b4:a*i.size+b<m.toNat*i.size:=by
    have:(a+1)*i.size<=m.toNat*i.size:=Nat.mul_le_mul_right _ (by omega);grind
   rw[Jm z.cells (by omega) _ _ b4,b1]
   have:(a*i.size+b) % i.size=b:=by
    grind [Nat.mul_comm,Nat.mul_add_mod,Nat.mod_eq_of_lt]
   rw[this, <- aO];exact p2.mono hle
  ·have:=aB.ms (c:=c') n 0 l.toNat w.heap.size i.size m.toNat _ vs elem (0,0) hh hρ (by simp) (by rw[g1];exact o9 _ _) (by rw[b2];simp) (by omega) (by unfold maxLen;omega);simpa using this
end Go.Am
namespace Go.Am
open Go
variable [ca]
variable {P:Program}{nt:Nat}
theorem Nt {α:Type}(cur vs:List α) (p k:Nat) (z:α) (h:p+vs.length<=cur.length) :
  (cur.take p++vs++cur.drop (p+vs.length)).getD k z=if k<p then cur.getD k z else if k<p+vs.length then vs.getD (k-p) z else cur.getD k z:=by
 grind
theorem xo {d:D}{j:Nat}{new:List D}(hd:d.isAgg=true\/d.one=true) (h:j+new.length<=d.cells.length) (hpos:0<new.length) (hone:∀x∈new,x.one=true) :
  (setCells d j new).cells=d.cells.take j++new++d.cells.drop (j+new.length):=by
 cases d with
 | agg cs=>rfl
 | tup ds=>simp[D.isAgg,D.one]at hd
 | undef=>simp[D.isAgg,D.one]at hd
 | _ =>
  simp only[D.cells,List.length_singleton]at h;have h0:j=0:=by omega
  have h1:new.length=1:=by omega
  obtain⟨x,rfl⟩:=List.length_eq_one_iff.1 h1;subst h0
  have hx:x.cells=[x]:=by
   have:=hone x (by simp);cases x<;>simp_all [D.one,D.cells]
  grind [setCells,D.cells]
theorem JX {d:D}(h:∀(i:Nat) (x:D),d.cells[i]?=some x->x.one=true):d.isAgg=true\/d.one=true:=by
 by_cases ha:d.isAgg=true
 ·exact Or.inl ha
 ·refine Or.inr (h 0 d ?_);cases d<;>simp_all [D.cells,D.isAgg]
theorem setRow_size (w:World) (g:Nat) (cs:Array Value):(w.setRow g cs).heap.size=w.heap.size:=by simp[World.setRow]
theorem kg.write {c:Ctx}{n g:Nat}{w:World}{cur vs:Array Value}{ty:TypeId}{s:Slot}(hp:c.hp=w.heap) (hg:w.heap[g]?=some (.cells cur ty (0,0))) (hsz:vs.size=cur.size)
  (hm:(c.h n).mine) (hρ:c.ρ n=some g) (ht:Trans (c.h n) s) (hs:s.mine):kg c ⟨c.ρ,c.X,aF c.h n s,(w.setRow g vs).heap⟩ n n g where
 X:=rfl
 hother k h1 _:=by simp[aF,h1]
 ρother k h1:=rfl
 hn:=Or.inl rfl
 hm h:=absurd rfl h
 mine:=by simpa[aF] using hs
 ρn:=hρ
 tn:=by simpa[aF] using ht
 T4 _:=hρ
 size:=by grind [setRow_size]
 hp k h1 h2:=by grind [setRow_other]
 shape cur' G fr h:=by
  grind [setRow_heap]
 loop r h:=by rw[hp,hg]at h;cases h
 from':=Or.inr ⟨hm,hρ⟩
theorem Hl {w:World}{g o:Nat}{cur:Array Value}{t ty:TypeId}{v:Value}{size:Nat}(hg:w.heap[g]?=some (.cells cur ty (0,0))) (ht:(P.info? t).map (·.size)=some size)
  (hsz:v.cells.size=size) (hl:o+size<=cur.size) (h1:∀x∈v.cells.toList,x.oneCell'=true) :
  (storeVar t ⟨g,o,none⟩ v).run P w=.ok () (w.setRow g (cur.toList.take o++v.cells.toList++cur.toList.drop (o+v.cells.toList.length)).toArray):=by
 have hr:=run_storeCells_at P g o ty v.cells.toList 0 cur w hg (by simpa[hsz] using hl) h1;simp only[Nat.add_zero]at hr;unfold storeVar;simp only[Sem.run_bind,run_sizeOf ht,Result.andThen_ok,hsz];grind
theorem PF {els:List D}{i i' j':Nat}{d' x:D}(h:aT (els.set i d') i' j'=some x):(i'=i/\d'.cells[j']?=some x/\i<els.length)\/(i'≠i/\aT els i' j'=some x):=by
 grind [aT]
theorem ac2 {o:Oper}{t:TypeId}{x v:Operand}{x' v':Arg}{size:Nat}(ho:o.op=.store t x v) (hx:cArg x=some x') (hv:cArg v=some v') (ht:(P.info? t).map (·.size)=some size) (hpos:0<size)
  (hd:o.dst=none):fT P nt o (.st x' v' size):=by
 refine fT.unit λ K e c w a I hp hr hs=>?_
 simp only[vcOp]at I;obtain⟨hlen,hone,I⟩:=I;have rx:=aJ hx hs;have rv:=dE (aJ hv hs) hone;generalize e3:x'.get e=dx at I rx;cases dx<;>try exact I.elim
 rename_i n i j;have V:(a.eval v).cells.size=size:=by rw[<- hlen, <- rv.len];simp
 have exec:∀(g q:Nat) (cur:Array Value) (ty:TypeId),a.eval x=.pointer (some ⟨g,q,none⟩)->w.heap[g]?=some (.cells cur ty (0,0))->q+size<=cur.size ->
   (execOp a.eval o).run P w=.ok .skip (w.setRow g (cur.toList.take q++(a.eval v).cells.toList++cur.toList.drop (q+(a.eval v).cells.toList.length)).toArray):=by
  intro g q cur ty he hg hl;have:=Hl (P:=P) hg ht V hl rv.Wz;simp[execOp,ho,he,Instr.storeAt,Instr.sureAddr,this]
 cases hn:c.h n<;>simp only[hn]at I<;>try exact I.elim
 ·
  rename_i d;obtain⟨rfl,hl,hk⟩:=I;have a8:=hr.slot n;rw[hn]at a8;obtain⟨g,cur,ty,hρ,hg,b3,H⟩:=a8
  have he:a.eval x=.pointer (some ⟨g,j,none⟩):=by
   grind [Mk]
  have a6:w.heap[g]?=some (.cells cur ty (0,0)):=hp ▸ hg;have c4:gB c d.cells cur.toList:=⟨by simpa using b3,λ k y hy=>⟨(H k y hy).1,by grind [aO]⟩⟩;have b7:=JX (λ k y hy=>(H k y hy).1);have b4:=xo (j:=j) (new:=(v'.get e).cells) b7 (by omega) (by omega) hone
  let vs:=(cur.toList.take j++(a.eval v).cells.toList++cur.toList.drop (j+(a.eval v).cells.toList.length)).toArray
  have b2:vs.size=cur.size:=by simp[vs,V];omega
  have a1:=kg.write (s:=.box (setCells d j (v'.get e).cells)) hp a6 b2 (by rw[hn];trivial) hρ (by rw[hn];exact .boxBox _ _) trivial
  have hrel:gB c (setCells d j (v'.get e).cells).cells vs.toList:=by
   rw[b4];have e1:(v'.get e).cells.length=(a.eval v).cells.toList.length:=rv.len.symm;rw[e1];simp only[vs];exact((c4.take j).append rv).append (c4.drop _)
  refine⟨_,_,c.ρ,_,.undef,exec g j cur ty he a6 (by rw[b3];omega),Or.inl ⟨rfl,hd⟩,a1.le,a1.heap hr ?_,⟨rfl,rfl,rfl⟩,hk⟩;have b1:=hrel.mono a1.le;simp only[av];exact⟨g,vs,ty,hρ,setRow_heap w g cur vs ty (0,0) a6,by simpa using hrel.len,λ k y hy=>⟨(b1.rel k y hy).1,by rw[<- aO];exact(b1.rel k y hy).2⟩⟩
 ·
  rename_i esz els;obtain⟨hi,hl,hk⟩:=I;have a8:=hr.slot n;rw[hn]at a8;obtain⟨e0,a2,Q,c0⟩:=a8;have a7:els[i]?=some els[i]:=by simp[hi]
  obtain⟨g,he,hρ,_⟩:=mem_row hr (by rw[hn];rfl) a7 rx;rcases c0 with⟨h1,_⟩|⟨g',cur,ty,h1,hg,b3,H⟩
  ·rw[hρ]at h1;cases h1
  ·rw[hρ]at h1;cases h1;have a6:w.heap[g]?=some (.cells cur ty (0,0)):=hp ▸ hg;have e5:els[i].cells.length=esz:=a2 _ (List.getElem_mem hi)
   have e2:i*esz+esz<=els.length*esz:=by
    have:=Nat.mul_le_mul_right esz (show i+1<=els.length from hi);grind
   have b7:=JX (d:=els[i]) (λ k y hy=>Q i k y (fL a7 hy));have b4:=xo (j:=j) (new:=(v'.get e).cells) b7 (by omega) (by omega) hone
   let vs:=(cur.toList.take (i*esz+j)++(a.eval v).cells.toList++cur.toList.drop (i*esz+j+(a.eval v).cells.toList.length)).toArray
   have b2:vs.size=cur.size:=by simp[vs,V];omega
   have a1:=kg.write (s:=.arr esz (els.set i (setCells els[i] j (v'.get e).cells))) hp a6 b2 (by rw[hn];trivial) hρ (by rw[hn];exact .arrArr _ _ _ (by simp)) trivial;refine⟨_,_,c.ρ,_,.undef,exec g _ cur ty he a6 (by omega),Or.inl ⟨rfl,hd⟩,a1.le,a1.heap hr ?_,⟨rfl,rfl,rfl⟩,hk _ a7⟩;simp only[av];have c6:(setCells els[i] j (v'.get e).cells).cells.length=esz:=by grind
   have c5:(a.eval v).cells.toList.length=size:=by simpa using V
   have get:∀k,vs.getD k Go.undef=if k<i*esz+j then cur.getD k Go.undef else if k<i*esz+j+size then(a.eval v).cells.toList.getD (k-(i*esz+j)) Go.undef else cur.getD k Go.undef:=by
    intro k;rw[<- aO];simp only[vs];rw[Nt _ _ _ _ _ (by simp[V];omega),c5,aO]
   have main:∀i' Z y,aT (els.set i (setCells els[i] j (v'.get e).cells)) i' Z=some y->y.one=true/\aB c y (vs.getD (i'*esz+Z) Go.undef):=by
    intro i' Z y hy;rcases PF hy with⟨rfl,G,_⟩|⟨hne,G⟩
    ·rw[b4]at G;have c8:Z<esz:=by grind
     rw[get];by_cases c1:Z<j
     ·rw[if_pos (by omega)];rw[List.append_assoc,List.getElem?_append_left (by simp;omega),List.getElem?_take,if_pos c1]at G;exact⟨Q _ _ _ (fL a7 G),H _ _ _ (fL a7 G)⟩
     ·by_cases c2:Z<j+size
      ·rw[if_neg (by omega),if_pos (by omega)];rw[List.append_assoc,List.getElem?_append_right (by simp;omega),List.getElem?_append_left (by simp;omega)]at G;have c3:min j els[i'].cells.length=j:=by omega
       rw[List.length_take,c3]at G;obtain⟨p1,p2⟩:=rv.rel _ _ G;grind
      ·rw[if_neg (by omega),if_neg (by omega)];rw[List.getElem?_append_right (by simp;omega),List.getElem?_drop]at G;have:j+(v'.get e).cells.length+(Z-(els[i'].cells.take j++(v'.get e).cells).length)=Z:=by simp;omega
       rw[this]at G;exact⟨Q _ _ _ (fL a7 G),H _ _ _ (fL a7 G)⟩
    ·refine⟨Q _ _ _ G,?_⟩
     have c8:Z<esz:=by
      unfold aT at G
      cases hz:els[i']? with
      | none=>simp[hz]at G
      | some z =>
       simp only[hz,Option.bind_some]at G;rw[<- a2 z (ak hz)];exact(ar.1 G).1
     rw[get]
     have b5:i'*esz+Z<i*esz+j\/i*esz+j+size<=i'*esz+Z:=by
      rcases Nat.lt_or_ge i' i with c7|e4
      ·left;have:=Nat.mul_le_mul_right esz (show i'+1<=i from c7);rw[Nat.add_mul]at this;omega
      ·right;have:=Nat.mul_le_mul_right esz (show i+1<=i' by omega);rw[Nat.add_mul]at this;omega
     rcases b5 with h|h
     ·rw[if_pos h];exact H _ _ _ G
     ·rw[if_neg (by omega),if_neg (by omega)];exact H _ _ _ G
   refine⟨e0,?_,λ i' Z y hy=>(main i' Z y hy).1,Or.inr ⟨g,vs,ty,hρ,setRow_heap w g cur vs ty (0,0) a6,by simp[b2];exact b3,λ i' Z y hy=>(main i' Z y hy).2.mono a1.le⟩⟩;intro z hz;rcases List.mem_or_eq_of_mem_set hz with h|h
   ·exact a2 z h
   ·rw[h];exact c6
end Go.Am
namespace Go.Am
open Go
variable [ca]
variable {P:Program}{nt:Nat}
def flat (els:List D):List D:=els.flatMap D.cells
theorem gu {esz:Nat}:∀{els:List D},(∀e∈els,e.cells.length=esz)->∀{i j:Nat}{d:D},aT els i j=some d->(flat els)[i*esz+j]?=some d
 | [],_,i,j,d,h=>by simp[aT]at h
 | e::r,hl,i,j,d,h=>by
  have he:=hl e (by simp);unfold flat;rw[List.flatMap_cons]
  cases i with
  | zero =>
   have h':e.cells[j]?=some d:=by simpa[aT] using h
   have G:=(ar.1 h').1;rw[Nat.zero_mul,Nat.zero_add,List.getElem?_append_left G];exact h'
  | succ i =>
   have h':aT r i j=some d:=by simpa[aT] using h
   rw[List.getElem?_append_right (by rw[he,Nat.add_mul];omega),he,show(i+1)*esz+j-esz=i*esz+j by rw[Nat.add_mul];omega];exact gu (λ e he=>hl e (by simp[he])) h'
theorem bE {esz:Nat}:∀{els:List D},(∀e∈els,e.cells.length=esz)->(flat els).length=els.length*esz
 | [],_=>by simp[flat]
 | e::r,hl=>by
  have:=bE (els:=r) (λ e he=>hl e (by simp[he]));unfold flat at this ⊢;rw[List.flatMap_cons,List.length_append,this,hl e (by simp),List.length_cons,Nat.add_mul];omega
theorem jX (a b:List D):flat (a++b)=flat a++flat b:=by simp[flat]
theorem xl {esz:Nat}(he:0<esz){els:List D}(hl:∀e∈els,e.cells.length=esz){k:Nat}{d:D}(h:(flat els)[k]?=some d):aT els (k / esz) (k % esz)=some d:=by
 have G:=(ar.1 h).1;rw[bE hl]at G;have hi:k / esz<els.length:=Nat.div_lt_of_lt_mul (by rw[Nat.mul_comm];exact G);have H:k % esz<esz:=Nat.mod_lt _ he;have hlen:=hl els[k / esz] (List.getElem_mem hi);have hc:aT els (k / esz) (k % esz)=some (els[k / esz].cells[k % esz]'(by omega)):=by simp[aT,hi,show k % esz<els[k / esz].cells.length by omega]
 have:=gu hl hc;rw[Nat.mul_comm,Nat.div_add_mod]at this;rw[hc, <- this,h]
theorem NY {c:Ctx}(hr:aA c) (n:Nat):c.le ⟨c.ρ,c.X,c.h.freeze n,c.hp⟩/\aA ⟨c.ρ,c.X,c.h.freeze n,c.hp⟩:=by
 cases hn:c.h n with
 | arr e l =>
  have H:c.h.freeze n=aF c.h n (.frz e l):=by simp[Heap.freeze,hn]
  rw[H]
  have sub:∀k,(aF c.h n (.frz e l) k).mine->(c.h k).mine:=by
   intro k V;by_cases h:k=n
   ·subst h;rw[hn];trivial
   ·simpa[aF,h] using V
  have hle:c.le ⟨c.ρ,c.X,aF c.h n (.frz e l),c.hp⟩:=by
   refine⟨Nat.le_refl _,rfl,λ _ _ _=>rfl,λ _ cur _ _ h=>⟨cur,h,rfl⟩,λ _ r h=>⟨r,h,rfl⟩,λ _ _=>rfl,λ k=>?_,λ k g hm hρ _=>⟨k,sub k hm,hρ⟩⟩;by_cases h:k=n
   ·subst h;simp only[av];rw[hn];exact .arrFrz _ _ _ (Nat.le_refl _)
   ·simp only[an _ _ h];exact Trans.refl _
  refine⟨hle,λ k=>?_,λ Q I g m1 m2 r1 Z=>hr.inj Q I g (sub Q m1) (sub I m2) r1 Z,λ k g hm hρ=>hr.apart k g (sub k hm) hρ,hr.xlt,?_,hr.glob.mono hle,hr.lo⟩
  ·by_cases h:k=n
   ·subst h;simp only[av];have hs:=hr.slot k;rw[hn]at hs;obtain⟨h1,h2,h3,h4⟩:=hs;refine⟨h1,h2,h3,?_⟩;rcases h4 with q|⟨g,cur,ty,G,q2,q3,q4⟩
    ·exact Or.inl q
    ·refine Or.inr ⟨g,cur,ty,(0,0),G,q2,q3,?_,λ i j d hd=>(q4 i j d hd).mono hle⟩;rintro (hX|⟨k',hm,hρ⟩)
     ·exact hr.apart k g (by rw[hn];trivial) G hX
     ·have:=hr.inj k' k g (sub k' hm) (by rw[hn];trivial) hρ G;subst this;simp[aF,Slot.mine]at hm
   ·simp only[an _ _ h];exact iz hle (hr.slot k) (λ _ _=>rfl) (λ _ _ _=>rfl)
  ·obtain⟨N,hN⟩:=hr.fin;refine⟨N+n+1,λ k V=>?_⟩;simp only[an _ _ (show k≠n by omega)];exact hN k (by omega)
 | _ =>
  have H:c.h.freeze n=c.h:=by simp[Heap.freeze,hn]
  rw[H];exact⟨Ctx.le.refl c,hr⟩
theorem dP {c:Ctx}(hr:aA c) (ns:List Nat):c.le ⟨c.ρ,c.X,c.h.freezeAll ns,c.hp⟩/\aA ⟨c.ρ,c.X,c.h.freezeAll ns,c.hp⟩:=by
 induction ns generalizing c with
 | nil=>exact⟨Ctx.le.refl c,hr⟩
 | cons n r G =>
  obtain⟨h1,h2⟩:=NY hr n;obtain⟨h3,h4⟩:=G h2;exact⟨h1.trans h3,h4⟩
theorem Pq {h:Heap}{n m esz:Nat}{els:List D}(hr:(h n).row=some (esz,els)):(h.freeze m n).row=some (esz,els):=by
 unfold Heap.freeze;cases hm:h m<;>simp only<;>try exact hr
 by_cases he:n=m
 ·subst he;rw[hm]at hr;simpa[aF,Slot.row] using hr
 ·simpa[aF,he] using hr
theorem Pr {h:Heap}{n m esz:Nat}{els:List D}(hr:h n=.frz esz els):h.freeze m n=.frz esz els:=by
 unfold Heap.freeze;cases hm:h m<;>simp only<;>try exact hr
 by_cases he:n=m
 ·subst he;rw[hm]at hr;cases hr
 ·simpa[aF,he] using hr
theorem zL {n esz:Nat}{els:List D}:∀(ns:List Nat){h:Heap},h n=.frz esz els->h.freezeAll ns n=.frz esz els
 | [],_,hr=>hr
 | _::r,_,hr=>zL r (Pr hr)
theorem fq {n esz:Nat}{els:List D}:∀(ns:List Nat){h:Heap},(h n).row=some (esz,els)->n∈ns->h.freezeAll ns n=.frz esz els
 | [],_,_,hm=>by simp at hm
 | m::r,h,hr,hm=>by
  by_cases he:n=m
  ·subst he;refine zL r ?_;unfold Heap.freeze;cases hn:h n<;>rw[hn]at hr<;>simp[Slot.row]at hr
   ·obtain⟨rfl,rfl⟩:=hr;simp[aF]
   ·obtain⟨rfl,rfl⟩:=hr;simpa using hn
  ·simp at hm;exact fq r (Pq hr) (by rcases hm with h|h;exact absurd h he;exact h)
theorem NZ {h:Heap}{n m:Nat}(hn:h n=.free):h.freeze m n=.free:=by
 unfold Heap.freeze;cases hm:h m<;>simp only<;>try exact hn
 by_cases he:n=m
 ·subst he;rw[hm]at hn;cases hn
 ·simpa[aF,he] using hn
theorem xk {n:Nat}:∀(ns:List Nat){h:Heap},h n=.free->h.freezeAll ns n=.free
 | [],_,hn=>hn
 | _::r,_,hn=>xk r (NZ hn)
theorem ZJ {c:Ctx}(hr:aA c){n off len esz:Nat}{els:List D}{v:Value}(hn:c.h n=.frz esz els) (h:aB c (.ms n off len) v) (hl:off+len<=els.length)
  (hv:∀x,x∈(els.drop off).take len->∀y∈x.cells,y.vone=true):aB c (.sl ((els.drop off).take len)) v:=by
 have hs:=hr.slot n;rw[hn]at hs;obtain⟨h1,h2,h3,h4⟩:=hs;by_cases h0:len=0
 ·subst h0;simp only[List.take_zero]
  cases h with
  | msDead _ _ _ _ _ _ hd=>rw[hn]at hd;cases hd
  | msNil _ _ _ _ _=>exact .iN _ _ (by simp[maxLen])
  | msE _ _ _ p _ _=>exact .iN _ _ (by simp[maxLen])
  | ms _ _ _ g I cap Q cur ty fr G hρ a1 hg hsz hc hm=>exact .iN _ _ hm
 ·have hlen:((els.drop off).take len).length=len:=by simp;omega
  cases h with
  | msDead _ _ _ _ _ _ hd=>rw[hn]at hd;cases hd
  | msNil _ _ _ _ _=>exact absurd rfl h0
  | msE _ _ _ p _ _=>exact absurd rfl h0
  | ms _ _ _ g I cap Q cur ty fr G hρ a1 hg hsz hc hm =>
   rw[hn]at G;simp[Slot.row]at G;obtain⟨rfl,rfl⟩:=G;rcases h4 with⟨q,_⟩|⟨g',cur',a6,a7,q1,q2,q3,q4,q5⟩
   ·rw[hρ]at q;cases q
   ·rw[hρ]at q1;cases q1
    have H:∀i j d,aT ((els.drop off).take len) i j=some d->aT els (off+i) j=some d:=by
     intro i j d hd;unfold aT at hd ⊢;rw[gF]at hd;split at hd
     ·exact hd
     ·simp at hd
    have:=aB.sl (c:=c) ((els.drop off).take len) g (off*esz) cap esz (λ i j=>cur'.getD ((off+i)*esz+j) Go.undef) (by intro e0;rw[e0]at hlen;simp at hlen;omega) (by omega) hm h1
     (λ e he=>h2 e (List.mem_of_mem_drop (List.mem_of_mem_take he)))
     (λ i j d hd=>by
      unfold aT at hd
      cases V:((els.drop off).take len)[i]? with
      | none=>simp[V]at hd
      | some z =>
       simp only[V,Option.bind_some]at hd
       exact hv z (ak V) d (ak hd))
     (λ i j d hd=>by
      have a2:=H i j d hd
      have Z:(off+i)*esz+j<cur'.size:=by
       have:=gu h2 a2;have:=(ar.1 this).1;rw[bE h2]at this;omega
      rw[show off*esz+(i*esz+j)=(off+i)*esz+j by rw[Nat.add_mul];omega]
      exact dC q2 Z) q4 (λ i j d hd=>q5 _ _ _ (H i j d hd))
    rw[hlen]at this;exact this
theorem QO {c c':Ctx}(hle:c.le c') (hr':aA c'){d:D}{v:Value}(h:aB c d v) (hok:p6 c.h d) (hfr:∀n esz els,n∈d.lG->(c.h n).row=some (esz,els)->c'.h n=.frz esz els) :
  aB c' (d.fzc c.h) v/\(d.one=true->(d.fzc c.h).one=true):=by
 cases d with
 | ms n off len =>
  obtain⟨esz,els,G,hl,I⟩:=hok;have H:D.fzc c.h (.ms n off len)=.sl ((els.drop off).take len):=by simp[D.fzc,G]
  rw[H];exact⟨ZJ hr' (hfr n esz els (by simp[D.lG]) G) (h.mono hle) hl I,λ _=>rfl⟩
 | _=>exact⟨h.mono hle,λ h=>h⟩
theorem Ft {c c':Ctx}(hle:c.le c') (hr':aA c'){d:D}{v:Value}(h:aB c d v) (h1:aL d) (hok:nN c.h d) (hfr:∀n esz els,n∈d.nm->(c.h n).row=some (esz,els)->c'.h n=.frz esz els) :
  aB c' (d.fz c.h) v/\aL (d.fz c.h)/\(d.fz c.h).cells.length=d.cells.length:=by
 by_cases ha:∃cs,d=.agg cs
 ·obtain⟨cs,rfl⟩:=ha;have G:D.fz c.h (.agg cs)=.agg (cs.map (D.fzc c.h)):=rfl;rw[G]
  cases h with
  | agg _ vs hsz hone hrel =>
   have key:∀(i:Nat) (d:D),(cs.map (D.fzc c.h))[i]?=some d->d.one=true/\aB c' d (vs.getD i Go.undef):=by
    intro i d hd;rw[List.getElem?_map]at hd
    cases hi:cs[i]? with
    | none=>simp[hi]at hd
    | some x =>
     simp[hi]at hd;subst hd;have hx:=ak hi;obtain⟨V,I⟩:=QO hle hr' (hrel i x hi) (hok x (by simpa[D.cells] using hx)) (λ n esz els hn Q=>hfr n esz els (by simp only[D.nm,List.mem_flatMap];exact⟨x,hx,hn⟩) Q);exact⟨I (hone i x hi),V⟩
   refine⟨.agg _ vs (by simpa using hsz) (λ i d hd=>(key i d hd).1) (λ i d hd=>(key i d hd).2),?_,by simp[D.cells]⟩;intro x hx;obtain⟨i,hi⟩:=ba (show x∈cs.map (D.fzc c.h) from hx);exact(key i x hi).1
 ·have hone:d.one=true:=by
   have:=h1 d (by cases d<;>simp_all [D.cells]);exact this
  have G:D.fz c.h d=D.fzc c.h d:=by cases d<;>simp_all [D.fz]
  have Z:d.nm=d.lG:=by cases d<;>simp_all [D.nm]
  rw[G];obtain⟨V,I⟩:=QO hle hr' h (hok d (by cases d<;>simp_all [D.cells])) (by rw[<- Z];exact hfr);have H:∀x:D,x.one=true->x.cells=[x]:=by intro x hx;cases x<;>simp_all [D.one,D.cells]
  refine⟨V,?_,by rw[H _ (I hone),H _ hone];rfl⟩;intro x hx;rw[H _ (I hone)]at hx;simp at hx;subst hx;exact I hone
end Go.Am
namespace Go.Am
open Go
variable [ca]
variable {P:Program}{nt:Nat}
theorem Fw {esz:Nat}{els:List D}(hl:∀e∈els,e.cells.length=esz){i:Nat}(hi:i<=els.length):(flat els).take (i*esz)=flat (els.take i):=by
 have h1:flat els=flat (els.take i)++flat (els.drop i):=by rw[<- jX,List.take_append_drop]
 grind [bE,List.length_take]
theorem Lr {esz:Nat}{els:List D}(hl:∀e∈els,e.cells.length=esz){i:Nat}(hi:i<=els.length):(flat els).drop (i*esz)=flat (els.drop i):=by
 have h1:flat els=flat (els.take i)++flat (els.drop i):=by rw[<- jX,List.take_append_drop]
 grind [bE,List.length_take]
theorem Uz {esz:Nat}{els:List D}(hl:∀e∈els,e.cells.length=esz){i:Nat}(hi:i<els.length) (d:D) :
  flat (els.set i d)=(flat els).take (i*esz)++d.cells++(flat els).drop (i*esz+esz):=by
 rw[List.set_eq_take_append_cons_drop,if_pos hi,jX,Fw hl (by omega),show i*esz+esz=(i+1)*esz by rw[Nat.add_mul];omega,Lr hl (by omega),List.append_assoc];simp[flat]
theorem A0 (els:List D):∀(ps:List (Nat×D)),(setEls els ps).length=els.length
 | []=>rfl
 | (i,d)::r=>by rw[setEls,A0 _ r,List.length_set]
theorem AZ {esz:Nat}:∀(ps:List (Nat×D)){els:List D},(∀e∈els,e.cells.length=esz)->(∀p∈ps,p.2.cells.length=esz)->∀e,e∈setEls els ps->e.cells.length=esz
 | [],_,hl,_=>hl
 | (i,d)::r,els,hl,hp=>by
  refine AZ r (λ e he=>?_) (λ p h=>hp p (by simp[h]));rcases List.mem_or_eq_of_mem_set he with h|h
  ·exact hl e h
  ·rw[h];exact hp (i,d) (by simp)
theorem Bu {esz:Nat}:∀(ps:List (Nat×D)){els:List D},(∀e∈els,e.cells.length=esz)->(∀p∈ps,p.2.cells.length=esz/\p.1<els.length) ->
  fillD (flat els) (ps.map λ p=>(p.1*esz,esz,p.2.cells))=flat (setEls els ps)
 | [],_,_,_=>rfl
 | (i,d)::r,els,hl,hp=>by
  obtain⟨h1,h2⟩:=hp (i,d) (by simp);rw[List.map_cons,fillD,setEls, <- Uz hl h2];refine Bu r (λ e he=>?_) (λ p h=>?_)
  ·grind
  grind
def cPartsS (len:Nat):List (Nat×Operand)->Option (List (Nat×Arg))
 | []=>some []
 | (i,x)::r=>if i<len then match cArg x,cPartsS len r with
  | some y,some s=>some ((i,y)::s)
  | _,_=>none else none
theorem ug {len:Nat}:∀{ps:List (Nat×Operand)}{qs:List (Nat×Arg)},cPartsS len ps=some qs ->
  ps.length=qs.length/\∀(k:Nat) (p:Nat×Operand) (q:Nat×Arg),ps[k]?=some p->qs[k]?=some q->p.1=q.1/\cArg p.2=some q.2/\q.1<len
 | [],qs,h=>by grind [cPartsS]
 | (i,x)::r,qs,h=>by
  simp only[cPartsS]at h;split at h
  ·rename_i hi
   cases h2:cArg x with
   | none=>simp[h2]at h
   | some y =>
    cases h3:cPartsS len r with
    | none=>simp[h2,h3]at h
    | some s =>
     simp[h2,h3]at h;subst h;obtain⟨l,G⟩:=ug h3;grind
  ·cases h
theorem K0 {c:Ctx}{zd:D}{z:Value}(hz:gB c zd.cells z.cells.toList){esz len:Nat}(hsz:zd.cells.length=esz) (hpos:0<esz) :
  gB c (flat (List.replicate len zd)) ((Array.range (len*esz)).map (λ k=>z.cells[k % z.cells.size]!)).toList:=by
 have G:∀e,e∈List.replicate len zd->e.cells.length=esz:=λ e he=>by grind
 have I:z.cells.size=esz:=by rw[<- hsz, <- hz.len];simp
 refine⟨by rw[bE G];simp,λ k d hd=>?_⟩;have H:=(ar.1 hd).1;rw[bE G]at H;simp at H;obtain⟨_,h2⟩:=iJ (xl hpos G hd);obtain⟨V,Q⟩:=hz.rel _ d h2;grind
theorem Zk {o:Oper}{t elem:TypeId}{len esz:Nat}{ps:Array (Nat×Operand)}{qs:List (Nat×Arg)}{zd:D}(fz:Bool) (ho:o.op=.buildSlice t len ps) (hu:P.underlying t=some (.slice elem))
  (ht:(P.info? elem).map (·.size)=some esz) (hpos:0<esz) (hz:fM P elem=some zd) (hsz:zd.cells.length=esz) (hq:cPartsS len ps.toList=some qs) (hmax:len*esz<=16777216)
  (hd:∀i,o.dst=some i->i<nt):fT P nt o (.bldS fz esz len zd qs):=by
 obtain⟨z,c5,b2⟩:=hQ hz;refine fT.unit λ K e c w a hv hp hr hs=>?_
 simp only[vcOp,FC,LI]at hv;obtain⟨a2,e7,hk⟩:=hv;obtain⟨n,b4⟩:=ft hr;have hn:=b4.free;obtain⟨hlen,I⟩:=ug hq
 let ns:List Nat:=if fz then qs.flatMap λ p=>(p.2.get e).nm else []
 let h1:Heap:=c.h.freezeAll ns
 let c1:Ctx:=⟨c.ρ,c.X,h1,c.hp⟩
 obtain⟨a7,c7⟩:=dP hr ns;have e0:h1 n=.free:=xk ns hn
 let D':Nat×Arg->D:=λ p=>if fz then(p.2.get e).fz c.h else p.2.get e
 have V:∀(k:Nat) (p:Nat×Operand) (q:Nat×Arg),ps.toList[k]?=some p->qs[k]?=some q->aB c1 (D' q) (a.eval p.2)/\aL (D' q)/\(D' q).cells.length=esz:=by
  intro k p q a1 Q;obtain⟨_,s2,_⟩:=I k p q a1 Q;have c3:=ak Q;obtain⟨_,q2,q3⟩:=a2 q c3;have rel:=aJ s2 hs;by_cases hf:fz=true
  ·grind [Ft,fq]
  ·have hD:D' q=q.2.get e:=by simp[D',hf]
   rw[hD];exact⟨rel.mono a7,q3,q2⟩
 let els:=setEls (List.replicate len zd) (qs.map λ p=>(p.1,D' p))
 have H:∀e,e∈List.replicate len zd->e.cells.length=esz:=λ e he=>by grind
 have Z:∀p,p∈qs.map (λ p=>(p.1,D' p))->p.2.cells.length=esz/\p.1<(List.replicate len zd).length:=by
  intro p c2;simp only[List.mem_map]at c2;obtain⟨q,c8,rfl⟩:=c2;obtain⟨k,e1⟩:=ba c8;have e6:k<ps.toList.length:=by grind
  have:=V k ps.toList[k] q (by simp) e1;grind
 have a6:∀e∈els,e.cells.length=esz:=AZ _ H (λ p hp=>(Z p hp).1);have e4:els.length=len:=by grind [A0]
 have c4:=dE (jA b2 c1) (gW b2)
 let a8:=(Array.range (len*esz)).map (λ k=>z.cells[k % z.cells.size]!)
 let vals:List (Nat×Value):=ps.toList.map λ p=>(p.1,a.eval p.2)
 obtain⟨G,g1,g2,g3⟩:=Jz (c:=c1) (λ i=>some (i*esz,esz)) vals ((qs.map λ p=>(p.1,D' p)).map λ p=>(p.1*esz,esz,p.2.cells)) a8 (flat (List.replicate len zd)) (K0 c4 hsz hpos)
  (by simp[vals,hlen]) (by
   intro k p q a1 Q;simp only[vals,List.getElem?_map,Option.map_eq_some_iff]at a1 Q;obtain⟨p',hp',rfl⟩:=a1;obtain⟨e5,⟨q',b7,rfl⟩,rfl⟩:=Q;obtain⟨s1,s2,s3⟩:=I k p' q' hp' b7;obtain⟨f1,f2,f3⟩:=V k p' q' hp' b7;refine⟨by simp[s1],dE f1 f2,f3,?_⟩;rw[bE H];simp only[List.length_replicate];have:=Nat.mul_le_mul_right esz (show q'.1+1<=len from s3)
   grind)
 rw[Bu _ H Z]at g2
 have e3:G.size=len*esz:=by
  have:=g2.len;grind [bE]
 have b1:=kg.new (c:=c1) (s:=.arr esz els) e0 trivial (.cells G elem) (hp':=(w.alloc (.cells G elem)).heap) (by simp only[c1];rw[hp];rfl)
 have b5:(execOp a.eval o).run P w=.ok (.value (.slice (some ⟨w.heap.size,0,none⟩) len len)) (w.alloc (.cells G elem)):=by
  have b3:ps.map (λ(i,x)=>(i,a.eval x))=vals.toArray:=by apply Array.ext';simp[vals]
  by_cases h0:len*esz=0
  ·have c6:a8 = #[]:=by grind
   rw[c6]at g1;simp[execOp,ho,b3,Instr.buildSlice,run_underlying hu,run_sizeOf ht,h0,Array.range_zero',g1,cA]
  ·simp[execOp,ho,b3,Instr.buildSlice,run_underlying hu,run_sizeOf ht,h0,show ¬(16777216<len*esz) by omega,bX c5,a8]at g1 ⊢;simp[g1,cA]
 have c0:c1.hp.size=w.heap.size:=by simp only[c1];rw[hp]
 refine⟨_,_,aF c.ρ n (some c1.hp.size),aF h1 n (.arr esz els),.ms n 0 len,b5,Or.inr ⟨_,rfl,hd,?_⟩,a7.trans b1.le,b1.heap c7 ?_,⟨rfl,rfl,rfl⟩,?_⟩
 ·have:=aB.ms (c:=⟨aF c.ρ n (some c1.hp.size),c.X,aF h1 n (.arr esz els),(w.alloc (.cells G elem)).heap⟩) n 0 len w.heap.size esz len els G elem (0,0) (by simp[aF,Slot.row]) (by simp[aF,c0])
   (by omega) (o9 _ _) (by rw[e3];simp) (Nat.le_refl _) (by unfold maxLen;have:=Nat.le_mul_of_pos_right len hpos;omega)
  simpa using this
 ·simp only[av];refine JU (hp:=w.heap) rfl (by simp[aF,c0]) hpos a6 (by grind) (λ i j d e2=>?_);obtain⟨p1,p2⟩:=g2.rel _ d (gu a6 e2);rw[aO]at p2;exact⟨p1,p2.mono b1.le⟩
 grind [Heap.freezeAll]
end Go.Am
namespace Go.Am
open Go
variable [ca]
variable {P:Program}{nt:Nat}
structure Src (P:Program) (c:Ctx) (w:World) (esz:Nat) (ys:List D) (v:Value):Prop where
 uni:∀e∈ys,e.cells.length=esz
 row:∃(p:Option Addr) (cap:Nat) (news:List Value),v=.slice p ys.length cap/\ys.length<=maxLen/\gB c (flat ys) news /\
  ∀(k:Nat) (w':World),k<=ys.length->w'.heap=w.heap->(Builtin.firstCells esz k v).run P w'=.ok (news.take (k*esz)).toArray w'
theorem Qi {c:Ctx}{w:World}(hp:c.hp=w.heap){esz:Nat}(hpos:0<esz){ys:List D}(huni:∀e∈ys,e.cells.length=esz) (hone:∀y∈ys,aL y){b o cap:Nat}
  (hcell:∀i j d,aT ys i j=some d->∃v,cellOf c.hp b (o+(i*esz+j))=some v/\aB c d v) (hm:ys.length<=maxLen):Src P c w esz ys (.slice (some ⟨b,o,none⟩) ys.length cap):=by
 let news:List Value:=(List.range (ys.length*esz)).map λ k=>(cellOf c.hp b (o+k)).getD Go.undef
 have I:news.length=ys.length*esz:=by simp[news]
 have H:∀(k:Nat) (d:D),(flat ys)[k]?=some d->cellOf c.hp b (o+k)=some (news.getD k Go.undef)/\aB c d (news.getD k Go.undef):=by
  intro k d hd;have hk:=(ar.1 hd).1;rw[bE huni]at hk;obtain⟨v,h1,h2⟩:=hcell _ _ _ (xl hpos huni hd);grind [Nat.div_add_mod]
 refine⟨huni,some ⟨b,o,none⟩,cap,news,rfl,hm,⟨by rw[I,bE huni],λ k d hd=>⟨?_,(H k d hd).2⟩⟩,λ k w' hk hw=>?_⟩
 ·have G:=ak hd;simp only[flat,List.mem_flatMap]at G;obtain⟨y,hy,Z⟩:=G;exact hone y hy d Z
 ·have hl:(news.take (k*esz)).length=k*esz:=by
   grind [Nat.mul_le_mul_right]
  have:=run_loadCells_list (P:=P) (w:=w') ⟨b,o,none⟩ (news.take (k*esz)) (λ j v V=>by
   rw[List.getElem?_take]at V;split at V
   ·rename_i a1
    have Q:j<(flat ys).length:=by
     grind [bE]
    obtain⟨h1,_⟩:=H j (flat ys)[j] (by simp[Q]);grind [Addr.add_lit,pD]
   ·cases V)
  grind [Builtin.firstCells]
theorem Ig {c:Ctx}{w:World}{esz:Nat}(p:Option Addr) (cap:Nat):Src P c w esz [] (.slice p 0 cap):=by
 refine⟨by simp,p,cap,[],rfl,by simp[maxLen],⟨rfl,by simp[flat]⟩,λ k w' H _=>?_⟩;have G:k=0:=by simpa using H
 subst G
 cases p with
 | none=>simp[Builtin.firstCells]
 | some a=>simp[Builtin.firstCells,loadCells,loadCellsFrom]
theorem AO {c:Ctx}{w:World}(hr:aA c) (hp:c.hp=w.heap){esz:Nat}(hpos:0<esz){d:D}{v:Value}(h:aB c d v){K:List D->Prop}(hv:velems esz d c.h λ ys=>(∀y∈ys,aL y)/\K ys) :
  ∃ys,K ys/\(∀y∈ys,aL y)/\Src P c w esz ys v:=by
 unfold velems at hv;split at hv
 ·cases h;grind [Ig]
 ·rename_i xs;obtain⟨a6,hone,hk⟩:=hv;refine⟨xs,hk,hone,?_⟩
  cases h with
  | iN p cap hm=>exact Ig _ _
  | sl _ b o cap V f hne hc hm he hlen a1 hcell hown hrel =>
   grind [Qi,aT]
 ·rename_i n off len;obtain⟨els,I,hl,hone,hk⟩:=hv;obtain⟨_,H,Z,hm⟩:=Qn hr I;have hlen:((els.drop off).take len).length=len:=by simp;omega
  refine⟨_,hk,hone,?_⟩
  cases h with
  | msDead _ _ _ _ _ _ hd=>grind [Slot.row]
  | msNil _ _ _ _ _=>grind [Ig]
  | msE _ _ _ p _ _=>grind [Ig]
  | ms _ _ _ g V cap a8 cur ty fr G hρ b2 hg hsz hc a7 =>
   rw[I]at G;simp at G;obtain⟨rfl,rfl⟩:=G;rcases hm with⟨q,_⟩|⟨g',cur',b1,b3,q1,q2,q3,q4⟩
   ·rw[hρ]at q;cases q
   ·rw[hρ]at q1;cases q1
    have:=Qi (P:=P) (cap:=cap) (b:=g) (o:=off*esz) hp hpos (ys:=(els.drop off).take len) (λ e he=>H e (List.mem_of_mem_drop (List.mem_of_mem_take he))) hone (λ i j d hd=>by
     have Q:aT els (off+i) j=some d:=by
      unfold aT at hd ⊢;rw[gF]at hd;split at hd
      ·exact hd
      ·simp at hd
     have a2:(off+i)*esz+j<cur'.size:=by
      have:=(ar.1 (gu H Q)).1;rw[bE H]at this;omega
     refine⟨_,?_,q4 _ _ _ Q⟩;rw[show off*esz+(i*esz+j)=(off+i)*esz+j by rw[Nat.add_mul];omega]
     exact dC q2 a2) (by rw[hlen];omega)
    rw[hlen]at this;exact this
 ·exact hv.elim
def Heap.killO (h:Heap):Option Nat->Heap
 | some k=>aF h k .dead
 | none=>h
theorem Jx {c:Ctx}(hr:aA c){n:Nat}(hn:c.h n=.free) (m:Option Nat) (hm:∀k,m=some k->∃e l,c.h k=.arr e l){esz:Nat}(hpos:0<esz) :
  c.le ⟨aF c.ρ n none,c.X,aF (c.h.killO m) n (.arr esz []),c.hp⟩ /\
  aA ⟨aF c.ρ n none,c.X,aF (c.h.killO m) n (.arr esz []),c.hp⟩:=by
 let h1:Heap:=c.h.killO m
 have I:∀k,h1 k=c.h k\/(h1 k=.dead/\∃e l,c.h k=.arr e l):=by
  intro k;simp only[h1]
  cases m with
  | none=>exact Or.inl rfl
  | some j =>
   by_cases H:k=j
   ·subst H;exact Or.inr ⟨by simp[Heap.killO,aF],hm k rfl⟩
   ·exact Or.inl (by simp[Heap.killO,aF,H])
 have sub:∀k,k≠n->(aF h1 n (.arr esz []) k).mine->(c.h k).mine:=by
  intro k H G;rw[an _ _ H]at G;rcases I k with h|⟨h,_⟩
  ·rw[h]at G;exact G
  ·rw[h]at G;cases G
 have hle:c.le ⟨aF c.ρ n none,c.X,aF h1 n (.arr esz []),c.hp⟩:=by
  refine⟨Nat.le_refl _,rfl,λ _ _ _=>rfl,λ _ cur _ _ h=>⟨cur,h,rfl⟩,λ _ r h=>⟨r,h,rfl⟩,λ k H=>?_,λ k=>?_,λ k g G hρ _=>?_⟩
  ·have:k≠n:=by rintro rfl;exact H hn
   simp[aF,this]
  ·by_cases H:k=n
   ·subst H;simp only[av];rw[hn];exact .free _
   ·simp only[an _ _ H];rcases I k with h|⟨h,e,l,h'⟩
    ·rw[h];exact Trans.refl _
    ·rw[h,h'];exact .arrDead _ _
  ·by_cases H:k=n
   ·subst H;simp[aF]at hρ
   ·exact⟨k,sub k H G,by simpa[aF,H] using hρ⟩
 refine⟨hle,λ k=>?_,λ Z V g m1 m2 r1 r2=>?_,λ k g G hρ=>?_,hr.xlt,?_,hr.glob.mono hle,hr.lo⟩
 ·by_cases H:k=n
  ·subst H;simp only[av];exact⟨hpos,by simp,λ i j d hd=>by simp[aT]at hd,Or.inl ⟨by simp[aF],rfl⟩⟩
  ·simp only[an _ _ H];show dk _ k (h1 k)
   rcases I k with h|⟨h,_⟩
   ·rw[h];exact iz hle (hr.slot k) (λ _ _=>by simp[aF,H]) (λ _ _ _=>rfl)
   ·rw[h];trivial
 ·have Q:Z≠n:=by rintro rfl;simp[aF]at r1
  have n2:V≠n:=by rintro rfl;simp[aF]at r2
  exact hr.inj Z V g (sub Z Q m1) (sub V n2 m2) (by simpa[aF,Q] using r1) (by simpa[aF,n2] using r2)
 ·have Q:k≠n:=by rintro rfl;simp[aF]at hρ
  exact hr.apart k g (sub k Q G) (by simpa[aF,Q] using hρ)
 ·obtain⟨N,hN⟩:=hr.fin;refine⟨N+n+1,λ k H=>?_⟩;simp only[an _ _ (show k≠n by omega)];show h1 k=.free
  rcases I k with h|⟨h,e,l,h'⟩
  ·rw[h];exact hN k (by omega)
  ·rw[hN k (by omega)]at h';cases h'
theorem o8 {t t' e ty:TypeId}{i:TypeInfo}{z:Value}(ht:P.underlying t=some (.slice e)) (ht':∃e',P.underlying t'=some (.slice e')) (hi:P.info? e=some i) (hz:i.zero=some z)
  {w:World}{base p:Option Addr}{sLen sCap n cp:Nat}{olds news:List Value}
  (hnews:∀w':World,w'.heap=w.heap->(Builtin.firstCells i.size n (.slice p n cp)).run P w'=.ok news.toArray w')
  (holds:∀w':World,w'.heap=w.heap->(Builtin.firstCells i.size sLen (.slice base sLen sCap)).run P w'=.ok olds.toArray w')
  (h63:sLen+n<=9223372036854775807) (hby:(sLen+n)*i.bytes<=140737488355328) :
  (sLen+n<=sCap->∀w',(match base with|some a=>storeCells (a.add (sLen*i.size)) news|none=>(pure ():Sem Unit)).run P w=.ok () w' ->
   (Builtin.append_ #[t,t'] ty #[.slice base sLen sCap,.slice p n cp]).run P w=.ok (.slice base (sLen+n) sCap) w') /\
  (sCap<sLen+n->(Builtin.append_ #[t,t'] ty #[.slice base sLen sCap,.slice p n cp]).run P w =
   .ok (.slice (some ⟨w.heap.size,0,none⟩) (sLen+n) (grownCap w (sLen+n) sCap e))
    (w.drew.alloc (.cells (olds.toArray++news.toArray++Builtin.zeroCells z.cells (grownCap w (sLen+n) sCap e-(sLen+n))) e))):=by
 obtain⟨e',ht'⟩:=ht';constructor
 ·intro hle w' G
  cases base with
  | none =>
   simp only[Sem.run_pure]at G;cases G;simp[Builtin.append_,run_underlying ht,run_underlying ht',sizeOf,typeInfo,hi,Builtin.lenOf,hle,hnews w rfl]
  | some a =>
   simp only at G;simp[Builtin.append_,run_underlying ht,run_underlying ht',sizeOf,typeInfo,hi,Builtin.lenOf,hle,hnews w rfl,G]
 ·intro Q;have hn:¬(sLen+n<=sCap):=by omega
  have H:¬(9223372036854775807<((sLen:Int)+(n:Int))):=by omega
  have Z:=growslice_fits Q hby
  have I:¬(281474976710656<Builtin.nextslicecap (sLen+n) sCap*i.bytes):=by omega
  have hf:=hnews w.drew rfl;have V:=holds w.drew rfl;simp[Builtin.append_,run_underlying ht,run_underlying ht',sizeOf,typeInfo,zeroValue,hi,hz,Builtin.lenOf,hn,H,I,Question.forced,hf,V,newRow,grownCap];congr 2;apply Array.ext';simp[List.append_assoc]
def isZ:Option Arg->Bool
 | some (.c (.int _ 0))=>true
 | _=>false
theorem NO {x:Option Arg}(h:isZ x=true) (e:LEnv) (n:Nat):vopt e x n (· = 0):=by
 unfold isZ at h;split at h
 ·exact rfl
 ·cases h
theorem Lh {c:Ctx}(hr:aA c){n:Nat}(hn:Trans (c.h n) .dead) (hf:c.h n≠.free):c.le ⟨c.ρ,c.X,aF c.h n .dead,c.hp⟩/\aA ⟨c.ρ,c.X,aF c.h n .dead,c.hp⟩:=by
 have sub:∀k,(aF c.h n .dead k).mine->(c.h k).mine:=by
  intro k G;by_cases h:k=n
  ·subst h;simp[aF,Slot.mine]at G
  ·simpa[aF,h] using G
 have hle:c.le ⟨c.ρ,c.X,aF c.h n .dead,c.hp⟩:=by
  refine⟨Nat.le_refl _,rfl,λ _ _ _=>rfl,λ _ cur _ _ h=>⟨cur,h,rfl⟩,λ _ r h=>⟨r,h,rfl⟩,λ _ _=>rfl,λ k=>?_,λ k g hm hρ _=>⟨k,sub k hm,hρ⟩⟩;by_cases h:k=n
  ·subst h;simp only[av];exact hn
  ·simp only[an _ _ h];exact Trans.refl _
 refine⟨hle,λ k=>?_,λ I H g m1 Z V Q=>hr.inj I H g (sub I m1) (sub H Z) V Q,λ k g hm hρ=>hr.apart k g (sub k hm) hρ,hr.xlt,?_,hr.glob.mono hle,hr.lo⟩
 ·by_cases h:k=n
  ·subst h;simp only[av];trivial
  ·simp only[an _ _ h];exact iz hle (hr.slot k) (λ _ _=>rfl) (λ _ _ _=>rfl)
 ·obtain⟨N,hN⟩:=hr.fin;refine⟨N+n+1,λ k G=>?_⟩;simp only[an _ _ (show k≠n by omega)];exact hN k (by omega)
theorem aa2 {o:Oper}{t elem:TypeId}{x:Operand}{x':Arg}{n:Nat}(ho:o.op=.slice t x none none none) (hx:cArg x=some x')
  (hd:∀i,o.dst=some i->i<nt) (hu:P.underlying t=some (.array n elem)) (ht:(P.info? elem).map (·.size)=some 1):fT P nt o (.SP x' n):=by
 refine fT.unit λ K e c w a G hp hr hs=>?_
 have rx:=aJ hx hs;simp only[vcOp]at G;generalize b4:x'.get e=dx at G rx;cases dx<;>try exact G.elim
 rename_i m i j;cases hm:c.h m<;>simp only[hm]at G<;>try exact G.elim
 rename_i v;cases v<;>simp only at G<;>try exact G.elim
 rename_i cs;obtain⟨rfl,b3,b2,hj,hone,hk⟩:=G;have a1:=hr.slot m;rw[hm]at a1;obtain⟨g,cur,ty,h1,h2,h3,h4⟩:=a1;obtain⟨k1,k2⟩:=Lh hr (n:=m) (by rw[hm];exact .boxDead _) (by rw[hm];simp);generalize b1:a.eval x=vx at rx
 cases rx with
 | ptrDead _ _ _ _ _ a8=>rw[a8]at hm;cases hm
 | ptrRow _ _ _ _ _ _ H _ _=>rw[hm]at H;simp[Slot.row]at H
 | ptrBox _ _ g' v' hb hρ =>
  rw[h1]at hρ;cases hρ
  have a2:(execOp a.eval o).run P w=.ok (.value (.slice (some ⟨g,j,none⟩) n n)) w:=by
   have hb:(Instr.sliceBounds false n n none none none).run P w=.ok (0,n,n) w :=
    eV (by simp) (λ v y cd h hy=>by cases h) (λ _=>rfl) (λ v y cd h hy=>by cases h) (λ _=>rfl) (λ v y cd h hy=>by cases h) (λ _=>rfl) (Nat.zero_le _) (Nat.le_refl _) (Nat.le_refl _) false
   have hne:n≠0:=by omega
   simp[execOp,ho,b1,Instr.sliceAt,Instr.slice,Sem.run_bind,Result.andThen,run_underlying hu,run_sizeOf ht,hb,Instr.sureAddr,Addr.add_lit,hne]
  have hlen:((cs.drop j).take n).length=n:=by rw[List.length_take,List.length_drop];omega
  have I:∀(i:Nat) (d:D),((cs.drop j).take n)[i]?=some d->cs[j+i]?=some d:=by
   intro i d hd;rw[List.getElem?_take]at hd;split at hd
   ·rw[List.getElem?_drop]at hd;exact hd
   ·cases hd
  have cell:∀(i k:Nat) (d:D),aT ((cs.drop j).take n) i k=some d->k=0/\((cs.drop j).take n)[i]?=some d:=by
   intro i k d hd;simp only[aT,Option.bind_eq_some_iff]at hd;obtain⟨y,hy,hk⟩:=hd;have Q:=hone y (ak hy);have a6:y.cells=[y]:=by cases y<;>first|rfl|cases Q
   rw[a6]at hk
   cases k with
   | zero=>simp at hk;subst hk;exact⟨rfl,hy⟩
   | succ k=>simp at hk
  have hnown:¬(⟨c.ρ,c.X,aF c.h m .dead,c.hp⟩:Ctx).own g:=by
   rintro (hX|⟨q,hq,hρ⟩)
   ·exact hr.apart m g (by rw[hm];trivial) h1 hX
   ·by_cases V:q=m
    ·subst V;simp[aF,Slot.mine]at hq
    ·simp only[an _ _ V]at hq;exact V (hr.inj q m g hq (by rw[hm];trivial) hρ h1)
  have hsz:cur.size=cs.length:=h3;refine⟨_,w,c.ρ,aF c.h m .dead,.sl ((cs.drop j).take n),a2,Or.inr ⟨_,rfl,hd,?_⟩,?_,?_,WS.refl w,hk⟩
  ·rw[<- hp]
   have:=aB.sl (c:=⟨c.ρ,c.X,aF c.h m .dead,c.hp⟩) ((cs.drop j).take n) g j n 1 (λ i _=>cur.getD (j+i) Go.undef) (by intro h0;rw[h0]at hlen;simp at hlen;omega) (by omega) (by unfold maxLen;omega) (by omega)
    (λ y hy=>by have Q:=hone y hy;cases y<;>first|rfl|cases Q)
    (λ i k d hd=>hone d (ak (cell i k d hd).2))
    (λ i k d hd=>by
     obtain⟨rfl,Z⟩:=cell i k d hd;have a7:=(ar.1 (I i d Z)).1;simp only[cellOf,h2,Nat.mul_one,Nat.add_zero];have:j+i<cur.size:=by rw[hsz];exact a7
     simp[this])
    hnown
    (λ i k d hd=>by
     obtain⟨rfl,Z⟩:=cell i k d hd
     exact((h4 (j+i) d (I i d Z)).2).mono k1)
   rw[hlen]at this;exact this
  ·rw[<- hp];exact k1
  ·rw[<- hp];exact k2
theorem aa0 {o:Oper}{t elem:TypeId}{x hi mx:Operand}{x':Arg}{hi' mx':Option Arg}{esz:Nat}(ho:o.op=.slice t x none (some hi) (some mx)) (hx:cArg x=some x')
  (hhi:cOpt (some hi)=some hi') (hmx:cOpt (some mx)=some mx') (hz1:isZ hi'=true) (hz2:isZ mx'=true)
  (hd:∀i,o.dst=some i->i<nt) (hu:P.underlying t=some (.slice elem)) (ht:(P.info? elem).map (·.size)=some esz) (hpos:0<esz):fT P nt o (.slz x' esz):=by
 refine fT.unit λ K e c w a I hp hr hs=>?_
 have rx:=aJ hx hs;simp only[vcOp]at I
 have form:∃p len cap,a.eval x=.slice p len cap/\∀n,qE c.h n->K (.ms n 0 0) (aF c.h n (.arr esz [])):=by
  generalize b2:x'.get e=dx at I rx;cases dx<;>try exact I.elim
  ·generalize a.eval x=vx at rx
   cases rx with
   | nil=>exact⟨_,_,_,rfl,I⟩
  ·obtain⟨p,cap,he,a7,a6⟩:=Gp rx;exact⟨_,_,_,he,I⟩
  ·obtain⟨⟨els,G⟩,H⟩:=I;generalize a.eval x=vx at rx
   cases rx with
   | msDead _ _ _ _ _ _ a2=>rw[a2]at G;simp[Slot.row]at G
   | msNil _ _ _ _ _=>exact⟨_,_,_,rfl,H⟩
   | msE _ _ _ p _ _=>exact⟨_,_,_,rfl,H⟩
   | ms _ _ _ g a8 cap b1 cur ty fr a1 hρ hl hg hsz hc hm=>exact⟨_,_,_,rfl,H⟩
 obtain⟨p,len,cap,he,H⟩:=form;obtain⟨r,r1,-,rr⟩:=fJ (P:=P) (dflt:=0) hs hhi (NO hz1 e 0);obtain⟨m,m1,-,mr⟩:=fJ (P:=P) (dflt:=0) hs hmx (NO hz2 e 0);subst r1 m1
 have hb:(Instr.sliceBounds true len cap none (some (a.eval hi)) (some (a.eval mx))).run P w=.ok (0,0,0) w :=
  eV (by simp) (λ v y Z h hy=>by cases h) (λ _=>rfl) (λ v y Z h hy=>by simpa using rr v y Z w (by simpa using h) (Int.le_refl _) (by simpa using hy)) (λ h=>by cases h)
   (λ v y Z h hy=>by simpa using mr v y Z w (by simpa using h) (Int.le_refl _) (by simpa using hy)) (λ h=>by cases h) (Nat.le_refl _) (Nat.le_refl _) (Nat.zero_le _) true
 obtain⟨n,Q⟩:=ft hr;obtain⟨g1,g2⟩:=Jx hr Q.free none (λ k H=>by cases H) hpos;rw[hp]at g1 g2
 have V:(execOp a.eval o).run P w=.ok (.value (.slice p 0 0)) w:=by
  simp[execOp,ho,he,Instr.sliceAt,Instr.slice,Sem.run_bind,Result.andThen,run_underlying hu,run_sizeOf ht,hb]
 exact⟨_,_,_,_,.ms n 0 0,V,Or.inr ⟨_,rfl,hd,.msE n 0 esz p [] (by simp[aF,Slot.row])⟩,g1,g2,WS.refl w,H n Q⟩
end Go.Am
namespace Go.Am
open Go
variable [ca]
variable {P:Program}{nt:Nat}
theorem PB (z:Array Value) (n:Nat):(Builtin.zeroCells z n).size=n*z.size:=by simp[Builtin.zeroCells]
theorem Rb {c:Ctx}{w:World}{K:HKq}(hr:aA c) (hp:c.hp=w.heap){esz:Nat}(hpos:0<esz){els ys:List D}(hlens:∀e∈els,e.cells.length=esz) (hones:mW els)
  (huni:∀e∈ys,e.cells.length=esz) {olds news:List Value}(ro:gB c (flat els) olds) (rn:gB c (flat ys) news) (m:Option Nat) (hm:∀k,m=some k->∃l,c.h k=.arr esz l)
  (hk:∀n,qE c.h n->K (.ms n 0 (els.length+ys.length)) (aF (c.h.killO m) n (.arr esz (els++ys)))) (hmax:els.length+ys.length<=maxLen) :
  (∀(vs:Array Value) (ty:TypeId) (cap:Nat) (w':World),w'.heap=w.heap.push (.cells vs ty)->WS w w'->(olds++news) <+: vs.toList->cap*esz<=vs.size->els.length+ys.length<=cap->cap<=maxLen ->
   ∃ρ h' d,aB ⟨ρ,c.X,h',w'.heap⟩ d (.slice (some ⟨w.heap.size,0,none⟩) (els.length+ys.length) cap)/\c.le ⟨ρ,c.X,h',w'.heap⟩/\aA ⟨ρ,c.X,h',w'.heap⟩/\K d h') /\
  (∀(p:Option Addr),els.length+ys.length=0 ->
   ∃ρ h' d,aB ⟨ρ,c.X,h',w.heap⟩ d (.slice p 0 0)/\c.le ⟨ρ,c.X,h',w.heap⟩/\aA ⟨ρ,c.X,h',w.heap⟩/\K d h'):=by
 obtain⟨n,ht⟩:=ft hr;have hn:=ht.free
 have Q:∀e,e∈els++ys->e.cells.length=esz:=by
  grind
 constructor
 ·intro vs ty cap w' Z b1 a2 I hle a7
  let G:Heap:=c.h.killO m
  have hne:∀k,m=some k->k≠n:=by
   grind
  have V:kg c ⟨aF c.ρ n (some w.heap.size),c.X,aF G n (.arr esz (els++ys)),w'.heap⟩ (m.getD n) n w.heap.size:=by
   refine⟨rfl,λ k h1 h2=>?_,λ k h1=>by simp[aF,h1],Or.inr hn,λ h=>?_,by simp[aF,Slot.mine],by simp[aF],by rw[hn];exact .free _,λ h=>absurd hn h,by rw[Z,hp];simp,λ k h1 h2=>?_,λ cur a8 fr h=>?_,λ r h=>?_,Or.inl (by rw[hp];exact Nat.le_refl _)⟩
   ·simp only[an _ _ h1];show G k=c.h k
    simp only[G]
    cases m with
    | none=>rfl
    | some j=>simp only[Option.getD_some]at h2;simp[Heap.killO,aF,h2]
   ·cases m with
    | none=>exact absurd rfl h
    | some j =>
     simp only[Option.getD_some]at h ⊢;obtain⟨l,hl⟩:=hm j rfl;refine⟨?_,by rw[hl];exact .arrDead _ _⟩;simp only[an _ _ (show j≠n from λ e=>h e.symm)];show G j=.dead
     simp[G,Heap.killO,aF]
   ·grind
   ·grind
   grind
  have a1:∀k,k<(olds++news).length->vs.getD k Go.undef=(olds++news).getD k Go.undef:=by
   intro k b3;obtain⟨t,ht⟩:=a2;rw[<- aO, <- ht];grind
  have H:gB c (flat (els++ys)) (olds++news):=by rw[jX];exact ro.append rn
  have hsz:(els++ys).length*esz<=vs.size:=Nat.le_trans (Nat.mul_le_mul_right _ (by simpa using hle)) I
  have hslot:dk ⟨aF c.ρ n (some w.heap.size),c.X,aF G n (.arr esz (els++ys)),w'.heap⟩ n (.arr esz (els++ys)):=by
   refine JU (hp:=w.heap) Z (by simp[aF]) hpos Q hsz (λ i j d hd=>?_);have a6:=gu Q hd;obtain⟨p1,p2⟩:=H.rel _ d a6;refine⟨p1,?_⟩;rw[a1 _ (by rw[H.len];grind)];exact p2.mono V.le
  refine⟨aF c.ρ n (some w.heap.size),aF G n (.arr esz (els++ys)),.ms n 0 (els.length+ys.length),?_,V.le,V.heap hr (by grind [av]),hk n ht⟩
  have:=aB.ms (c:=⟨aF c.ρ n (some w.heap.size),c.X,aF G n (.arr esz (els++ys)),w'.heap⟩) n 0 (els.length+ys.length) w.heap.size esz cap (els++ys) vs ty (0,0) (by simp[aF,Slot.row]) (by simp[aF])
   (by simp) (by grind) (by simpa using I) hle a7
  simpa using this
 ·intro p h0;have e1:els=[]:=List.eq_nil_of_length_eq_zero (by omega);have e2:ys=[]:=List.eq_nil_of_length_eq_zero (by omega);subst e1 e2;obtain⟨g1,g2⟩:=Jx hr hn m (λ k b2=>by grind) hpos;rw[hp]at g1 g2;refine⟨_,_,.ms n 0 0,?_,g1,g2,by simpa using hk n ht⟩;exact .msE n 0 esz p [] (by simp[aF,Slot.row])
theorem abf {o:Oper}{t t' elem:TypeId}{s x:Operand}{s' x':Arg}{i:TypeInfo}{zd:D}(ho:o.op=.call { callee:=.builtin .append,args:= #[s,x],argTypes:= #[t,t'] })
  (hs':cArg s=some s') (hx:cArg x=some x') (hd:∀i,o.dst=some i->i<nt) (hu:P.underlying t=some (.slice elem)) (hu':∃e',P.underlying t'=some (.slice e')) (hi:P.info? elem=some i) (hz:fM P elem=some zd)
  (hsz:zd.cells.length=i.size) (hpos:0<i.size):fT P nt o (.app s' x' i.size i.bytes zd):=by
 obtain⟨z,j1,g4⟩:=hQ hz;have g2:i.zero=some z:=by simpa[hi] using j1
 refine fT.unit λ K e c w a hv hp hr hs=>?_
 simp only[vcOp]at hv;have rs:=aJ hs' hs;have rx:=aJ hx hs;obtain⟨ys,hv,j2,V⟩:=AO (P:=P) (w:=w) hr hp hpos rx hv;obtain⟨p,cp,news,c4,j3,rn,e9⟩:=V.row
 have j0:z.cells.size=i.size:=by
  have:=(dE (jA g4 c) (gW g4)).len;rw[<- hsz, <- this];simp
 have g0:∀w':World,w'.heap=w.heap->(Builtin.firstCells i.size ys.length (.slice p ys.length cp)).run P w'=.ok news.toArray w':=by
  intro w' e6;have:=e9 ys.length w' (Nat.le_refl _) e6;rw[c4]at this
  have c8:news.take (ys.length*i.size)=news:=by
   rw[List.take_of_length_le];rw[rn.len,bE V.uni];exact Nat.le_refl _
  grind
 have c0:∀v w',(Builtin.append_ #[t,t'] o.type #[a.eval s,a.eval x]).run P w=.ok v w'->(execOp a.eval o).run P w=.ok (.value v) w':=by
  intro v w' h;rw[exec_builtin ho];simp[builtin,h]
 have grow:∀(els:List D) (olds:List Value) (base:Option Addr) (Q I:Nat) (m:Option Nat),a.eval s=.slice base Q I->Q=els.length->(∀e∈els,e.cells.length=i.size)->mW els->gB c (flat els) olds ->
   (∀w':World,w'.heap=w.heap->(Builtin.firstCells i.size Q (.slice base Q I)).run P w'=.ok olds.toArray w')->(∀k,m=some k->∃l,c.h k=.arr i.size l) ->
   (Q+ys.length)*i.bytes<=140737488355328->Q+ys.length<=9223372036854775807 ->
   (∀n,qE c.h n->K (.ms n 0 (els.length+ys.length)) (aF (c.h.killO m) n (.arr i.size (els++ys))))->I<Q+ys.length ->
   ∃v w' ρ h' d,(execOp a.eval o).run P w=.ok v w'/\(v=.skip/\o.dst=none\/∃x,v=.value x/\(∀i,o.dst=some i->i<nt)/\aB ⟨ρ,c.X,h',w'.heap⟩ d x) /\
    c.le ⟨ρ,c.X,h',w'.heap⟩/\aA ⟨ρ,c.X,h',w'.heap⟩/\WS w w'/\K d h':=by
  intro els olds base Q I m Z j4 G a6 ro holds hm a7 b1 hk k0;subst j4;have a1:=(o8 (P:=P) (ty:=o.type) hu hu' hi g2 (w:=w) g0 holds b1 a7).2 k0;rw[<- Z, <- c4]at a1;have k1:=grownCap_ge w (els.length+ys.length) I elem;have k3:=grownCap_le_maxLen w (els.length+ys.length) I elem (by unfold maxLen;omega);have e8:olds.length=els.length*i.size:=by rw[ro.len,bE G]
  have c8:news.length=ys.length*i.size:=by rw[rn.len,bE V.uni]
  obtain⟨ρ,h',d,q1,q2,q3,q4⟩:=(Rb hr hp hpos G a6 V.uni ro rn m hm hk (by unfold maxLen;omega)).1 _ elem (grownCap w (els.length+ys.length) I elem)
   (w.drew.alloc (.cells (olds.toArray++news.toArray++Builtin.zeroCells z.cells (grownCap w (els.length+ys.length) I elem-(els.length+ys.length))) elem)) rfl ⟨rfl,rfl,rfl⟩
   ⟨(Builtin.zeroCells z.cells (grownCap w (els.length+ys.length) I elem-(els.length+ys.length))).toList,by simp⟩
   (by simp only[Array.size_append,List.size_toArray,PB,j0,e8,c8, <- Nat.add_mul];grind) k1 k3
  exact⟨_,_,ρ,h',d,c0 _ _ a1,Or.inr ⟨_,rfl,hd,q1⟩,q2,q3,⟨rfl,rfl,rfl⟩,q4⟩
 have b2:∀(els:List D) (base:Option Addr) (m:Option Nat),a.eval s=.slice base 0 0->els=[]->(∀k,m=some k->∃l,c.h k=.arr i.size l) ->
   (ys.length*i.bytes<=140737488355328)->ys.length<=9223372036854775807 ->
   (∀n,qE c.h n->K (.ms n 0 ys.length) (aF (c.h.killO m) n (.arr i.size ys))) ->
   ∃v w' ρ h' d,(execOp a.eval o).run P w=.ok v w'/\(v=.skip/\o.dst=none\/∃x,v=.value x/\(∀i,o.dst=some i->i<nt)/\aB ⟨ρ,c.X,h',w'.heap⟩ d x) /\
    c.le ⟨ρ,c.X,h',w'.heap⟩/\aA ⟨ρ,c.X,h',w'.heap⟩/\WS w w'/\K d h':=by
  intro els base m Z he hm a7 b1 hk;subst he
  have holds:∀w':World,w'.heap=w.heap->(Builtin.firstCells i.size 0 (.slice base 0 0)).run P w'=.ok ([]:List Value).toArray w':=by
   intro w' _
   cases base with
   | none=>simp[Builtin.firstCells]
   | some a=>simp[Builtin.firstCells,loadCells,loadCellsFrom]
  by_cases hy:ys.length=0
  ·have a1:=(o8 (P:=P) (ty:=o.type) hu hu' hi g2 (w:=w) g0 holds (by omega) (by simpa using a7)).1 (by omega) w (by
    have j5:news=[]:=List.eq_nil_of_length_eq_zero (by grind);rw[j5]
    cases base<;>simp[storeCells])
   rw[<- Z, <- c4,hy]at a1;obtain⟨ρ,h',d,q1,q2,q3,q4⟩:=(Rb (els:=[]) hr hp hpos (by simp) (λ i j d hd=>by simp[aT]at hd) V.uni (olds:=[]) ⟨rfl,by simp[flat]⟩ rn m hm (by simpa using hk) (by unfold maxLen;simp;omega)).2 base (by simpa using hy);grind [WS.refl]
  ·exact grow [] [] base 0 0 m Z rfl (by simp) (λ i j d hd=>by simp[aT]at hd) ⟨rfl,by simp[flat]⟩ holds hm (by simpa using a7) (by omega) (by simpa using hk) (by omega)
 generalize k8:s'.get e=ds at hv rs;cases ds<;>try exact hv.elim
 ·
  obtain⟨⟨a7,b1⟩,hk⟩:=hv;generalize Z:a.eval s=vs at rs;cases rs;exact b2 [] none none Z rfl (by simp) a7 b1 hk
 ·
  rename_i m off len;obtain⟨els,⟨rest,hm⟩,hlen,⟨a7,b1⟩,j7⟩:=hv;have j8:∀n,qE c.h n->K (.ms n 0 (len+ys.length)) (aF (aF c.h m .dead) n (.arr i.size (els.drop off++ys))):=λ n t=>(j7 n t).1
  have hk:∀n,qE c.h n->K (.ms n off (len+ys.length)) (aF (aF c.h m .dead) n (.arr i.size (els++ys))):=λ n t=>by
   grind
  have e2:(els.drop off).length=len:=by rw[List.length_drop];omega
  have hslot:=hr.slot m;rw[hm]at hslot;obtain⟨_,e0,c6,e7⟩:=hslot;have G:∀e∈els,e.cells.length=i.size:=λ e he=>e0 e (List.mem_append_left _ he)
  have e3:∀i j (d:D),aT els i j=some d->aT (els++rest) i j=some d:=by
   intro i j d h;simp only[aT,Option.bind_eq_some_iff]at h ⊢;grind
  have a6:mW els:=λ i j d h=>c6 i j d (e3 i j d h)
  have g7:(c.ρ m=none/\els=[])\/∃(g:Nat) (cur:Array Value) (ty:TypeId),c.ρ m=some g/\c.hp[g]?=some (.cells cur ty (0,0)) /\
    els.length*i.size<=cur.size/\∀i' j d,aT els i' j=some d->aB c d (cur.getD (i'*i.size+j) Go.undef):=by
   rcases e7 with⟨h1,h2⟩|⟨g,cur,ty,h1,h2,h3,h4⟩
   ·grind [List.append_eq_nil_iff]
   ·refine Or.inr ⟨g,cur,ty,h1,h2,Nat.le_trans (Nat.mul_le_mul_right _ (by simp)) h3,λ i' j d h=>h4 i' j d (e3 i' j d h)⟩
  generalize Z:a.eval s=vs at rs;have a8:∀e,e∈els.drop off->e.cells.length=i.size:=λ e he=>G e (List.mem_of_mem_drop he)
  have e4:∀k j (d:D),aT (els.drop off) k j=some d->aT els (off+k) j=some d:=λ k j d h=>by
   grind [aT]
  have c5:mW (els.drop off):=λ i j d h=>a6 _ _ _ (e4 _ _ _ h)
  cases rs with
  | msDead _ _ _ _ _ _ h7=>rw[hm]at h7;cases h7
  | msNil _ _ e5 a2 hρ =>
   have h0:els=[]:=by
    grind
   exact b2 els none (some m) Z h0 (λ k hk=>by cases hk;exact⟨_,hm⟩) (by simpa[h0] using a7) (by simpa[h0] using b1) (by grind [Heap.killO])
  | msE _ _ _ p' e5 a2 =>
   have h0:els.drop off=[]:=List.eq_nil_of_length_eq_zero e2;exact b2 (els.drop off) p' (some m) Z h0 (λ k hk=>by cases hk;exact⟨_,hm⟩) (by simpa using a7) (by simpa using b1) (by grind [Heap.killO])
  | ms _ _ _ g k5 cap e5 cur ty fr a2 hρ hl hg c2 hc g8 =>
   rw[hm]at a2;simp[Slot.row]at a2;obtain⟨rfl,rfl⟩:=a2;rcases g7 with⟨q,_⟩|⟨g',cur',h8,q1,q2,q3,q4⟩
   ·rw[hρ]at q;cases q
   ·rw[hρ]at q1;cases q1;rw[q2]at hg;cases hg;have e1:w.heap[g]?=some (.cells cur ty (0,0)):=hp ▸ q2
    have k6:off*i.size+len*i.size<=cur.size:=by
     grind [Nat.add_mul]
    let H:=(cur.toList.drop (off*i.size)).take (len*i.size)
    have k4:H.length=len*i.size:=by simp[H];omega
    have h9:gB c (flat (els.drop off)) H:=by
     refine⟨by grind [bE],λ k d hd=>?_⟩;have g1:=(ar.1 hd).1;rw[bE a8,e2]at g1;have c1:=e4 _ _ _ (xl hpos a8 hd);refine⟨a6 _ _ _ c1,?_⟩;have:=q4 _ _ _ c1;rw[Nat.add_mul,Nat.add_assoc,Nat.mul_comm (k / i.size),Nat.div_add_mod, <- aO]at this;grind
    have b4:∀w':World,w'.heap=w.heap->(Builtin.firstCells i.size len (.slice (some ⟨g,off*i.size,none⟩) len cap)).run P w'=.ok H.toArray w':=by
     intro w' e6
     have:=run_loadCells_list (P:=P) (w:=w') ⟨g,off*i.size,none⟩ H (λ j v hj=>by
      rw[Addr.add_lit,pD,e6];have h5:j<len*i.size:=by grind
      have j9:off*i.size+j<cur.size:=by omega
      rw[dC e1 j9];simp only[H,List.getElem?_take,if_pos h5,List.getElem?_drop]at hj;rw[<- aO]
      simp[List.getD,hj])
     grind [Builtin.firstCells]
    let olds:=cur.toList.take (els.length*i.size)
    have e8:olds.length=els.length*i.size:=by simp[olds];omega
    have ro:gB c (flat els) olds:=by
     refine⟨by rw[e8,bE G],λ k d hd=>?_⟩;have g1:=(ar.1 hd).1;rw[bE G]at g1;have c1:=xl hpos G hd;refine⟨a6 _ _ _ c1,?_⟩;have:=q4 _ _ _ c1;rw[Nat.mul_comm,Nat.div_add_mod, <- aO]at this;grind
    by_cases b7:len+ys.length<=cap
    ·
     have c8:news.length=ys.length*i.size:=by rw[rn.len,bE V.uni]
     have h6:els.length*i.size+news.length<=cur.size:=by
      rw[c8, <- Nat.add_mul];exact Nat.le_trans (Nat.mul_le_mul_right _ (by omega)) c2
     have c7:=rn.Wz;have g6:=run_storeCells_at P g (els.length*i.size) ty news 0 cur w e1 (by simpa using h6) c7;simp only[Nat.add_zero]at g6
     let vs:=(cur.toList.take (els.length*i.size)++news++cur.toList.drop (els.length*i.size+news.length)).toArray
     have a1:=(o8 (P:=P) (ty:=o.type) hu hu' hi g2 (w:=w) g0 b4 b1 a7).1 b7 (w.setRow g vs) (by grind [Addr.add_lit,Nat.add_mul]);rw[<- Z, <- c4]at a1;obtain⟨n,ht⟩:=ft hr;have hn:=ht.free;have j6:n≠m:=by grind
     have g5:vs.size=cur.size:=by simp[vs];omega
     have b3:kg c ⟨aF c.ρ n (some g),c.X,aF (aF c.h m .dead) n (.arr i.size (els++ys)),(w.setRow g vs).heap⟩ m n g:=by
      refine⟨rfl,λ k h1 h2=>by simp[aF,h1,h2],λ k h1=>by simp[aF,h1],Or.inr hn,λ h=>⟨by simp[aF,j6.symm],by rw[hm];exact .arrDead _ _⟩,by simp[aF,Slot.mine],by simp[aF],by rw[hn];exact .free _,λ h=>absurd hn h,
       by grind [setRow_size],λ k h1 h2=>by grind [setRow_other],λ cur' h8 fr h=>?_,λ r h=>?_,Or.inr ⟨by rw[hm];trivial,hρ⟩⟩
      ·grind [setRow_heap]
      ·rw[q2]at h;cases h
     have c3:∀e,e∈els++ys->e.cells.length=i.size:=by
      intro e he;rcases List.mem_append.1 he with h|h
      ·exact G e h
      ·exact V.uni e h
     have b5:gB c (flat (els++ys)) (olds++news):=by rw[jX];exact ro.append rn
     refine⟨_,_,aF c.ρ n (some g),aF (aF c.h m .dead) n (.arr i.size (els++ys)),.ms n off (len+ys.length),c0 _ _ a1,Or.inr ⟨_,rfl,hd,?_⟩,b3.le,b3.heap hr ?_,⟨rfl,rfl,rfl⟩,hk n ht⟩
     ·have:=aB.ms (c:=⟨aF c.ρ n (some g),c.X,aF (aF c.h m .dead) n (.arr i.size (els++ys)),(w.setRow g vs).heap⟩) n off (len+ys.length) g i.size cap (els++ys) vs ty (0,0) (by simp[aF,Slot.row]) (by simp[aF])
       (by simp;omega) (setRow_heap w g cur vs ty (0,0) e1) (by rw[g5];exact c2) b7 g8
      exact this
     ·simp only[av];refine⟨hpos,c3,?_,Or.inr ⟨g,vs,ty,by simp[aF],setRow_heap w g cur vs ty (0,0) e1,?_,?_⟩⟩
      ·intro i' j' d g3;exact(b5.rel _ d (gu c3 g3)).1
      ·rw[g5];exact Nat.le_trans (Nat.mul_le_mul_right _ (show(els++ys).length<=off+cap by simp;omega)) c2
      ·intro i' j' d g3;have k2:=gu c3 g3;obtain⟨_,p2⟩:=b5.rel _ d k2;have k7:i'*i.size+j'<(olds++news).length:=by rw[b5.len];grind
       have:vs.getD (i'*i.size+j') Go.undef=(olds++news).getD (i'*i.size+j') Go.undef:=by
        rw[<- aO];grind
       rw[this];exact p2.mono b3.le
    ·exact grow (els.drop off) H _ _ cap (some m) Z e2.symm a8 c5 h9 b4 (λ k hk=>by cases hk;exact⟨_,hm⟩) a7 b1 (by rw[e2];exact j8) (by omega)
end Go.Am
namespace Go.Am
open Go
variable [ca]
variable {P:Program}{nt:Nat}
theorem aba {o:Oper}{t t' elem:TypeId}{s x:Operand}{s' x':Arg}{esz:Nat}(ho:o.op=.call { callee:=.builtin .copy,args:= #[s,x],argTypes:= #[t,t'] })
  (hs':cArg s=some s') (hx:cArg x=some x') (hd:∀i,o.dst=some i->i<nt) (hu:P.underlying t=some (.slice elem)) (ht:(P.info? elem).map (·.size)=some esz) (hpos:0<esz):fT P nt o (.Iy s' x' esz):=by
 refine fT.unit λ K e c w a hv hp hr hs=>?_
 simp only[vcOp]at hv;have rs:=aJ hs' hs;have rx:=aJ hx hs;obtain⟨ys,hv,e6,a1⟩:=AO (P:=P) (w:=w) hr hp hpos rx hv;obtain⟨p,cp,news,c1,e7,rn,e8⟩:=a1.row;generalize h5:s'.get e=ds at hv rs;cases ds<;>try exact hv.elim
 rename_i m off len;obtain⟨els,hm,g7,hk⟩:=hv;have hslot:=hr.slot m;rw[hm]at hslot;obtain⟨_,V,b3,c4⟩:=hslot
 have a8:∀v w',(Builtin.copy_ #[t,t'] o.type #[a.eval s,a.eval x]).run P w=.ok v w'->(execOp a.eval o).run P w=.ok (.value v) w':=by
  intro v w' h;rw[exec_builtin ho];simp[builtin,h]
 have a2:∀k,k<=ys.length->(Builtin.firstCells esz k (.slice p ys.length cp)).run P w=.ok (news.take (k*esz)).toArray w:=by
  grind
 have g1:Nat.min ys.length len=min ys.length len:=rfl
 have zero:∀(base:Option Addr) (cap:Nat),a.eval s=.slice base 0 cap->len=0 ->
   ∃v w' ρ h' d,(execOp a.eval o).run P w=.ok v w'/\(v=.skip/\o.dst=none\/∃x,v=.value x/\(∀i,o.dst=some i->i<nt)/\aB ⟨ρ,c.X,h',w'.heap⟩ d x) /\
    c.le ⟨ρ,c.X,h',w'.heap⟩/\aA ⟨ρ,c.X,h',w'.heap⟩/\WS w w'/\K d h':=by
  intro base cap a6 h0;subst h0
  have a7:(Builtin.copy_ #[t,t'] o.type #[a.eval s,a.eval x]).run P w=.ok (goInt (0:Nat)) w:=by
   have hf:=a2 0 (Nat.zero_le _);simp at hf;cases base<;>simp[Builtin.copy_,a6,c1,run_underlying hu,Builtin.lenOf,run_sizeOf ht,hf,storeCells]
  have hh:aF c.h m (.arr esz (els.take off++ys.take 0++els.drop (off+min ys.length 0)))=c.h:=by
   funext k;by_cases c7:k=m
   ·subst c7;simp[aF,hm]
   ·simp[aF,c7]
  rw[hh]at hk;have c0:(⟨c.ρ,c.X,c.h,w.heap⟩:Ctx)=c:=by rw[<- hp]
  refine⟨_,_,c.ρ,c.h,_,a8 _ _ a7,Or.inr ⟨_,rfl,hd,?_⟩,by rw[c0];exact Ctx.le.refl c,by rw[c0];exact hr,WS.refl w,hk⟩;rw[c0];simp only[Nat.min_zero,goInt];exact .int _ _
 generalize a6:a.eval s=vs at rs
 cases rs with
 | msDead _ _ _ _ _ _ e4=>rw[hm]at e4;cases e4
 | msNil _ _ b2 I hρ=>exact zero none 0 a6 rfl
 | msE _ _ _ p' b2 I=>exact zero p' 0 a6 rfl
 | ms _ _ _ g g4 cap b2 cur ty fr I hρ hl hg g3 hc g2 =>
  rw[hm]at I;simp[Slot.row]at I;obtain⟨rfl,rfl⟩:=I;rcases c4 with⟨q,_⟩|⟨g',cur',g5,q1,q2,q3,q4⟩
  ·rw[hρ]at q;cases q
  ·rw[hρ]at q1;cases q1;rw[q2]at hg;cases hg;have b4:w.heap[g]?=some (.cells cur ty (0,0)):=hp ▸ q2
   let k:=min ys.length len
   let new:=news.take (k*esz)
   have g8:news.length=ys.length*esz:=by rw[rn.len,bE a1.uni]
   have c8:new.length=k*esz:=by
    grind [Nat.mul_le_mul_right]
   have g6:∀e,e∈ys.take k->e.cells.length=esz:=λ e he=>a1.uni e (List.mem_of_mem_take he)
   have b1:gB c (flat (ys.take k)) new:=by
    rw[<- Fw a1.uni (show k<=ys.length by omega)];exact rn.take _
   have e2:off*esz+new.length<=cur.size:=by
    rw[c8, <- Nat.add_mul];exact Nat.le_trans (Nat.mul_le_mul_right _ (show off+k<=els.length by omega)) q3
   have c3:=run_storeCells_at P g (off*esz) ty new 0 cur w b4 (by simpa using e2) b1.Wz;simp only[Nat.add_zero]at c3
   let vs:=(cur.toList.take (off*esz)++new++cur.toList.drop (off*esz+new.length)).toArray
   have c2:vs.size=cur.size:=by simp[vs];omega
   have a7:(Builtin.copy_ #[t,t'] o.type #[a.eval s,a.eval x]).run P w=.ok (goInt k) (w.setRow g vs):=by
    have hf:=a2 k (by omega);have e9:Nat.min ys.length len=k:=rfl;simp[Builtin.copy_,a6,c1,run_underlying hu,Builtin.lenOf,run_sizeOf ht,e9,hf];rw[c3];simp[vs]
   let G:=els.take off++ys.take k++els.drop (off+k)
   have b5:G=els.take off++ys.take len++els.drop (off+min ys.length len):=by
    grind
   have c6:G.length=els.length:=by simp[G];omega
   have Q:∀e∈G,e.cells.length=esz:=by
    grind
   have Z:=kg.write (s:=.arr esz G) hp b4 c2 (by rw[hm];trivial) hρ (by rw[hm];exact .arrArr _ _ _ (by omega)) trivial
   let H:=cur.toList.take (els.length*esz)
   have ro:gB c (flat els) H:=by
    refine⟨by grind [bE],λ j d hd=>?_⟩;have hj:=(ar.1 hd).1;rw[bE V]at hj;have e5:=xl hpos V hd;refine⟨b3 _ _ _ e5,?_⟩;have:=q4 _ _ _ e5;rw[Nat.mul_comm,Nat.div_add_mod, <- aO]at this;grind
   have r2:gB c (flat G) (H.take (off*esz)++new++H.drop ((off+k)*esz)):=by
    have:flat G=(flat els).take (off*esz)++flat (ys.take k)++(flat els).drop ((off+k)*esz):=by
     rw[Fw V (by omega),Lr V (by omega)];simp[G,jX]
    rw[this];exact((ro.take _).append b1).append (ro.drop _)
   have e0:∀j,j<els.length*esz->vs.getD j Go.undef=(H.take (off*esz)++new++H.drop ((off+k)*esz)).getD j Go.undef:=by
    intro j hj;have g0:H.length=els.length*esz:=by simp[H];omega
    have e1:(off+k)*esz=off*esz+new.length:=by rw[c8,Nat.add_mul]
    rw[e1, <- aO];grind
   refine⟨_,_,c.ρ,aF c.h m (.arr esz G),.int .i64 k,a8 _ _ a7,Or.inr ⟨_,rfl,hd,.int _ _⟩,Z.le,Z.heap hr ?_,⟨rfl,rfl,rfl⟩,by rw[b5];exact hk⟩;simp only[av];refine⟨hpos,Q,?_,Or.inr ⟨g,vs,ty,hρ,setRow_heap w g cur vs ty (0,0) b4,by rw[c2,c6];exact q3,?_⟩⟩
   ·intro i j d b7;exact(r2.rel _ d (gu Q b7)).1
   ·intro i j d b7;have e3:=gu Q b7;have c5:=(ar.1 e3).1;rw[bE Q,c6]at c5;rw[e0 _ c5];exact(r2.rel _ d e3).2.mono Z.le
theorem kE {f:FuncId}(h:fF P f=true) (args:Array Value) (w:World):(callFunc f args).run P w=.ok (.enter f args) w:=by
 unfold fF at h
 cases G:P.funcs[f]? with
 | none=>simp[G]at h
 | some fn =>
  simp only[G,Bool.and_eq_true,Bool.not_eq_true']at h;obtain⟨h1,h2⟩:=h;have h3:fn.body≠none:=by intro hb;simp[hb]at h2
  have h4:fn.name ≠ "runtime.NumGoroutine" :=by simpa using h1
  simp[callFunc,program,Sem.run,G,h4,h3]
theorem Om {o:Oper}{f:FuncId}{ds:List D}{K:HKq}{e:LEnv}{h:Heap}{c:Ctx}{w:World}{a:Act}{Q:Exit->Act->World->Prop}{vals:Array Value}{r:Option Nat}(hnd:∀c,o.op≠.defer c) (hd:∀i,o.dst=some i->i<nt)
  (hv:ag P f ds h K) (hh:c.h=h) (hp:c.hp=w.heap) (hr:aA c) (hs:rM c nt e.get a) (hsz:vals.size=ds.length) (hrel:∀(i:Nat) (d:D),ds[i]?=some d->aB c d (vals.getD i Go.undef))
  (hrun:(execOp a.eval o).run P w=.ok (.enter f vals) w):o.wpIn (rF r) 0 P a w (Fin c w nt λ t' h'=>∃d,t'=(e.put o.dst d).get/\K d h') Q:=by
 refine kF hnd hrun ?_;refine⟨λ h=>by(cases h),?_⟩;refine(show CallsIn (rF r) 0 P f vals w _ from callsIn_wide.2 (hv c w vals hh hp hr hsz hrel)).mono ?_;rintro H w' ⟨v,r,ρ,h',rfl,h1,h2,h3,h4,G⟩;exact⟨ρ,(e.put o.dst r).get,h',h1,h2,h3,by rw[LEnv.bO];exact(hs.mono h1).put hd h4,r,rfl,G⟩
theorem TB {o:Oper}{f:FuncId}{args:Array Operand}{ats:Array TypeId}{args':List Arg}(ho:o.op=.call { callee:=.value (.func f),args:=args,argTypes:=ats }) (ha:args.toList.mapM cArg=some args')
  (hd:∀i,o.dst=some i->i<nt) (hf:fF P f=true):fT P nt o (.call f args'):=by
 intro K e h H G r c w a Q I hp hr hs;simp only[vcOp]at H;obtain⟨Z,V⟩:=pE ha hs;refine Om G hd H I hp hr hs Z V ?_;grind [execOp,resolve,Deferred.ofValue,Act.eval,invoke,kE]
theorem zK (a b:Array Value) (i:Nat) (h:i<a.size):(a++b).getD i Go.undef=a.getD i Go.undef:=by
 simp[Array.getD,h,show i<a.size+b.size by omega,Array.getElem_append_left h]
theorem zH (a b:Array Value) (i:Nat) (h:a.size<=i):(a++b).getD i Go.undef=b.getD (i-a.size) Go.undef:=by
 by_cases hb:i-a.size<b.size
 ·simp[Array.getD,hb,show i<a.size+b.size by omega,Array.getElem_append_right h]
 grind
theorem Jf {c:Ctx}{ds es:List D}{va vb:Array Value}(ha:va.size=ds.length) (hra:∀(i:Nat) (d:D),ds[i]?=some d->aB c d (va.getD i Go.undef))
  (hrb:∀(i:Nat) (d:D),es[i]?=some d->aB c d (vb.getD i Go.undef)):∀(i:Nat) (d:D),(ds++es)[i]?=some d->aB c d ((va++vb).getD i Go.undef):=by
 grind [zK,zH]
theorem Wn {o:Oper}{x:Operand}{x':Arg}{args:Array Operand}{ats:Array TypeId}{args':List Arg}(ho:o.op=.call { callee:=.value x,args:=args,argTypes:=ats }) (hx:cArg x=some x') (ha:args.toList.mapM cArg=some args')
  (hd:∀i,o.dst=some i->i<nt):fT P nt o (.callv x' args'):=by
 intro K e h G V r c w a Q hh hp hr hs;simp only[vcOp]at G;have rx:=aJ hx hs;obtain⟨a1,a2⟩:=pE ha hs;generalize a6:x'.get e=dx at G rx;cases dx<;>try exact G.elim
 ·rename_i f fa fb;obtain⟨hf,G⟩:=G;generalize Z:a.eval x=vx at rx
  cases rx with
  | fn _ _ _ va vb hsa hsb hra hrb =>
   refine Om (vals:=va++args.map a.eval++vb) V hd G hh hp hr hs (by simp[hsa,hsb,a1]) ?_ ?_
   ·exact Jf (by simp[hsa,a1]) (Jf hsa hra a2) hrb
   grind [execOp,resolve,Deferred.ofValue,invoke,kE]
 ·rename_i n;obtain⟨⟨st,B,hl⟩,G⟩:=G;generalize Z:a.eval x=vx at rx
  cases rx with
  | yldDead _ _ hd=>grind
  | yld _ g st' B' h1 hρ =>
   obtain⟨fn,tmps,assign,body,hy,H⟩:=G c w (args.map a.eval) g hh hp hr a1 a2 hρ
   have I:(execOp a.eval o).run P w=.ok (.round g fn tmps assign body) w:=by
    grind [execOp,resolve,Deferred.ofValue,invoke]
   refine kF V I ?_;rw[Oper.uponIn_round];refine⟨λ h=>by(cases h),?_⟩;refine(show RoundIn (rF r) 0 P g fn tmps assign body w _ from H).mono ?_;rintro e' w' ⟨v,r',ρ,h',rfl,k1,k2,k3,k4,k5⟩;exact⟨ρ,(e.put o.dst r').get,h',k1,k2,k3,by rw[LEnv.bO];exact(hs.mono k1).put hd k4,r',rfl,k5⟩
theorem Nr:∀{ys:List D}{ns:List Int},u8L ys=some ns->ys=ns.map (.int .u8)
 | [],ns,h=>by simp[u8L]at h;subst h;rfl
 | .int .u8 n::r,ns,h=>by
  simp only[u8L,Option.map_eq_some_iff]at h;obtain⟨ms,h1,rfl⟩:=h;rw[Nr h1];rfl
theorem abe {o:Oper}{src dst elem:TypeId}{x:Operand}{x':Arg}(ho:o.op=.convert src dst x) (hx:cArg x=some x') (hd:∀i,o.dst=some i->i<nt)
  (hu:P.underlying src=some (.slice elem)) (he:P.underlying elem=some (.int .u8)) (hdst:P.underlying dst=some .string):fT P nt o (.b2s x'):=by
 refine fT.pure hd λ K e c w a hv hp hr hs=>?_
 have rx:=aJ hx hs;simp only[vcOp]at hv;obtain⟨ys,hk,hone,Z⟩:=AO (P:=P) (w:=w) hr hp (by omega) rx hv
 cases V:u8L ys with
 | none=>simp only[V]at hk
 | some Q =>
  simp only[V]at hk;have H:=Nr V;obtain⟨p,cap,news,a1,a6,hrel,G⟩:=Z.row
  have I:flat ys=ys:=by
   rw[H];clear hk hone hv V H hrel G a1 Z a6
   induction Q with
   | nil=>rfl
   | cons n r ih =>
    grind [flat,D.cells]
  have a8:news=Q.map (Value.int .u8):=by
   have hl:=hrel.len;rw[I,H,aH]at hl;apply List.ext_getElem
   ·rw[hl,aH]
   ·intro i h1 h2;have hi:i<Q.length:=by rw[<- hl];exact h1
    have:=(hrel.rel i (.int .u8 Q[i]) (by rw[I,H];simp[hi])).2;have hg:news.getD i Go.undef=news[i]:=by simp[List.getD,h1]
    rw[hg]at this;cases hn:news[i]<;>rw[hn]at this<;>cases this;simp
  refine⟨.string (strOf Q),.str (strOf Q),?_,.str _,hk⟩;have h0:=G ys.length w (Nat.le_refl _) rfl;have hlen:ys.length=Q.length:=by rw[H,aH]
  have a7:news.take (ys.length*1)=news:=by grind [List.length_map]
  rw[a1]at h0
  have a2:(convert src dst (a.eval x)).run P w=.ok (.string (strOf Q)) w:=by
   rw[a1,run_convert_bytes_string w src dst elem p ys.length cap hu he hdst]
   cases p with
   | none =>
    grind [Builtin.firstCells,Sem.run_pure,List.length_nil,Conv.bytesToString,strOf]
   | some ad =>
    refine run_bytesToString w ad ys.length cap Q ?_;grind [Builtin.firstCells]
  simp[execOp,ho,a2]
end Go.Am
namespace Go.Am
open Go
variable [ca]
variable {P:Program}{nt:Nat}
def kv:D->Value
 | .int k n=>.int k n
 | .agg [.int k a,.int k' b]=>.agg #[.int k a,.int k' b]
 | _=>Go.undef
theorem tK {k:IntKind}{d:D}(h:(KeyT.int k).okB d=true):∃n,d=.int k n:=by
 cases d<;>simp only[KeyT.okB,decide_eq_true_eq]at h<;>try (cases h;done)
 subst h;exact⟨_,rfl⟩
theorem pc {k:IntKind}{d:D}(h:(KeyT.pair k).okB d=true):∃a b,d=.agg [.int k a,.int k b]:=by
 cases d<;>try (cases h;done)
 rename_i cs
 match cs,h with
 | [.int H a,.int G b],h =>
  grind [KeyT.okB]
theorem Js {c:Ctx}{kt:KeyT}{d:D}{v:Value}(h:kt.okB d=true) (r:aB c d v):v=kv d:=by
 cases kt with
 | int k =>
  obtain⟨n,rfl⟩:=tK h;cases r;rfl
 | pair k =>
  obtain⟨a,b,rfl⟩:=pc h
  cases r with
  | agg _ vs hsz hone hrel =>
   have h0:=hrel 0 _ rfl;have h1:=hrel 1 _ rfl;obtain⟨l⟩:=vs
   match l,hsz with
   | [x,y],_ =>
    have H:(#[x,y]:Array Value).getD 0 Go.undef=x:=rfl;have G:(#[x,y]:Array Value).getD 1 Go.undef=y:=rfl;rw[H]at h0;rw[G]at h1;cases h0;cases h1;rfl
def keyT (P:Program) (t:TypeId):Option KeyT :=
 match P.underlying t with
 | some (.int k)=>some (.int k)
 | some (.array 2 e)=>match P.underlying e,(P.info? e).map (·.size) with
  | some (.int k),some 1=>some (.pair k)
  | _,_=>none
 | _=>none
structure VK (P:Program) (t:TypeId) (kt:KeyT):Prop where
 i:∀k,kt=.int k->P.underlying t=some (.int k)
 p:∀k,kt=.pair k->∃e,P.underlying t=some (.array 2 e)/\P.underlying e=some (.int k)/\(P.info? e).map (·.size)=some 1
theorem Lk {t:TypeId}{kt:KeyT}(h:keyT P t=some kt):VK P t kt:=by
 unfold keyT at h;split at h
 ·rename_i k hu;cases h;exact⟨λ k' e=>by cases e;exact hu,λ k' e=>by cases e⟩
 ·rename_i e hu;split at h
  ·rename_i k h1 h2;cases h;exact⟨λ k' e=>by(cases e),λ k' G=>by grind⟩
  ·cases h
 ·cases h
theorem Cl {w:World}{t e:TypeId}{k:IntKind}(hu:P.underlying t=some (.array 2 e)) (he:P.underlying e=some (.int k)) (hs:(P.info? e).map (·.size)=some 1) (em:Bool) (n:Nat) (a b:Int) :
  (Instr.checkKey em (n+2) t (.agg #[.int k a,.int k b])).run P w=.ok () w:=by
 have H:(part e #[.int k a,.int k b] 0).run P w=.ok (.int k a) w:=by
  simp[part,isAgg,run_underlying he,Sem.run_bind,Result.andThen]
 have G:(part e #[.int k a,.int k b] 1).run P w=.ok (.int k b) w:=by
  simp[part,isAgg,run_underlying he,Sem.run_bind,Result.andThen]
 have c:∀x:Int,(Instr.checkKey em (n+1) e (.int k x)).run P w=.ok () w:=λ x=>by
  unfold Instr.checkKey;simp[Sem.run_bind,run_underlying he,Result.andThen]
 unfold Instr.checkKey;simp[Sem.run_bind,run_underlying hu,Result.andThen,List.range',run_sizeOf hs,H,G,c]
theorem I8 {w:World}{t e:TypeId}{k:IntKind}(hu:P.underlying t=some (.array 2 e)) (he:P.underlying e=some (.int k)) (hs:(P.info? e).map (·.size)=some 1) (a b c d:Int) :
  (Op.equal t (.agg #[.int k a,.int k b]) (.agg #[.int k c,.int k d])).run P w=.ok (decide (a=c)&&decide (b=d)) w:=by
 have H:∀x y:Int,(part e #[.int k x,.int k y] 0).run P w=.ok (.int k x) w:=λ x y=>by
  simp[part,isAgg,run_underlying he,Sem.run_bind,Result.andThen]
 have G:∀x y:Int,(part e #[.int k x,.int k y] 1).run P w=.ok (.int k y) w:=λ x y=>by
  simp[part,isAgg,run_underlying he,Sem.run_bind,Result.andThen]
 have q:∀x y:Int,(Op.equalIn 9999 e (.int k x) (.int k y)).run P w=.ok (decide (x=y)) w:=λ x y=>by
  rw[Op.equalIn];simp[Sem.run_bind,run_underlying he,Result.andThen];rfl
 unfold Op.equal Op.maxDepth;rw[Op.equalIn];by_cases h1:a=c
 ·by_cases h2:b=d
  ·simp[Sem.run_bind,run_underlying hu,Result.andThen,List.range',run_sizeOf hs,H,G,q,h1,h2]
  ·simp[Sem.run_bind,run_underlying hu,Result.andThen,List.range',run_sizeOf hs,H,G,q,h1,h2]
 ·simp[Sem.run_bind,run_underlying hu,Result.andThen,List.range',run_sizeOf hs,H,G,q,h1]
inductive Found (key:D) (ents:List (D×D)) (l:List MapEntry):Option (Nat×Value)->Prop
 | no (h:∀p∈ents,keySame key p.1=false):Found key ents l none
 | yes (j:Nat) (e:MapEntry) (p:D×D) (hl:l[j]?=some e) (he:ents[j]?=some p) (hs:keySame key p.1=true) (h:∀(i:Nat) (q:D×D),i<j->ents[i]?=some q->keySame key q.1=false):Found key ents l (some (j,e.val))
theorem Found.cons {key:D}{p:D×D}{ents:List (D×D)}{e:MapEntry}{l:List MapEntry}{r:Option (Nat×Value)}(hp:keySame key p.1=false) (h:Found key ents l r):Found key (p::ents) (e::l) (r.map λ q=>(q.1+1,q.2)):=by
 cases h with
 | no h=>exact .no λ q G=>by grind
 | yes j x y h1 h2 h3 h4 =>
  refine .yes (j+1) x y (by simpa using h1) (by simpa using h2) h3 λ i q hi G=>?_
  grind
theorem Found.get {key:D}{ents:List (D×D)}{l:List MapEntry}{r:Option (Nat×Value)}(h:Found key ents l r):(r=none/\mget ents key=none)\/∃(j:Nat) (e:MapEntry) (p:D×D),r=some (j,e.val)/\l[j]?=some e/\ents[j]?=some p/\keySame key p.1=true/\mget ents key=some p.2:=by
 cases h with
 | no h =>
  refine Or.inl ⟨rfl,?_⟩;clear l
  induction ents with
  | nil=>rfl
  | cons p r G=>grind [mget]
 | yes j e p hl he hs h =>
  refine Or.inr ⟨j,e,p,rfl,hl,he,hs,?_⟩;clear hl l
  induction j generalizing ents with
  | zero =>
   cases ents with
   | nil=>simp at he
   | cons q r=>grind [mget]
  | succ j G =>
   cases ents with
   | nil=>simp at he
   | cons q r =>
    rw[mget,if_neg (by rw[h 0 q (by omega) rfl];simp)];grind
structure M6 (c:Ctx) (kt:KeyT) (ents:List (D×D)) (l:List MapEntry):Prop where
 len:l.length=ents.length
 el:∀(i:Nat) (p:D×D),ents[i]?=some p->kt.okB p.1=true/\p.2.one=true/\∃e:MapEntry,l[i]?=some e/\aB c p.1 e.key/\aB c p.2 e.val
theorem M6.tail {c:Ctx}{kt:KeyT}{p:D×D}{ents:List (D×D)}{e:MapEntry}{l:List MapEntry}(h:M6 c kt (p::ents) (e::l)):kt.okB p.1=true/\p.2.one=true/\e.key=kv p.1/\aB c p.2 e.val/\M6 c kt ents l:=by
 obtain⟨h1,h2,x,h3,h4,H⟩:=h.el 0 p rfl;simp at h3;subst h3;exact⟨h1,h2,Js h1 h4,H,by simpa using h.len,λ i q G=>by obtain⟨a,b,x,y⟩:=h.el (i+1) q (by simpa using G);grind⟩
theorem UB {c:Ctx}{w:World}{t:TypeId}{k:IntKind}(hu:P.underlying t=some (.int k)) (n:Int):∀(ents:List (D×D)) (l:List MapEntry),M6 c (.int k) ents l->∀i,∃r,Instr.findNow (.int k) (.int k n) l i=some (r.map λ q=>(q.1+i,q.2))/\Found (.int k n) ents l r:=by
 intro ents
 induction ents with
 | nil =>
  intro l h i;have:l=[]:=List.length_eq_zero_iff.1 h.len;subst this;exact⟨none,rfl,.no λ p hp=>by cases hp⟩
 | cons p ents H =>
  intro l h i
  cases l with
  | nil=>have:=h.len;simp at this
  | cons e l =>
   obtain⟨h1,h2,h3,h4,Q⟩:=h.tail;obtain⟨m,hm⟩:=tK h1;rw[hm]at h3;by_cases G:n=m
   ·refine⟨some (0,e.val),?_,.yes 0 e p rfl rfl (by rw[hm];simp[keySame,G]) λ i q hi=>by omega⟩;simp[Instr.findNow,Instr.sameNow,h3,kv,G]
   ·obtain⟨r,hr,I⟩:=H l Q (i+1);refine⟨r.map λ q=>(q.1+1,q.2),?_,I.cons (by rw[hm];simp[keySame,G])⟩;simp only[Instr.findNow,Instr.sameNow,h3,kv,if_true];have:(n == m)=false:=by simpa using G
    rw[this];simp only[hr,Option.map_map,Option.some.injEq];congr 1;grind
theorem R7 {c:Ctx}{w:World}{t e:TypeId}{k:IntKind}(hu:P.underlying t=some (.array 2 e)) (he:P.underlying e=some (.int k)) (hs:(P.info? e).map (·.size)=some 1) (n m:Int):∀(ents:List (D×D)) (l:List MapEntry),M6 c (.pair k) ents l->∀i,
  ∃r,(Instr.findAsking t (.agg #[.int k n,.int k m]) l i).run P w=.ok (r.map λ q=>(q.1+i,q.2)) w/\Found (.agg [.int k n,.int k m]) ents l r:=by
 intro ents
 induction ents with
 | nil =>
  intro l h i;have:l=[]:=List.length_eq_zero_iff.1 h.len;subst this;exact⟨none,by simp[Instr.findAsking],.no λ p hp=>by cases hp⟩
 | cons p ents I =>
  intro l h i
  cases l with
  | nil=>have:=h.len;simp at this
  | cons x l =>
   obtain⟨h1,h2,h3,h4,V⟩:=h.tail;obtain⟨a,b,hm⟩:=pc h1;rw[hm]at h3;have q:=I8 (w:=w) hu he hs n m a b;by_cases G:n=a/\m=b
   ·refine⟨some (0,x.val),?_,.yes 0 x p rfl rfl (by rw[hm];simp[keySame,G]) λ i q hi=>by omega⟩;rw[Instr.findAsking,h3];simp only[kv,Sem.run_bind,q,Result.andThen];simp[G]
   ·obtain⟨r,hr,Q⟩:=I l V (i+1)
    have H:(decide (n=a)&&decide (m=b))=false:=by
     grind
    refine⟨r.map λ q=>(q.1+1,q.2),?_,Q.cons (by grind [keySame])⟩;rw[Instr.findAsking,h3];simp only[kv,Sem.run_bind,q,Result.andThen,H,aC,if_false,hr,Option.map_map];congr 2;grind
theorem N4 {c:Ctx}{w:World}{t:TypeId}{kt:KeyT}(ht:VK P t kt){key:D}(hk:kt.okB key=true){ents:List (D×D)}{l:List MapEntry}(h:M6 c kt ents l):∃r,(Instr.findKey t (kv key) l).run P w=.ok r w/\Found key ents l r:=by
 cases kt with
 | int k =>
  obtain⟨n,rfl⟩:=tK hk;obtain⟨r,h1,h2⟩:=UB (w:=w) (ht.i k rfl) n ents l h 0;refine⟨r,?_,h2⟩;have:(r.map λ q=>(q.1+0,q.2))=r:=by cases r<;>rfl
  rw[this]at h1;exact MapKept.run_findKey (ht.i k rfl) h1
 | pair k =>
  obtain⟨a,b,rfl⟩:=pc hk;obtain⟨e,h1,h2,h3⟩:=ht.p k rfl;obtain⟨r,G,H⟩:=R7 (w:=w) h1 h2 h3 a b ents l h 0;have:(r.map λ q=>(q.1+0,q.2))=r:=by cases r<;>rfl
  rw[this]at G;refine⟨r,?_,H⟩;rw[run_findKey_eq w (by rw[h1])];exact G
theorem oY {w:World}{t:TypeId}{kt:KeyT}(ht:VK P t kt){key:D}(hk:kt.okB key=true) (em:Bool):(Instr.checkKey em 10000 t (kv key)).run P w=.ok () w:=by
 cases kt with
 | int k =>
  obtain⟨n,rfl⟩:=tK hk;unfold Instr.checkKey;simp[kv,Sem.run_bind,run_underlying (ht.i k rfl),Result.andThen]
 | pair k =>
  obtain⟨a,b,rfl⟩:=pc hk;obtain⟨e,h1,h2,h3⟩:=ht.p k rfl;exact Cl h1 h2 h3 em 9998 a b
theorem Rv {w:World}{kt:KeyT}{key:D}(hk:kt.okB key=true):(Instr.keyThatStays (kv key) (kv key)).run P w=.ok (kv key) w:=by
 cases kt with
 | int k =>
  obtain⟨n,rfl⟩:=tK hk;simp[Instr.keyThatStays,kv,Instr.sameBits]
 | pair k =>
  obtain⟨a,b,rfl⟩:=pc hk;simp[Instr.keyThatStays,kv,Instr.sameBits]
theorem Lg {c:Ctx}{w:World}(hp:c.hp=w.heap) (hr:aA c){n g:Nat}{kt:KeyT}{ents ents':List (D×D)}{es es':Array MapEntry}{clock clock':Nat}(hn:c.h n=.map kt ents) (hρ:c.ρ n=some g)
  (hg:w.heap[g]?=some (.map es clock)) (hsz:es'.size=ents'.length) (hstp:MapKept.Stamped es' clock') (hel:∀(i:Nat) (p:D×D),ents'[i]?=some p->kt.okB p.1=true/\p.2.one=true/\∃e:MapEntry,es'[i]?=some e/\aB c p.1 e.key/\aB c p.2 e.val) :
  c.le ⟨c.ρ,c.X,aF c.h n (.map kt ents'),(w.putObj g (.map es' clock')).heap⟩/\aA ⟨c.ρ,c.X,aF c.h n (.map kt ents'),(w.putObj g (.map es' clock')).heap⟩:=by
 have H:=(Array.getElem?_eq_some_iff.1 hg).1
 have G:kg c ⟨c.ρ,c.X,aF c.h n (.map kt ents'),(w.putObj g (.map es' clock')).heap⟩ n n g:=by
  refine⟨rfl,λ k h1 _=>by simp[aF,h1],λ _ _=>rfl,Or.inl rfl,λ h=>absurd rfl h,by simp[aF,Slot.mine],hρ,by simp only[av];rw[hn];exact .mapMap _ _ _,λ _=>hρ,
   by simp[World.putObj_size,hp],λ k _ h2=>by grind [World.putObj_heap_other],λ cur ty fr h=>(by rw[hp,hg]at h;cases h),λ r h=>(by rw[hp,hg]at h;cases h),Or.inr ⟨by rw[hn];trivial,hρ⟩⟩
 refine⟨G.le,G.heap hr ?_⟩;simp only[av];refine⟨g,es',clock',hρ,World.putObj_heap_same H,hsz,hstp,λ i p I=>?_⟩;obtain⟨h1,h2,e,h3,h4,Q⟩:=hel i p I;exact⟨h1,h2,e,h3,h4.mono G.le,Q.mono G.le⟩
theorem NJ {c:Ctx}{w:World}(hp:c.hp=w.heap) (hr:aA c){n g:Nat}{kt:KeyT}{ents:List (D×D)}(hn:c.h n=.map kt ents) (hρ:c.ρ n=some g) :
  ∃(es:Array MapEntry) (clock:Nat),w.heap[g]?=some (.map es clock)/\MapKept.Stamped es clock/\M6 c kt ents es.toList:=by
 have hs:=hr.slot n;rw[hn]at hs;obtain⟨H,es,clock,h1,h2,h3,G,h4⟩:=hs;rw[hρ]at h1;cases h1;refine⟨es,clock,by rw[<- hp];exact h2,G,by simpa using h3,λ i p hi=>?_⟩;grind
theorem Pj {kt:KeyT}{a b:D}(ha:kt.okB a=true) (hb:kt.okB b=true) (h:keySame a b=true):a=b:=by
 cases kt with
 | int k =>
  grind [tK,keySame]
 | pair k =>
  grind [pc,keySame]
theorem WN {key v:D}{ents:List (D×D)}(h:∀p∈ents,keySame key p.1=false):mset ents key v=ents++[(key,v)]:=by
 induction ents with
 | nil=>rfl
 | cons p r G =>
  grind [mset]
theorem T9 {key v:D}{ents:List (D×D)}{j:Nat}{p:D×D}(hj:ents[j]?=some p) (hs:keySame key p.1=true) (h:∀(i:Nat) (q:D×D),i<j->ents[i]?=some q->keySame key q.1=false):mset ents key v=ents.set j (p.1,v):=by
 induction ents generalizing j with
 | nil=>simp at hj
 | cons q r G =>
  cases j with
  | zero=>grind [mset]
  | succ j =>
   rw[mset,if_neg (by rw[h 0 q (by omega) rfl];simp),G (by simpa using hj) λ i x hi hx=>h (i+1) x (by omega) (by simpa using hx)];rfl
theorem Zz {kt:KeyT}{a b:D}(ha:kt.okB a=true) (hb:kt.okB b=true) (h:kv a=kv b):keySame a b=true:=by
 cases kt with
 | int k =>
  grind [tK,kv,keySame]
 | pair k =>
  grind [pc,kv,keySame]
theorem M6.abz {c:Ctx}{kt:KeyT}{key:D}{ents:List (D×D)}{l:List MapEntry}(h:M6 c kt ents l) (hk:kt.okB key=true) (hno:∀p∈ents,keySame key p.1=false){x:MapEntry}(hx:x∈l):x.key≠kv key:=by
 obtain⟨i,hi,rfl⟩:=List.mem_iff_getElem.1 hx;have hlen:=h.len;have hp:ents[i]?=some ents[i]:=aq (by omega);obtain⟨h1,h2,e,h3,h4,G⟩:=h.el i _ hp;grind [Js,Zz]
theorem aa4 {o:Oper}{t:TypeId}{r:Option Operand}{kt:KeyT}(ho:o.op=.makeMap t r) (hr':r=none) (hd:∀i,o.dst=some i->i<nt):fT P nt o (.KL kt):=by
 subst hr';refine fT.unit λ K e c w a H hp hr hs=>?_
 simp only[vcOp]at H;obtain⟨n,ht⟩:=ft hr;have G:=kg.new (c:=c) (n:=n) ht.free (s:=.map kt []) trivial (.map #[] 0) (hp':=(w.alloc (.map #[] 0)).heap) (by rw[hp];rfl);have hg:(w.alloc (.map #[] 0)).heap[c.hp.size]?=some (.map #[] 0):=by rw[hp];show(w.heap.push _)[_]?=_;simp
 have hrel:aA ⟨aF c.ρ n (some c.hp.size),c.X,aF c.h n (.map kt []),(w.alloc (.map #[] 0)).heap⟩:=by
  refine G.heap hr ?_;simp only[av];exact⟨c.hp.size, #[],0,by simp[aF],hg,rfl,MapKept.stamped_empty 0,λ i p hi=>by simp at hi⟩
 refine⟨.value (.map (some w.heap.size)),w.alloc (.map #[] 0),aF c.ρ n (some c.hp.size),aF c.h n (.map kt []),.mp n,?_,Or.inr ⟨_,rfl,hd,?_⟩,G.le,hrel,⟨rfl,rfl,rfl⟩,H n ht⟩
 ·simp[execOp,ho,Instr.makeMap,run_newObj]
 ·rw[<- hp];exact .mp n _ kt [] (by simp[aF]) (by simp[aF])
theorem Zg {o:Oper}{t key elem:TypeId}{x k:Operand}{x' k':Arg}{ok:Bool}{kt:KeyT}{zd:D}(ho:o.op=.lookup t x k ok) (hx:cArg x=some x') (hk:cArg k=some k') (hu:P.underlying t=some (.map key elem)) (hkt:keyT P key=some kt)
  (hz:fM P elem=some zd) (hd:∀i,o.dst=some i->i<nt):fT P nt o (.look kt x' k' zd ok):=by
 obtain⟨z,a6,a2⟩:=hQ hz;have Q:=Lk hkt;refine fT.pure hd λ K e c w a H hp hr hs=>?_
 simp only[vcOp]at H;obtain⟨I,H⟩:=H;have rx:=aJ hx hs;have rk:=aJ hk hs;have ek:=Js I rk;generalize b5:x'.get e=dx at H rx;cases dx<;>try exact H.elim
 rename_i n;simp only at H;generalize a7:c.h n=sl at H;cases sl<;>try exact H.elim
 rename_i b4 ents;obtain⟨rfl,H⟩:=H;generalize V:a.eval x=vx at rx
 cases rx with
 | mpDead _ _ h=>rw[a7]at h;cases h
 | mp _ g b3 b1 h hρ =>
  obtain⟨es,clock,hg,b2,a1⟩:=NJ hp hr a7 hρ;obtain⟨r,hf,Z⟩:=N4 (P:=P) (w:=w) Q I a1;rcases Z.get with⟨rfl,hm⟩|⟨j,en,p,rfl,hl,he,a8,hm⟩
  ·rw[hm]at H;simp only[Option.getD_none,Option.isSome_none]at H
   cases ok with
   | false =>
    refine⟨z,zd,?_,jA a2 c,H⟩;simp[execOp,ho,Instr.lookup,run_underlying hu,V,MapKept.run_getObj_map hg,ek,oY Q I,hf,bX a6,Result.andThen]
   | true =>
    refine⟨.tuple #[z,.bool false],_,?_,.tup [zd,.bool false] _ rfl ?_,H⟩
    ·simp[execOp,ho,Instr.lookup,run_underlying hu,V,MapKept.run_getObj_map hg,ek,oY Q I,hf,bX a6,Result.andThen]
    ·intro i d G
     match i,G with
     | 0,G=>cases G;exact jA a2 c
     | 1,G=>cases G;exact .bool _
  ·rw[hm]at H;simp only[Option.getD_some,Option.isSome_some]at H
   have hrel:aB c p.2 en.val:=by
    obtain⟨_,_,e2,q1,_,q2⟩:=a1.el j p he;grind
   cases ok with
   | false =>
    refine⟨en.val,p.2,?_,hrel,H⟩;simp[execOp,ho,Instr.lookup,run_underlying hu,V,MapKept.run_getObj_map hg,ek,oY Q I,hf,Result.andThen]
   | true =>
    refine⟨.tuple #[en.val,.bool true],_,?_,.tup [p.2,.bool true] _ rfl ?_,H⟩
    ·simp[execOp,ho,Instr.lookup,run_underlying hu,V,MapKept.run_getObj_map hg,ek,oY Q I,hf,Result.andThen]
    ·intro i d G
     match i,G with
     | 0,G=>cases G;exact hrel
     | 1,G=>cases G;exact .bool _
theorem TA {o:Oper}{t key elem:TypeId}{x k y:Operand}{x' k' y':Arg}{kt:KeyT}(ho:o.op=.mapUpdate t x k y\/o.op=.insert t x k y) (hx:cArg x=some x') (hk:cArg k=some k') (hy:cArg y=some y') (hu:P.underlying t=some (.map key elem)) (hkt:keyT P key=some kt)
  (hd:o.dst=none):fT P nt o (.mupd kt x' k' y'):=by
 have a6:=Lk hkt;have hex:∀ev,execOp ev o=execOp ev { o with op:=.mapUpdate t x k y }:=λ ev=>by grind [execOp]
 refine fT.unit λ K e c w a Q hp hr hs=>?_
 simp only[vcOp]at Q;obtain⟨I,hone,Q⟩:=Q;have rx:=aJ hx hs;have rk:=aJ hk hs;have ry:=aJ hy hs;have ek:=Js I rk;generalize c7:x'.get e=dx at Q rx;cases dx<;>try exact Q.elim
 rename_i n;simp only at Q;generalize Z:c.h n=sl at Q;cases sl<;>try exact Q.elim
 rename_i c5 ents;obtain⟨rfl,Q⟩:=Q;generalize b1:a.eval x=vx at rx
 cases rx with
 | mpDead _ _ h=>rw[Z]at h;cases h
 | mp _ g c4 c2 h hρ =>
  obtain⟨es,clock,hg,a2,G⟩:=NJ hp hr Z hρ;obtain⟨r,hf,a1⟩:=N4 (P:=P) (w:=w) a6 I G;rw[ek]at rk
  cases a1 with
  | no a8 =>
   rw[WN a8]at Q
   obtain⟨hle,a7⟩:=Lg (es':=es.push { key:=kv (k'.get e),val:=a.eval y,born:=clock }) (clock':=clock+1) (ents':=ents++[(k'.get e,y'.get e)]) hp hr Z hρ hg (by have:=G.len;simp at this;simp[this]) (MapKept.stamped_push a2 (λ x hx=>G.abz I a8 hx)) (λ i p H=>by
    have hlen:es.size=ents.length:=by have:=G.len;simpa using this
    by_cases hi:i<ents.length
    ·rw[List.getElem?_append_left hi]at H;obtain⟨h1,h2,e2,h3,h4,h5⟩:=G.el i p H;grind
    ·rw[List.getElem?_append_right (by omega)]at H;have c1:=(ar.1 H).1;simp at c1;have c0:i=ents.length:=by omega
     subst c0;simp at H;subst H;refine⟨I,hone,{ key:=kv (k'.get e),val:=a.eval y,born:=clock },?_,rk,ry⟩
     grind)
   refine⟨.skip,_,c.ρ,_,.undef,?_,Or.inl ⟨rfl,hd⟩,hle,a7,⟨rfl,rfl,rfl⟩,Q⟩;rw[hex];simp[execOp,Instr.mapUpdate,run_underlying hu,b1,MapKept.run_getObj_map hg,ek,oY a6 I,hf,MapKept.run_setObj_map _ hg,World.putObj,Result.andThen]
  | yes j en p hl he V b3 =>
   rw[T9 he V b3]at Q;obtain⟨b4,c6,e2,q1,q2,q3⟩:=G.el j p he;rw[hl]at q1;cases q1;have c3:k'.get e=p.1:=Pj I b4 V;have b2:en.key=kv (k'.get e):=by grind [Js]
   have b5:es[j]?=some en:=by simpa using hl
   obtain⟨hle,a7⟩:=Lg (es':=es.modify j λ e'=>{ e' with key:=kv (k'.get e),val:=a.eval y }) (clock':=clock) (ents':=ents.set j (p.1,y'.get e)) hp hr Z hρ hg (by have:=G.len;simpa using this) (MapKept.stamped_modify a2 j _ (λ _ _=>rfl) (λ x _ hx=>by grind)) (λ i q H=>by
    by_cases b7:i=j
    ·grind
    ·rw[List.getElem?_set_ne (Ne.symm b7)]at H;obtain⟨h1,h2,e2,h3,h4,h5⟩:=G.el i q H
     grind)
   refine⟨.skip,_,c.ρ,_,.undef,?_,Or.inl ⟨rfl,hd⟩,hle,a7,⟨rfl,rfl,rfl⟩,Q⟩;rw[hex];simp[execOp,Instr.mapUpdate,run_underlying hu,b1,MapKept.run_getObj_map hg,ek,oY a6 I,hf,b5,b2,Rv I,MapKept.run_setObj_map _ hg,World.putObj,Result.andThen]
def cOpM (P:Program) (o:Oper):Option AOp :=
 match o.op with
 | .makeMap t none=>match P.underlying t with
  | some (.map key _)=>(keyT P key).map .KL
  | _=>none
 | .lookup t x k ok=>match P.underlying t,cArg x,cArg k with
  | some (.map key elem),some x,some k=>match keyT P key,fM P elem with
   | some kt,some z=>some (.look kt x k z ok)
   | _,_=>none
  | _,_,_=>none
 | .mapUpdate t x k y=>match P.underlying t,cArg x,cArg k,cArg y,o.dst with
  | some (.map key _),some x,some k,some y,none=>(keyT P key).map (.mupd · x k y)
  | _,_,_,_,_=>none
 | .insert t x k y=>match P.underlying t,cArg x,cArg k,cArg y,o.dst with
  | some (.map key _),some x,some k,some y,none=>(keyT P key).map (.mupd · x k y)
  | _,_,_,_,_=>none
 | _=>none
theorem PN {o:Oper}{op:AOp}(h:cOpM P o=some op) (hd:∀i,o.dst=some i->i<nt):fT P nt o op:=by
 unfold cOpM at h;split at h
 ·rename_i t ho;split at h
  ·rename_i key elem hu;simp at h;grind [aa4]
  ·cases h
 ·grind [Zg]
 ·rename_i t x k y ho;split at h
  ·rename_i key elem Q k' I hu hx H hy hn;simp at h;grind [TA]
  ·cases h
 ·rename_i t x k y ho;split at h
  ·rename_i key elem Q k' I hu hx H hy hn;simp at h;obtain⟨kt,G,rfl⟩:=h;exact TA (Or.inr ho) hx H hy hu G hn
  ·cases h
 ·cases h
theorem MV {o:Oper}{op:AOp}(h:cOpM P o=some op):∀c,o.op≠.defer c:=by
 grind [cOpM]
end Go.Am
namespace Go.Am
open Go
variable [ca]
variable {P:Program}{nt:Nat}
def cTy (P:Program) (t:TypeId):Option (Nat×Bool) :=
 match (P.info? t).map (·.size),P.underlying t with
 | some n,some d=>some (n,match d with|.struct _=>true|.array _ _=>true|_=>false)
 | _,_=>none
theorem xu {t:TypeId}{n:Nat}{b:Bool}(h:cTy P t=some (n,b)):Kd P t n b:=by
 unfold cTy at h;split at h
 ·rename_i G d h1 h2;simp at h;obtain⟨rfl,rfl⟩:=h;exact⟨h1,d,h2,rfl⟩
 ·cases h
def cOp0 (P:Program) (fz:Bool) (o:Oper):Option AOp :=
 match o.op with
 | .move x=>(cArg x).map .mov
 | .assign x=>(cArg x).map .mov
 | .pick x y z=>match cArg x,cArg y,cArg z with
  | some x,some y,some z=>some (.pick x y z)
  | _,_,_=>none
 | .binOp op t x y _=>match cArg x,cArg y with
  | some x,some y =>
   match op,P.underlying t with
   | .eql,some .bool=>if P.eqGuardType P.depth t then none else match eqTy P 100 t,cTy P t with
    | some [.b],some (1,false)=>some (.eqv false false [.b] x y)
    | _,_=>none
   | .neq,some .bool=>if P.eqGuardType P.depth t then none else match eqTy P 100 t,cTy P t with
    | some [.b],some (1,false)=>some (.eqv true false [.b] x y)
    | _,_=>none
   | .eql,some (.struct _)=>if P.eqGuardType P.depth t then none else match eqTy P 100 t,cTy P t with
    | some ks,some (n,true)=>if ks.length=n then some (.eqv false true ks x y) else none
    | _,_=>none
   | .neq,some (.struct _)=>if P.eqGuardType P.depth t then none else match eqTy P 100 t,cTy P t with
    | some ks,some (n,true)=>if ks.length=n then some (.eqv true true ks x y) else none
    | _,_=>none
   | .eql,some (.slice _)=>match y with
    | .c .nil=>some (.nilq false x)
    | _=>none
   | .neq,some (.slice _)=>match y with
    | .c .nil=>some (.nilq true x)
    | _=>none
   | op,_=>some (.bin op x y)
  | _,_=>none
 | .unOp op _ x=>(cArg x).map (.un op)
 | .convert s d x=>match P.underlying s,P.underlying d,cArg x with
  | some _,some (.int k),some x=>some (.conv k x)
  | some (.slice e),some .string,some x=>match P.underlying e with
   | some (.int .u8)=>some (.b2s x)
   | _=>none
  | _,_,_=>none
 | .extract x i=>(cArg x).map (.ext · i)
 | .field t x f=>match P.underlying t with
  | some (.struct fs)=>match fs[f]? with
   | some fd=>match cTy P fd.type,cArg x with
    | some (n,b),some x=>some (.fld x fd.offset n b)
    | _,_=>none
   | none=>none
  | _=>none
 | .build t ps=>match fM P t,cParts P t ps.toList,cPlace P t 0 with
  | some z,some qs,some _=>some (.bld z.cells qs)
  | _,_,_=>none
 | .buildSlice t len ps=>match P.underlying t with
  | some (.slice e)=>match (P.info? e).map (·.size),fM P e,cPartsS len ps.toList with
   | some n,some z,some qs=>if 0<n/\z.cells.length=n/\len*n<=16777216 then some (.bldS fz n len z qs) else none
   | _,_,_=>none
  | _=>none
 | .nilCheck x=>(cArg x).map (.fadd · 0)
 | .fieldAddr t x f=>match P.underlying t with
  | some (.struct fs)=>match fs[f]? with
   | some fd=>match (P.info? fd.type).map (·.size),cArg x with
    | some n,some x=>if n≠0 then some (.fadd x fd.offset) else none
    | _,_=>none
   | none=>none
  | _=>none
 | .indexAddr t x i=>match P.underlying t,cArg x,cArg i with
  | some (.slice e),some x,some i=>match (P.info? e).map (·.size) with
   | some n=>some (.iadd x i n)
   | none=>none
  | some (.array len e),some x,some i=>match (P.info? e).map (·.size) with
   | some n=>some (.iadda x i len n)
   | none=>none
  | _,_,_=>none
 | .index t x i=>match P.underlying t,cArg x,cArg i with
  | some .string,some x,some i=>some (.sidx x i 0 0 false)
  | some (.array len e),some x,some i=>match cTy P e with
   | some (n,b)=>if 0<len then some (.sidx x i len n b) else none
   | none=>none
  | _,_,_=>none
 | .load t x=>match cTy P t,cArg x with
  | some (n,b),some x=>some (.ld x n b)
  | _,_=>none
 | .store t x v=>match (P.info? t).map (·.size),cArg x,cArg v,o.dst with
  | some n,some x,some v,none=>if 0<n then some (.st x v n) else none
  | _,_,_,_=>none
 | .alloc t=>(fM P t).map .alloc
 | .box _ x=>(cArg x).map .box
 | .makeSlice t x y=>match P.underlying t with
  | some (.slice e)=>match P.info? e,fM P e,cArg x,cArg y with
   | some i,some z,some x,some y=>if z.cells.length=i.size/\0<i.size then some (.mk i.size i.bytes z x y) else none
   | _,_,_,_=>none
  | _=>none
 | .slice t x lo hi mx=>match P.underlying t,cArg x,cOpt lo,cOpt hi with
  | some (.slice e),some x,some lo',some hi'=>match cOpt mx,(P.info? e).map (·.size) with
   | some mx',some n=>if mx.isSome=true/\hi.isSome=false then none else if lo.isNone=true/\hi.isSome=true/\mx.isSome=true/\isZ hi'=true/\isZ mx'=true/\0<n then some (.slz x n) else some (.mZ x lo' hi' mx' n)
   | _,_=>none
  | some .string,some x,some lo,some hi=>if mx.isSome then none else some (.sslc x lo hi)
  | some (.array n elem),some x,some _,some _=>if lo.isNone=true/\hi.isNone=true/\mx.isNone=true/\(P.info? elem).map (·.size)=some 1 then some (.SP x n) else none
  | _,_,_,_=>none
 | .makeFunc (.func f) xs ys=>match xs.toList.mapM cArg,ys.toList.mapM cArg with
  | some xs,some ys=>some (.mkf f xs ys)
  | _,_=>none
 | .call c=>match c with
  | { callee:=.builtin .len,args:=args,argTypes:=ats }=>match args.toList,ats.toList with
   | [x],[t]=>match P.underlying t,cArg x with
    | some (.slice _),some x=>some (.len x)
    | some .string,some x=>some (.slen x)
    | _,_=>none
   | _,_=>none
  | { callee:=.builtin .min,args:=args,argTypes:=_ }=>match args.toList.mapM cArg with
   | some [x,y]=>some (.mn x y)
   | some [x,y,z]=>some (.mn3 x y z)
   | _=>none
  | { callee:=.builtin .max,args:=args,argTypes:=_ }=>match args.toList.mapM cArg with
   | some [x,y]=>some (.mx x y)
   | some [x,y,z]=>some (.mx3 x y z)
   | _=>none
  | { callee:=.builtin .append,args:=args,argTypes:=ats }=>match args.toList,ats.toList with
   | [s,x],[t,t']=>match P.underlying t,P.underlying t' with
    | some (.slice e),some (.slice _)=>match P.info? e,fM P e,cArg s,cArg x with
     | some i,some z,some s,some x=>if z.cells.length=i.size/\0<i.size then some (.app s x i.size i.bytes z) else none
     | _,_,_,_=>none
    | _,_=>none
   | _,_=>none
  | { callee:=.builtin .copy,args:=args,argTypes:=ats }=>match args.toList,ats.toList with
   | [s,x],[t,_]=>match P.underlying t with
    | some (.slice e)=>match (P.info? e).map (·.size),cArg s,cArg x with
     | some n,some s,some x=>if 0<n then some (.Iy s x n) else none
     | _,_,_=>none
    | _=>none
   | _,_=>none
  | { callee:=.value (.func f),args:=args,argTypes:=_ }=>if fF P f then(args.toList.mapM cArg).map (.call f) else none
  | { callee:=.value x,args:=args,argTypes:=_ }=>match cArg x,args.toList.mapM cArg with
   | some x,some args=>some (.callv x args)
   | _,_=>none
  | _=>none
 | .makeInterface _ _=>some .dead
 | .panic _=>some .dead
 | _=>none
def deadOp (o:Oper):Option AOp :=
 match o.op with
 | .defer _=>none
 | _=>some .dead
def cOp (P:Program) (fz:Bool) (o:Oper):Option AOp :=
 match cOp0 P fz o with
 | some op=>some op
 | none=>match cOpM P o with
  | some op=>some op
  | none=>deadOp o
theorem Y5 {α:Type}{a:Array α}{x:α}(h:a.toList=[x]):a = #[x]:=by grind
theorem IJ {α:Type}{a:Array α}{x y:α}(h:a.toList=[x,y]):a = #[x,y]:=by grind
theorem Cy {p:Operand}{r:List Operand}{l:List Arg}(h:(p::r).mapM cArg=some l):∃y s,cArg p=some y/\r.mapM cArg=some s/\l=y::s:=by
 rw[List.mapM_cons]at h
 cases h1:cArg p with
 | none=>simp[h1]at h
 | some y =>
  cases h2:r.mapM cArg with
  | none=>simp[h1,h2]at h
  | some s=>grind
theorem abq {l:List Operand}(h:l.mapM cArg=some []):l=[]:=by
 cases l with
 | nil=>rfl
 | cons p r=>grind [Cy]
theorem Ug {l:List Operand}{x y:Arg}(h:l.mapM cArg=some [x,y]):∃p q,l=[p,q]/\cArg p=some x/\cArg q=some y:=by
 cases l with
 | nil=>simp at h
 | cons p r =>
  obtain⟨G,s1,h1,h2,h3⟩:=Cy h;cases h3
  cases r with
  | nil=>simp at h2
  | cons q s =>
   grind [Cy,abq]
theorem Yo {l:List Operand}{x y z:Arg}(h:l.mapM cArg=some [x,y,z]):∃p q r,l=[p,q,r]/\cArg p=some x/\cArg q=some y/\cArg r=some z:=by
 cases l with
 | nil=>simp at h
 | cons p r =>
  grind [Cy,Ug]
theorem PO {fz:Bool}{o:Oper}{op:AOp}(h:cOp0 P fz o=some op) (hd:∀i,o.dst=some i->i<nt):fT P nt o op:=by
 unfold cOp0 at h;split at h
 ·rename_i x ho;simp at h;grind [Yj]
 ·rename_i x ho;simp at h;obtain⟨x',hx,rfl⟩:=h;exact Yj (Or.inr ho) hx hd
 ·grind [Zd]
 ·grind [aa9,xu,Ze,abd]
 ·rename_i a6 t x ho;simp at h;grind [ac1]
 ·grind [Zj,abe]
 ·rename_i x i ho;simp at h;grind [aa8]
 ·grind [aa7,xu]
 ·grind [abc]
 ·grind [Zk]
 ·rename_i x ho;simp at h;grind [Zf]
 ·grind [Zi]
 ·grind [Zh,Wm]
 ·grind [Zc,Wl,xu]
 ·grind [ac4,xu]
 ·grind [ac2]
 ·rename_i t ho;simp at h;grind [Wo]
 ·rename_i t x ho;simp at h;grind [abb]
 ·grind [ac3]
 ·rename_i t x lo hi mx ho;split at h
  ·rename_i hu hx a1 a2;split at h
   ·rename_i a7 hn;split at h
    ·cases h
    ·rename_i hc;split at h
     ·rename_i hz;obtain⟨z1,z2,z3,z4,z5,z6⟩:=hz;simp at h;subst h
      cases lo with
      | some v=>cases z1
      | none =>
      cases hi with
      | none=>cases z2
      | some hi =>
      cases mx with
      | none=>cases z3
      | some mx=>grind [aa0]
     grind [aa1]
   ·cases h
  ·rename_i hu hx a1 a2;split at h
   ·cases h
   ·rename_i hc;simp at h;subst h;have hm:mx=none:=by cases mx<;>simp_all
    grind [Za]
  ·rename_i hu hx _ _;split at h
   ·rename_i hc;obtain⟨c1,c2,c3,c4⟩:=hc;simp at h;subst h;cases lo<;>cases hi<;>cases mx<;>simp at c1 c2 c3;exact aa2 ho hx hd hu c4
   ·cases h
  ·cases h
 ·grind [aa5]
 ·rename_i c ho;split at h
  ·grind [Y5,aa6,Zb]
  ·rename_i args Q;split at h
   ·rename_i h1;obtain⟨p,q,I,G,H⟩:=Ug h1;have:=IJ I;subst this;simp at h;subst h;exact aa3 false ho G H hd
   ·rename_i h1;obtain⟨p,q,r,I,G,H,e4⟩:=Yo h1;have:args = #[p,q,r]:=by grind
    subst this;simp at h;subst h;exact Yk false ho G H e4 hd
   ·cases h
  ·rename_i args Q;split at h
   ·rename_i h1;obtain⟨p,q,I,G,H⟩:=Ug h1;have:=IJ I;subst this;simp at h;subst h;exact aa3 true ho G H hd
   ·rename_i h1;obtain⟨p,q,r,I,G,H,e4⟩:=Yo h1;have:args = #[p,q,r]:=by grind
    subst this;simp at h;subst h;exact Yk true ho G H e4 hd
   ·cases h
  ·rename_i args Q;split at h
   ·rename_i h1 h2;have I:=IJ h1;have G:=IJ h2;subst I G;split at h
    ·rename_i hu Z;split at h
     ·rename_i h3 h4 h5 h6;split at h
      ·rename_i hc;simp at h;subst h;exact abf ho h5 h6 hd hu ⟨_,Z⟩ h3 h4 hc.1 hc.2
      ·cases h
     ·cases h
    ·cases h
   ·cases h
  ·grind [IJ,aba]
  ·rename_i f args Q;split at h
   ·rename_i hc;simp at h;grind [TB]
   ·cases h
  ·grind [Wn]
  ·cases h
 ·simp at h;subst h;exact λ _ _ _ V=>V.elim
 ·simp at h;subst h;exact λ _ _ _ V=>V.elim
 ·cases h
theorem Gz {o:Oper}{op:AOp}(h:deadOp o=some op):op=.dead/\∀c,o.op≠.defer c:=by
 grind [deadOp]
theorem sA {fz:Bool}{o:Oper}{op:AOp}(h:cOp P fz o=some op) (hd:∀i,o.dst=some i->i<nt):fT P nt o op:=by
 unfold cOp at h;split at h
 ·grind [PO]
 ·split at h
  ·grind [PN]
  ·obtain⟨rfl,_⟩:=Gz h;exact λ _ _ _ G=>G.elim
end Go.Am
namespace Go.Am
open Go
variable [ca]
variable {P:Program}{nt:Nat}
theorem grow_step {c:Ctx}(hr:aA c) (o:Obj):c.le ⟨c.ρ,c.X,c.h,c.hp.push o⟩/\aA ⟨c.ρ,c.X,c.h,c.hp.push o⟩:=by
 have get:∀g,g<c.hp.size->(c.hp.push o)[g]?=c.hp[g]?:=λ g hg=>by grind
 have hle:c.le ⟨c.ρ,c.X,c.h,c.hp.push o⟩ :=
  ⟨by simp,rfl,λ g hg _=>get g hg,λ g cur ty fr hg=>⟨cur,(get g (Array.getElem?_eq_some_iff.1 hg).1).trans hg,rfl⟩,λ g r hg=>⟨r,(get g (Array.getElem?_eq_some_iff.1 hg).1).trans hg,rfl⟩,
   λ _ _=>rfl,λ _=>Trans.refl _,λ n g hm hρ _=>⟨n,hm,hρ⟩⟩
 exact⟨hle,λ n=>iz hle (hr.slot n) (λ _ _=>rfl) (λ g hm hρ=>get g (jE hr hm hρ)),hr.inj,hr.apart,λ g G=>by have:=hr.xlt g G;simp;omega,hr.fin,hr.glob.mono hle,by rw[hle.X];exact Nat.le_trans hr.lo hle.size⟩
def ei (st:LSt) (B:dT) (tmps:Array Value) (dfs:Nat):Loop :=
 { state:=st.st,pending:=st.pend,fn:=B.fn,tmps:=tmps,params:=B.ps.toArray,assign:=B.assign,body:=B.body,defers:=dfs }
theorem Jn {c:Ctx}{w:World}(hp:c.hp=w.heap) (hr:aA c){n g:Nat}{st:LSt}{B:dT}(hn:c.h n=.lp st B) (hρ:c.ρ n=some g){tmps:Array Value}{dfs:Nat}(hg:w.heap[g]?=some (.loop (ei st B tmps dfs)))
  (hsz:tmps.size=B.nt) (hrel:∀i,aB c (B.env i) (tmps.getD i Go.undef)) (st':LSt) :
  c.le ⟨c.ρ,c.X,aF c.h n (.lp st' B),(w.putObj g (.loop (ei st' B tmps dfs))).heap⟩/\aA ⟨c.ρ,c.X,aF c.h n (.lp st' B),(w.putObj g (.loop (ei st' B tmps dfs))).heap⟩:=by
 have H:=(Array.getElem?_eq_some_iff.1 hg).1
 have G:kg c ⟨c.ρ,c.X,aF c.h n (.lp st' B),(w.putObj g (.loop (ei st' B tmps dfs))).heap⟩ n n g:=by
  refine⟨rfl,λ k h1 _=>by simp[aF,h1],λ _ _=>rfl,Or.inl rfl,λ h=>absurd rfl h,by simp[aF,Slot.mine],hρ,by simp only[av];rw[hn];exact .lpLp _ _ _,λ _=>hρ,
   by simp[World.putObj_size,hp],λ k _ h2=>by grind [World.putObj_heap_other],λ cur ty fr h=>(by rw[hp,hg]at h;cases h),λ r h=>?_,Or.inr ⟨by rw[hn];trivial,hρ⟩⟩
  rw[hp,hg]at h;cases h;exact⟨_,World.putObj_heap_same H,rfl⟩
 refine⟨G.le,G.heap hr ?_⟩;simp only[av];exact⟨g,tmps,dfs,hρ,World.putObj_heap_same H,hsz,λ i=>(hrel i).mono G.le⟩
theorem LZ {α:Type}(f:Nat->α) (n:Nat) (x y:α):aF (aF f n x) n y=aF f n y:=by
 grind [aF]
theorem Il {c:Ctx}{w:World}(hp:c.hp=w.heap) (hr:aA c){n g:Nat}{st:LSt}{B:dT}(hn:c.h n=.lp st B) (hρ:c.ρ n=some g) :
  ∃(tmps:Array Value) (dfs:Nat),w.heap[g]?=some (.loop (ei st B tmps dfs))/\tmps.size=B.nt/\∀i,aB c (B.env i) (tmps.getD i Go.undef):=by
 have hs:=hr.slot n;rw[hn]at hs;obtain⟨G,tmps,dfs,h1,h2,h3,h4⟩:=hs;rw[hρ]at h1;cases h1;exact⟨tmps,dfs,by rw[<- hp];exact h2,h3,h4⟩
theorem Cz {c c':Ctx}(hle:c.le c'){n g:Nat}{st:LSt}{B:dT}(hn:c.h n=.lp st B) (hρ:c.ρ n=some g){st':LSt}{B':dT}(hn':c'.h n=.lp st' B'):B'=B/\c'.ρ n=some g:=by
 have ht:=hle.tr n;rw[hn,hn']at ht;refine⟨by cases ht;rfl,(hle.names n (by rw[hn];simp)).trans hρ⟩
theorem Je {a:Act}{g:Operand}{f:FuncId}{cs:Array Value}(hg:a.eval g=.func (.func f) #[] cs) (l:Nat) (w:World) :
  (resolve a.eval (rangeCall g l) 0).run P w=.ok { target:=.fn (.func f) cs,args:= #[.func (.yield l) #[] #[]] } w:=by
 simp only[resolve,hg];simp[go_sem]
theorem TL {c:Ctx}{d:D}{ds:List D}{v:Value}{vs:Array Value}(h:aB c d v) (hs:∀(i:Nat) (x:D),ds[i]?=some x->aB c x (vs.getD i Go.undef)) :
  ∀(i:Nat) (x:D),(d::ds)[i]?=some x->aB c x ((#[v]++vs).getD i Go.undef):=by
 intro i x hx
 cases i with
 | zero =>
  simp at hx;subst hx;have e:(#[v]++vs).getD 0 Go.undef=v:=by rw[<- aO];simp
  rw[e];exact h
 | succ i =>
  simp at hx;have:=hs i x hx
  have e:(#[v]++vs).getD (i+1) Go.undef=vs.getD i Go.undef:=by
   rw[<- aO, <- aO];simp
  rw[e];exact this
theorem get_map (l:List Nat) (f:Nat->D) (i:Nat):LEnv.get (l.map λ k=>(k,f k)) i=.undef\/LEnv.get (l.map λ k=>(k,f k)) i=f i:=by
 induction l with
 | nil=>exact Or.inl rfl
 | cons k r G =>
  grind [LEnv.get]
theorem SA {g:Operand}{g':Arg}{ps:Array Nat}{keep exs:List Nat}{assign body:Code}{a' b':ACode}(hg:cArg g=some g') (hnd:ps.toList.Nodup) (hlt:∀p∈ps.toList,p<nt)
  (iha:∀(Q:LPost) (e:LEnv) (h:Heap),vcC P a' Q e h->sC P nt assign (λ x=>up (Q x)) e.get h)
  (ihb:∀(Q:LPost) (e:LEnv) (h:Heap),vcC P b' Q e h->sC P nt body (λ x=>up (Q x)) e.get h)
  {Q:LPost}{e:LEnv}{h:Heap}(hv:vcC P (.range g' ps.toList keep exs a' b') Q e h):sC P nt (.rangeFunc g ps assign body) (λ x=>up (Q x)) e.get h:=by
 intro r c w a hh hp hr I ho;simp only[vcC]at hv;have rx:=aJ hg I;obtain⟨ke,g0⟩:∃ke:LEnv,ke=keep.map λ k=>(k,e.get k):=⟨_,rfl⟩
 rw[<- g0]at hv
 have hs:rM c nt ke.get a:=by
  refine⟨I.glob,I.lo,I.defers,I.size,λ i=>?_⟩;rw[g0];rcases get_map keep e.get i with h|h
  ·rw[h];exact .undef _
  ·rw[h];exact I.rel i
 generalize g'.get e=dx at hv rx;cases dx<;>try exact hv.elim
 rename_i f fs cs;obtain⟨rfl,j0,hv⟩:=hv;generalize g4:a.eval g=vg at rx
 cases rx with
 | fn _ _ _ va vb hsa hsb hra hrb =>
 have g7:va = #[]:=Array.eq_empty_of_size_eq_zero (by simpa using hsa);subst g7
 have core:∀(fn:FuncId) (H:Ctx) (V:World) (dfs:Nat) (mark:List Deferred),c.le H->H.h=h->H.hp=V.heap->aA H->WS w V->rM H nt ke.get { a with defers:=mark++a.defers } ->
   CallsIn (rF r) 0 P f (#[.func (.yield V.heap.size) #[] #[]]++vb) (V.alloc (.loop { state:=.ready,pending:=none,fn,tmps:=a.tmps,params:=ps,assign,body,defers:=dfs }))
    (rangePost (rF r) 0 P V.heap.size (FinX c w nt λ x=>up (Q x)) { a with defers:=mark++a.defers }):=by
  intro fn H V dfs mark Z c5 c2 a6 e1 I;obtain⟨ρ0,X0,h0,e6⟩:=H;have h9:X0=c.X:=Z.X;subst h9;obtain⟨H,h8⟩:∃H:Ctx,H=⟨ρ0,c.X,h0,e6⟩:=⟨_,rfl⟩;rw[<- h8]at Z c5 c2 a6 I;have hX:H.X=c.X:=Z.X;obtain⟨n,top⟩:=ft a6
  let B:dT:=⟨fn,nt,ke.get,ps.toList,assign,body⟩
  have e2:(.loop { state:=.ready,pending:=none,fn,tmps:=a.tmps,params:=ps,assign,body,defers:=dfs }:Obj)=.loop (ei .ready B a.tmps dfs):=by
   simp[ei,B,LSt.st,LSt.pend]
  rw[e2];have a2:=kg.new (c:=H) (n:=n) top.free (s:=.lp .ready B) trivial (.loop (ei .ready B a.tmps dfs)) (hp':=(V.alloc (.loop (ei .ready B a.tmps dfs))).heap) (by rw[c2];rfl);have a7:H.hp.size=V.heap.size:=by rw[c2]
  have h6:=a2.heap a6 (by
   simp only[av];refine⟨V.heap.size,a.tmps,dfs,by simp[aF,a7],?_,I.size,λ i=>(I.rel i).mono a2.le⟩;show(V.heap.push _)[V.heap.size]?=_
   exact o9 _ _)
  have c6:=hv n B (c5 ▸ top) rfl rfl hnd (λ p hp=>hlt p hp) iha ihb
  have hc:=c6 ⟨aF H.ρ n (some H.hp.size),H.X,aF H.h n (.lp .ready B),(V.alloc (.loop (ei .ready B a.tmps dfs))).heap⟩ (V.alloc (.loop (ei .ready B a.tmps dfs))) (#[.func (.yield V.heap.size) #[] #[]]++vb)
   (by rw[c5]) rfl h6 (by simp[hsb];omega)
   (TL (.yld n V.heap.size .ready B (by simp[aF]) (by simp[aF,a7])) (λ i d hd=>((hrb i d hd).mono Z).mono a2.le))
  refine(show CallsIn (rF r) 0 P f _ _ _ from callsIn_wide.2 hc).mono ?_;rintro e' w3 ⟨v,rr,ρ2,h2,rfl,b1,e5,b5,_,G⟩;have e8:(⟨aF H.ρ n (some H.hp.size),H.X,aF H.h n (.lp .ready B),(V.alloc (.loop (ei .ready B a.tmps dfs))).heap⟩:Ctx).h n=.lp .ready B:=by simp[aF]
  have e0:(⟨aF H.ρ n (some H.hp.size),H.X,aF H.h n (.lp .ready B),(V.alloc (.loop (ei .ready B a.tmps dfs))).heap⟩:Ctx).ρ n=some V.heap.size:=by simp[aF,a7]
  have go:∀(st:LSt),h2 n=.lp st B->st.st≠.busy->(∀(w4:World),(Instr.endLoop V.heap.size).run P w3=.ok st.pend w4->∀(x:Ex),Q x ke (aF h2 n .dead)->Fin c w nt (up (Q x)) { a with defers:=mark++a.defers } w4) /\
    ∃w4,(Instr.endLoop V.heap.size).run P w3=.ok st.pend w4:=by
   intro st c4 h7;obtain⟨_,c8⟩:=Cz b1 e8 e0 c4;obtain⟨a1,a8,q1,q2,q3⟩:=Il (c:=⟨ρ2,H.X,h2,w3.heap⟩) (w:=w3) rfl e5 c4 c8;have b3:=run_endLoop (P:=P) q1 h7;have c3:(.loop { ei st B a1 a8 with state:=.exhausted }:Obj)=.loop (ei (.over st.pend) B a1 a8):=rfl;rw[c3]at b3;refine⟨?_,_,b3⟩;intro w4 g8 x hq
   have g6:w4=w3.putObj V.heap.size (.loop (ei (.over st.pend) B a1 a8)):=by
    grind
   subst g6;obtain⟨c7,h5⟩:=Jn (c:=⟨ρ2,H.X,h2,w3.heap⟩) rfl e5 c4 c8 q1 q2 q3 (.over st.pend);obtain⟨b7,e4⟩:=Lh h5 (n:=n) (by simp only[av];exact .lpDead _ _) (by simp[aF]);simp only[LZ]at b7 e4;have g5:=(((Z.trans a2.le).trans b1).trans c7).trans b7;unfold Fin;rw[<- hX];exact⟨ρ2,ke.get,aF h2 n .dead,g5,e4,e1.trans (show WS V (w3.putObj _ _) from ⟨b5.os,b5.tape,b5.output⟩),I.mono (((a2.le).trans b1).trans (c7.trans b7)),ke,rfl,hq⟩
  unfold rangeEnd at G;cases b2:h2 n<;>simp only[b2]at G<;>try exact G.elim
  rename_i st B2;obtain⟨rfl,_⟩:=Cz b1 e8 e0 (show(⟨ρ2,H.X,h2,w3.heap⟩:Ctx).h n=_ from b2)
  cases st with
  | ready =>
   obtain⟨g1,w4,g2⟩:=go .ready b2 (by simp[LSt.st]);exact⟨none,w4,g2,g1 w4 g2 .normal G⟩
  | done x =>
   obtain⟨g1,w4,g2⟩:=go (.done x) b2 (by simp[LSt.st])
   cases x with
   | normal=>exact G.elim
   | exit id=>exact⟨some (.exit id),w4,g2,wpIn_exit (g1 w4 g2 (.exit id) (wT G))⟩
   | ret=>exact⟨some .ret,w4,g2,wpIn_ret (g1 w4 g2 .ret (zF G))⟩
   | pan=>exact G.elim
   | jump l=>exact G.elim
  | busy=>exact G.elim
  | over p=>exact G.elim
 refine wpIn_rangeFunc λ fn _=>?_
 cases r with
 | none =>
  obtain⟨c1,a6⟩:=grow_step hr (.deferred (some []))
  have e7:¬c.own w.heap.size:=by
   rintro (hX|⟨n,hm,hρ⟩)
   ·have:=hr.xlt _ hX;rw[hp]at this;omega
   ·have:=jE hr hm hρ;rw[hp]at this;omega
  have g3:(c.hp.push (.deferred (some [])))[w.heap.size]?=some (.deferred (some [])):=by grind
  have I:rM ⟨c.ρ,c.X,c.h,c.hp.push (.deferred (some []))⟩ nt ke.get { a with defers:=[{ target:=.collected w.heap.size,args:= #[] }]++a.defers }:=by
   have hm:=hs.mono c1;have e9:=hs.defers.marks;have b4:=e9.mono c1;refine⟨hm.glob,hm.lo,⟨?_,by rw[List.singleton_append,List.filter_cons_of_neg (by simp[Bp])];exact hm.defers.rest⟩,hm.size,hm.rel⟩;rw[List.singleton_append,List.filter_cons_of_pos (by simp[Bp])];refine⟨λ d hd=>?_,?_⟩
   ·simp only[List.mem_cons]at hd;rcases hd with rfl|hd
    ·exact⟨w.heap.size,rfl,by have:=hs.lo;rw[hp]at this;exact this,g3,e7⟩
    ·exact b4.all d hd
   ·simp only[List.pairwise_cons];refine⟨λ d hd=>?_,b4.nd⟩;obtain⟨k,rfl,_,h1,_⟩:=e9.all d hd;grind
  refine⟨_,_,_,_,_,f, #[.func (.yield (w.heap.size+1)) #[] #[]]++vb,(w.alloc (.deferred (some []))).alloc (.loop { state:=.ready,pending:=none,fn,tmps:=a.tmps,params:=ps,assign,body,defers:=w.heap.size }),run_enterLoop_outer _ _ _ _ _,Je g4 _ _,λ _ _=>trivial,?_,λ h=>by(cases h),?_⟩
  rotate_left
  ·have:=core fn ⟨c.ρ,c.X,c.h,c.hp.push (.deferred (some []))⟩ (w.alloc (.deferred (some []))) w.heap.size [{ target:=.collected w.heap.size,args:= #[] }] c1 hh (by rw[hp];rfl) a6 ⟨rfl,rfl,rfl⟩ I;grind [World.size_alloc]
  grind [invoke,kE]
 | some l0 =>
  obtain⟨rc,e3⟩:=ho l0 rfl;rw[hp]at e3;refine⟨_,_,_,_,_,f,_,_,run_enterLoop_inner e3 _ _ _ _ _,Je g4 _ _,λ _ _=>trivial,?_,λ h=>by(cases h),core fn c w rc.defers [] (Ctx.le.refl c) hh hp hr (WS.refl w) hs⟩;grind [invoke,kE]
end Go.Am
namespace Go.Am
open Go
variable [ca]
variable {P:Program}{nt:Nat}
def AOp.ZC:AOp->Bool
 | .call _ _=>true
 | _=>false
def cXOp (P:Program) (fz:Bool) (o:Oper):Option AOp :=
 match o.op with
 | .call { callee:=.value (.func f),args:=args,argTypes:=_ }=>if fF P f then(args.toList.mapM cArg).map (.call f) else none
 | .defer _=>none
 | _=>match cOp P fz o with
  | some op=>if op.ZC then none else some op
  | none=>none
def rD (P:Program) (fz:Bool) (nt:Nat) (o:Oper):Option AOper :=
 if o.dst.all (· < nt)&&o.guard.isNone then(cXOp P fz o).map (⟨o.dst,·,none⟩) else none
def isPanR (P:Program) (nt:Nat) (ops:Array Oper):Bool :=
 match ops.toList with
 | [o1,o2,o3]=>match o1.op,o2.op,o3.op,o1.dst,o2.dst with
  | .build t ps,.makeInterface t' (.tmp a'),.panic (.tmp b'),some a,some b =>
   decide (t=t')&&ps.isEmpty&&decide (a'=a)&&decide (b'=b)&&decide (a<nt)&&decide (b<nt)&&o1.guard.isNone&&o2.guard.isNone&&o3.guard.isNone &&
    (match P.underlying t with|some (.struct fs)=>fs.isEmpty|_=>false)&&(match (P.info? t).bind (·.zero) with|some (.agg cs)=>cs.isEmpty|_=>false) &&
    (match ca.panv with|.iface t0 (.agg cs)=>decide (t0=t)&&cs.isEmpty|_=>false)
  | _,_,_,_,_=>false
 | _=>false
def Di (P:Program) (nt:Nat) (ops:Array Oper) (l:List Nat) (K KP:Env->Heap->Prop) (t:Env) (h:Heap):Prop :=
 ∀(r:Option Nat) (c:Ctx) (w:World) (a:Act) (Q:Exit->Act->World->Prop),c.h=h->c.hp=w.heap->aA c->rM c nt t a->(∀a' w',Fin c w nt K a' w'->Q .normal a' w') ->
  (∀a' w',Fin c w nt KP a' w'->Q (.panic [{ v:=ca.panv,recovered:=false }]) a' w')->wpOpsIn (rF r) 0 P ops Q l a w
theorem SD {ops:Array Oper}{K KP:Env->Heap->Prop}{t:Env}{h:Heap}(hk:K t h):Di P nt ops [] K KP t h :=
 λ _ _ _ _ _ H hp hr hs G _=>G _ _ (Fin.here H hp hr hs hk)
theorem OG {id:Nat}{ops:Array Oper}{Q:Post}{t:Env}{h:Heap}(hx:Di P nt ops (List.range ops.size) (Q .normal) (Q .pan) t h):sC P nt (.region id ops false) Q t h :=
 λ r c w a H hp hr hs _=>wpIn_region (hx r c w a _ H hp hr hs (λ _ _ G=>G) (λ _ _ G=>⟨rfl,G⟩))
theorem PS {ops:Array Oper}{i:Nat}{rest:List Nat}{o:Oper}{K KP:Env->Heap->Prop}{t:Env}{h:Heap}(ho:ops[i]?=some o) (hnd:∀c,o.op≠.defer c) (hg:o.guard=none)
  (hx:OK P nt o (Di P nt ops rest K KP) t h):Di P nt ops (i::rest) K KP t h:=by
 intro r c w a Q hh hp hr hs hq I;simp only[wpOpsIn,ho];rw[if_pos (by simp[Region.wanted,hg])];refine Oper.wpIn_mono (λ a' w' G=>?_) (hx hnd r c w a Q hh hp hr hs);obtain⟨ρ,t',h',r1,r2,Z,r4,r5⟩:=G;exact r5 r _ w' a' Q rfl rfl r2 r4 (λ V H G=>hq _ _ (Fin.from r1 Z G)) (λ V H G=>I _ _ (Fin.from r1 Z G))
theorem PT {ops:Array Oper}{i:Nat}{rest:List Nat}{o:Oper}{f:FuncId}{args:Array Operand}{ats:Array TypeId}{args':List Arg}{K KP:Env->Heap->Prop}{e:LEnv}{h:Heap}(ho:ops[i]?=some o) (hg:o.guard=none)
  (hop:o.op=.call { callee:=.value (.func f),args:=args,argTypes:=ats }) (ha:args.toList.mapM cArg=some args') (hd:∀i,o.dst=some i->i<nt) (hf:fF P f=true)
  (hx:yG P f (args'.map (·.get e)) h (λ d h'=>Di P nt ops rest K KP (e.put o.dst d).get h') (λ h'=>KP e.get h')):Di P nt ops (i::rest) K KP e.get h:=by
 intro r c w a Q hh hp hr hs hq H;simp only[wpOpsIn,ho];rw[if_pos (by simp[Region.wanted,hg])];obtain⟨a1,a2⟩:=pE ha hs
 have G:(execOp a.eval o).run P w=.ok (.enter f (args.map a.eval)) w:=by
  grind [execOp,resolve,Deferred.ofValue,Act.eval,invoke,kE]
 refine kF (λ c hc=>by rw[hop]at hc;cases hc) G ?_;refine⟨λ h=>by(cases h),?_⟩;refine(show CallsIn (rF r) 0 P f _ w _ from callsIn_wide.2 (hx c w _ hh hp hr a1 a2)).mono ?_;rintro e' w' ⟨ρ,h',h1,h2,h3,⟨v,d,rfl,h4,V⟩|⟨rfl,V⟩⟩
 ·refine V r ⟨ρ,c.X,h',w'.heap⟩ w' _ Q rfl rfl h2 (by rw[LEnv.bO];exact(hs.mono h1).put hd h4) (λ Z I hf=>hq _ _ (Fin.from h1 h3 hf)) (λ Z I hf=>H _ _ (Fin.from h1 h3 hf))
 ·exact H _ _ ⟨ρ,e.get,h',h1,h2,h3,hs.mono h1,V⟩
theorem Ou {fz:Bool}{o:Oper}{ao:AOper}(h:rD P fz nt o=some ao):(∀i,o.dst=some i->i<nt)/\o.guard=none/\∃op,cXOp P fz o=some op/\ao=⟨o.dst,op,none⟩:=by
 unfold rD at h;split at h
 ·rename_i hc;simp only[Bool.and_eq_true]at hc;simp at h;obtain⟨op,h1,h2⟩:=h;refine⟨λ i hi=>?_,by simpa using hc.2,op,h1,h2.symm⟩;grind
 ·cases h
theorem MU {fz:Bool}{ops:Array Oper}{i:Nat}{rest:List Nat}{o:Oper}{ao:AOper}{r:List AOper}(ho:ops[i]?=some o) (hc:rD P fz nt o=some ao){KN KP:LEnv->Heap->Prop}{e:LEnv}{h:Heap}
  (hrest:∀e' h',vcOpsX P r KN KP e' h'->Di P nt ops rest (up KN) (up KP) e'.get h') (hv:vcOpsX P (ao::r) KN KP e h):Di P nt ops (i::rest) (up KN) (up KP) e.get h:=by
 obtain⟨hd,hg,op,hop,rfl⟩:=Ou hc;unfold cXOp at hop;split at hop
 ·rename_i f args a8 a1;split at hop
  ·rename_i hf;simp at hop;obtain⟨a7,ha,rfl⟩:=hop;simp only[vcOpsX]at hv;refine PT ho hg a1 ha hd hf (hv.mono (λ d h' hk=>hrest _ _ hk) (λ h' hk=>⟨e,rfl,hk⟩))
  ·cases hop
 ·cases hop
 ·rename_i a2;split at hop
  ·rename_i G H;split at hop
   ·cases hop
   ·rename_i a6;simp at hop;subst hop;have hs:=sA (nt:=nt) H hd
    have V:vcOp P G (λ d h'=>vcOpsX P r KN KP (e.put o.dst d) h') e h:=by
     cases G<;>first|exact hv|(exact absurd rfl a6)
    refine PS ho (λ c hc=>a2 c hc) hg ?_;intro I r' c w a Q hh hp hr Z;refine Oper.wpIn_mono (λ a' w' hf=>?_) (hs _ e h V I r' c w a Q hh hp hr Z);grind [Fin.mono]
  ·cases hop
theorem Ov {fz:Bool}{ops:Array Oper}:∀(l:List AOper) (i:Nat),(ops.toList.drop i).mapM (rD P fz nt)=some l->∀{KN KP:LEnv->Heap->Prop}{e:LEnv}{h:Heap},vcOpsX P l KN KP e h ->
  Di P nt ops (List.range' i (ops.size-i)) (up KN) (up KP) e.get h:=by
 intro l
 induction l with
 | nil =>
  intro i hm KN KP e h H
  have h0:ops.toList.drop i=[]:=by
   cases hd:ops.toList.drop i with
   | nil=>rfl
   | cons x r =>
    rw[hd,List.mapM_cons]at hm
    cases h1:rD P fz nt x with
    | none=>simp[h1]at hm
    | some y=>cases h2:r.mapM (rD P fz nt)<;>simp[h1,h2]at hm
  have:ops.size-i=0:=by simpa using congrArg List.length h0
  rw[this];exact SD ⟨e,rfl,H⟩
 | cons ao l Q =>
  intro i hm KN KP e h H
  cases hd:ops.toList.drop i with
  | nil=>rw[hd]at hm;simp at hm
  | cons x r =>
   rw[hd,List.mapM_cons]at hm
   cases h1:rD P fz nt x with
   | none=>simp[h1]at hm
   | some y =>
    cases h2:r.mapM (rD P fz nt) with
    | none=>simp[h1,h2]at hm
    | some s =>
     simp[h1,h2]at hm;obtain⟨rfl,rfl⟩:=hm
     have I:i<ops.size:=by
      grind [List.drop_eq_nil_of_le]
     have G:ops.toList.drop i=ops[i]::ops.toList.drop (i+1):=by
      grind [List.drop_eq_getElem_cons]
     rw[G]at hd;simp at hd;obtain⟨rfl,rfl⟩:=hd
     have hr:List.range' i (ops.size-i)=i::List.range' (i+1) (ops.size-(i+1)):=by
      rw[show ops.size-i=(ops.size-(i+1))+1 by omega,List.range'_succ]
     rw[hr];exact MU (by simp[I]) h1 (λ Z h' V=>Q (i+1) h2 V) H
theorem Vz {id:Nat}{ops:Array Oper}(hc:isPanR P nt ops=true){Q:Post}{t:Env}{h:Heap}(hk:Q .pan (LEnv.get []) h):sC P nt (.region id ops false) Q t h:=by
 unfold isPanR at hc;split at hc<;>try (cases hc;done)
 rename_i V I H hl;split at hc<;>try (cases hc;done)
 rename_i t0 ps t' a' b' a b h1 h2 h3 d1 d2;simp only[Bool.and_eq_true,decide_eq_true_eq]at hc;obtain⟨⟨⟨⟨⟨⟨⟨⟨⟨⟨⟨rfl,b4⟩,rfl⟩,rfl⟩,ha⟩,hb⟩,g1⟩,g2⟩,g3⟩,hu⟩,hz⟩,G⟩:=hc;have a1:ops = #[V,I,H]:=by grind
 subst a1;have a2:ps = #[]:=by simpa using b4
 subst a2;split at hu<;>try (cases hu;done)
 rename_i fs a8;have a7:fs = #[]:=by simpa using hu
 subst a7;split at hz<;>try (cases hz;done)
 rename_i cs b3;have b2:cs = #[]:=by simpa using hz
 subst b2;split at G<;>try (cases G;done)
 rename_i t1 c1 a6;simp only[Bool.and_eq_true,decide_eq_true_eq]at G;obtain⟨rfl,b1⟩:=G;have Z:c1 = #[]:=by simpa using b1
 subst Z;intro r c w ac hh hp hr hs _;refine wpIn_region ?_;have c0:V.guard=none:=by simpa using g1
 have b7:I.guard=none:=by simpa using g2
 have b5:H.guard=none:=by simpa using g3
 have e1:∀w,(execOp ac.eval V).run P w=.ok (.value (.agg #[])) w:=by
  intro w;simp[execOp,h1,Instr.build,bX b3,Value.cells,run_underlying a8,Instr.fill,Result.andThen]
 have sz:ac.tmps.size=nt:=hs.size
 have e2:∀w,(execOp (ac.put (some a') (.agg #[])).eval I).run P w=.ok (.value (.iface t1 (.agg #[]))) w:=by
  intro w;have:(ac.put (some a') (.agg #[])).eval (.tmp a')=.agg #[]:=by simp[Act.eval,Act.put,sz,ha]
  simp[execOp,h2,this,Instr.makeInterface,run_underlying a8,Result.andThen]
 have e3:∀w,(execOp ((ac.put (some a') (.agg #[])).put (some b') (.iface t1 (.agg #[]))).eval H).run P w=.halt (.panic (.iface t1 (.agg #[]))) w:=by
  intro w;have:((ac.put (some a') (.agg #[])).put (some b') (.iface t1 (.agg #[]))).eval (.tmp b')=.iface t1 (.agg #[]):=by simp[Act.eval,Act.put,sz,hb]
  simp[execOp,h3,this,Instr.panic,goPanic]
 have rg:List.range (#[V,I,H]:Array Oper).size=[0,1,2]:=rfl;rw[rg];have i0:(#[V,I,H]:Array Oper)[0]?=some V:=rfl;have i1:(#[V,I,H]:Array Oper)[1]?=some I:=rfl;have i2:(#[V,I,H]:Array Oper)[2]?=some H:=rfl;simp only[wpOpsIn,i0,i1,i2];rw[if_pos (by simp[Region.wanted,c0])];refine kF (λ c hc=>by rw[h1]at hc;cases hc) (e1 w) ?_;rw[Oper.uponIn_value,d1,if_pos (by simp[Region.wanted,b7])];refine kF (λ c hc=>by rw[h2]at hc;cases hc) (e2 w) ?_;rw[Oper.uponIn_value,d2,if_pos (by simp[Region.wanted,b5])];refine kF (λ c hc=>by rw[h3]at hc;cases hc) (e3 w) ?_;rw[Oper.uponIn_panic];exact⟨by rw[a6],Fin.here (t:=LEnv.get []) hh hp hr ⟨hs.glob,hs.lo,hs.defers,by simp[Act.put,sz],λ i=>.undef _⟩ hk⟩
end Go.Am
namespace Go.Am
open Go
variable [ca]
variable {P:Program}{nt:Nat}
def cOper (P:Program) (fz:Bool) (nt:Nat) (ops:Array Oper) (o:Oper):Option AOper :=
 if o.dst.all (· < nt) then
  match cOp P fz o with
  | some op=>match o.guard with
   | none=>some ⟨o.dst,op,none⟩
   | some (j,want)=>match (ops[j]?).bind (·.dst) with
    | some s=>some ⟨o.dst,op,some (s,want)⟩
    | none=>none
  | none=>none
 else none
theorem pF {o:Oper}{K K':Env->Heap->Prop}(hk:∀t h,K t h->K' t h){t:Env}{h:Heap}(hx:OK P nt o K t h):OK P nt o K' t h :=
 λ G r c w a Q H hp hr hs=>Oper.wpIn_mono (λ _ _ I=>Fin.mono hk I) (hx G r c w a Q H hp hr hs)
theorem qn {fz:Bool}{o:Oper}{op:AOp}(h:cOp P fz o=some op):∀c,o.op≠.defer c:=by
 grind [cOp,cOp0,MV,Gz]
theorem Ow {fz:Bool}{ops:Array Oper}{i:Nat}{rest:List Nat}{o:Oper}{ao:AOper}(ho:ops[i]?=some o) (hc:cOper P fz nt ops o=some ao){K:LEnv->Heap->Prop}{K2:LEnv->Heap->Prop}{e:LEnv}{h:Heap}
  (hrest:∀e' h',K e' h'->vW P nt ops rest (up K2) e'.get h') (hv:wH P ao K e h):vW P nt ops (i::rest) (up K2) e.get h:=by
 unfold cOper at hc;split at hc
 case isFalse=>cases hc
 rename_i Q
 have hd:∀j,o.dst=some j->j<nt:=by
  grind
 cases hop:cOp P fz o with
 | none=>simp[hop]at hc
 | some op =>
  have hs:=sA (nt:=nt) hop hd
  have main:vcOp P op (λ d h'=>K (e.put o.dst d) h') e h->OK P nt o (vW P nt ops rest (up K2)) e.get h:=by
   intro H;refine pF ?_ (hs _ e h H);grind
  simp only[hop]at hc
  cases hg:o.guard with
  | none =>
   simp[hg]at hc;subst hc;refine oZ ho (qn hop) none (by simp[hg]) (λ _=>rfl) hd ?_;exact main (by grind [gC])
  | some p =>
   obtain⟨j,want⟩:=p;simp only[hg]at hc
   cases I:(ops[j]?).bind (·.dst) with
   | none=>simp[I]at hc
   | some s =>
    simp[I]at hc;subst hc
    refine oZ ho (qn hop) (some (s,want)) (by
     grind) (by simp[hg]) hd ?_
    simp only[gC,vguard]at hv;cases hb:gv (e.get s)<;>simp only[hb]at hv<;>try exact hv.elim
    rename_i b;refine⟨b,hb,λ G=>main (hv.1 G),λ G=>?_⟩;grind [LEnv.bO]
theorem PM {fz:Bool}{ops:Array Oper}:∀(l:List AOper) (i:Nat),(ops.toList.drop i).mapM (cOper P fz nt ops)=some l->∀{K:LEnv->Heap->Prop}{e:LEnv}{h:Heap},zC P l K e h ->
  vW P nt ops (List.range' i (ops.size-i)) (up K) e.get h:=by
 intro l
 induction l with
 | nil =>
  intro i hm K e h H
  have h0:ops.toList.drop i=[]:=by
   cases hd:ops.toList.drop i with
   | nil=>rfl
   | cons x r =>
    rw[hd,List.mapM_cons]at hm
    cases h1:cOper P fz nt ops x with
    | none=>simp[h1]at hm
    | some y=>cases h2:r.mapM (cOper P fz nt ops)<;>simp[h1,h2]at hm
  have:ops.size-i=0:=by simpa using congrArg List.length h0
  rw[this];exact lh ⟨e,rfl,H⟩
 | cons ao l Q =>
  intro i hm K e h H
  cases hd:ops.toList.drop i with
  | nil=>rw[hd]at hm;simp at hm
  | cons x r =>
   rw[hd,List.mapM_cons]at hm
   cases h1:cOper P fz nt ops x with
   | none=>simp[h1]at hm
   | some y =>
    cases h2:r.mapM (cOper P fz nt ops) with
    | none=>simp[h1,h2]at hm
    | some s =>
     simp[h1,h2]at hm;obtain⟨rfl,rfl⟩:=hm
     have I:i<ops.size:=by
      grind [List.drop_eq_nil_of_le]
     have G:ops.toList.drop i=ops[i]::ops.toList.drop (i+1):=by
      grind [List.drop_eq_getElem_cons]
     rw[G]at hd;simp at hd;obtain⟨rfl,rfl⟩:=hd
     have hr:List.range' i (ops.size-i)=i::List.range' (i+1) (ops.size-(i+1)):=by
      rw[show ops.size-i=(ops.size-(i+1))+1 by omega,List.range'_succ]
     rw[hr];refine Ow (by simp[I]) h1 (K:=zC P s K) (λ Z h' V=>Q (i+1) h2 V) H
def cCode (P:Program) (fz:Bool) (nt:Nat) (loops:TLq) (dr:Nat->Array Oper->Option ACode):Code->Option ACode
 | .skip=>some .skip
 | .seq a b=>match cCode P fz nt loops dr a,cCode P fz nt loops dr b with
  | some a',some b'=>match loops (1000001+firstReg b) with
   | some (keep,vars)=>some (.seqj keep vars a' b')
   | none=>some (.seq a' b')
  | _,_=>none
 | .cond c a b=>match cArg c,cCode P fz nt loops dr a,cCode P fz nt loops dr b with
  | some c,some a,some b=>some (.cond c a b)
  | _,_,_=>none
 | .block id a=>(cCode P fz nt loops dr a).map (.block id)
 | .loop a=>match cCode P fz nt loops dr a,loops (firstReg a) with
  | some a,some (keep,vars)=>some (.loop keep vars a)
  | _,_=>none
 | .exit id=>some (.exit id)
 | .ret=>some .ret
 | .label l=>some (.label l)
 | .goto l=>some (.goto l)
 | .scope a=>match cCode P fz nt loops dr a,loops (9000001+firstReg a) with
  | some a',some (keep,vars)=>match a'.label1 with
   | some l=>(a'.after l).map λ b'=>.scope l keep vars a' b'
   | none=>none
  | _,_=>none
 | .region id ops false=>match loops (8000000+id) with
  | none=>(ops.toList.mapM (cOper P fz nt ops)).map .reg
  | some ([],_)=>if isPanR P nt ops then some .panr else none
  | some (_::_,_)=>(ops.toList.mapM (rD P fz nt)).map .regx
 | .region id ops true=>match dr id ops with
  | some p=>if p.label1.isNone then(match loops (6000001+id) with
   | some _=>some (.frz p)
   | none=>some p) else none
  | none=>none
 | .rangeFunc g ps assign body=>match cArg g,cCode P fz nt loops dr assign,cCode P fz nt loops dr body with
  | some g',some a',some b'=>match loops (4000001+firstReg body) with
   | some (keep,exs)=>if ps.toList.Nodup/\(ps.toList.all λ p=>decide (p<nt))=true then some (.range g' ps.toList keep exs a' b') else none
   | none=>none
  | _,_,_=>none
 | _=>none
where firstReg:Code->Nat
 | .region id _ _=>id
 | .seq a b=>if firstReg a=1000000 then firstReg b else firstReg a
 | .cond _ a b=>if firstReg a=1000000 then firstReg b else firstReg a
 | .block _ a=>firstReg a
 | .scope a=>firstReg a
 | .loop a=>firstReg a
 | _=>1000000
def KY (P:Program) (nt:Nat) (dr:Nat->Array Oper->Option ACode):Prop :=
 ∀id ops ac,dr id ops=some ac->∀(Q:LPost) (e:LEnv) (h:Heap),vcC P ac Q e h->sC P nt (.region id ops true) (λ x=>up (Q x)) e.get h
theorem PW {l:Nat}:∀(p:ACode),p.label1.isNone=true->p.after l=none:=by
 intro p
 induction p with
 | seq a b H G|seqj _ _ a b H G =>
  grind [ACode.label1,ACode.after]
 | label x=>grind [ACode.label1]
 | _=>intro _;rfl
theorem L1 {K:LEnv->Heap->Prop}{Q:LPost}{K':Env->Heap->Prop}(hk:∀e h,K e h->K' e.get h):∀x t h,up (LPost.then K Q x) t h->Post.then K' (λ x=>up (Q x)) x t h:=by
 rintro x t h ⟨e,rfl,hx⟩
 cases x with
 | normal=>exact hk e h hx
 | exit id=>exact⟨e,rfl,hx⟩
 | ret=>exact⟨e,rfl,hx⟩
 | pan=>exact⟨e,rfl,hx⟩
 | jump l=>exact⟨e,rfl,hx⟩
theorem uj {x:Code}{Q:Post}{t t':Env}{h:Heap}(ht:∀i,t' i=.undef\/t' i=t i) (hx:sC P nt x Q t' h):sC P nt x Q t h:=by
 intro r c w a G hp hr hs ho;refine hx r c w a G hp hr ⟨hs.glob,hs.lo,hs.defers,hs.size,λ i=>?_⟩ ho;rcases ht i with h|h
 ·rw[h];exact .undef _
 ·rw[h];exact hs.rel i
theorem kV (vars:List Nat) (f:Nat->D) (e:LEnv) (i:Nat) (he:e.get i=.undef\/e.get i=f i):LEnv.get (vars.map (λ v=>(v,f v))++e) i=.undef\/LEnv.get (vars.map (λ v=>(v,f v))++e) i=f i:=by
 induction vars with
 | nil=>exact he
 | cons k r G =>
  grind [LEnv.get]
theorem QB {keep:List Nat}{e e':LEnv}(hkeep:keep.map (LEnv.get e')=keep.map e.get):(keep.map λ k=>(k,e.get k))=keep.map λ k=>(k,e'.get k):=by
 have G:∀k∈keep,e'.get k=e.get k:=by
  intro k G;obtain⟨j,H⟩:=ba G;have:=congrArg (λ l=>l[j]?) hkeep;simpa[H] using this
 grind [List.map_congr_left]
theorem XP {x:Code}{Q:Post}{t:Env}{h:Heap}(ns:List Nat) (hx:sC P nt x Q t (h.freezeAll ns)):sC P nt x Q t h:=by
 intro r c w a H hp hr hs ho;subst H;obtain⟨hle,G⟩:=dP hr ns;refine wpIn_mono (hx r ⟨c.ρ,c.X,c.h.freezeAll ns,c.hp⟩ w a rfl hp G (hs.mono hle) (ho.mono hle)) λ x a' w' I=>?_
 exact FinX.from hle (WS.refl w) _ _ _ I
def CS (P:Program) (nt:Nat) (code:Code) (ac:ACode):Prop:=∀(Q:LPost) (e:LEnv) (h:Heap),vcC P ac Q e h->sC P nt code (λ x=>up (Q x)) e.get h
def CL (P:Program) (nt:Nat) (code:Code) (ac:ACode):Prop:=∀l,(findLabel code l=none/\ac.after l=none)\/∃rest ac',findLabel code l=some rest/\ac.after l=some ac'/\CS P nt rest ac'
theorem mE {fz:Bool}{loops:TLq}{dr:Nat->Array Oper->Option ACode}{code:Code}{ac:ACode}(h1:∀a b,code≠.seq a b) (h2:∀l,code≠.label l) (hc:cCode P fz nt loops dr code=some ac):CL P nt code ac:=by
 intro l;left
 cases code with
 | seq a b=>exact absurd rfl (h1 a b)
 | label l=>exact absurd rfl (h2 l)
 | region id ops draw =>
  refine⟨rfl,?_⟩
  cases draw with
  | false =>
   simp only[cCode]at hc;split at hc
   ·simp only[Option.map_eq_some_iff]at hc;obtain⟨_,_,rfl⟩:=hc;rfl
   ·split at hc
    ·cases hc;rfl
    ·cases hc
   ·simp only[Option.map_eq_some_iff]at hc;obtain⟨_,_,rfl⟩:=hc;rfl
  | true =>
   simp only[cCode]at hc;split at hc
   ·split at hc
    ·rename_i hn;split at hc
     ·cases hc;rfl
     grind [PW]
    ·cases hc
   ·cases hc
 | skip=>simp only[cCode,Option.some.injEq]at hc;subst hc;exact⟨rfl,rfl⟩
 | exit id=>simp only[cCode,Option.some.injEq]at hc;subst hc;exact⟨rfl,rfl⟩
 | goto id=>simp only[cCode,Option.some.injEq]at hc;subst hc;exact⟨rfl,rfl⟩
 | ret=>simp only[cCode,Option.some.injEq]at hc;subst hc;exact⟨rfl,rfl⟩
 | refuse w=>simp[cCode]at hc
 | cond c a b =>
  simp only[cCode]at hc;split at hc
  ·simp only[Option.some.injEq]at hc;subst hc;exact⟨rfl,rfl⟩
  ·cases hc
 | block id a=>simp only[cCode,Option.map_eq_some_iff]at hc;obtain⟨_,_,rfl⟩:=hc;exact⟨rfl,rfl⟩
 | loop a =>
  simp only[cCode]at hc;split at hc
  ·simp only[Option.some.injEq]at hc;subst hc;exact⟨rfl,rfl⟩
  ·cases hc
 | scope a =>
  simp only[cCode]at hc;split at hc
  ·split at hc
   ·simp only[Option.map_eq_some_iff]at hc;obtain⟨_,_,rfl⟩:=hc;exact⟨rfl,rfl⟩
   ·cases hc
  ·cases hc
 | rangeFunc g ps a b =>
  simp only[cCode]at hc;split at hc
  ·split at hc
   ·split at hc
    ·simp only[Option.some.injEq]at hc;subst hc;exact⟨rfl,rfl⟩
    ·cases hc
   ·cases hc
  ·cases hc
theorem I7 {a b:Code}{a' b':ACode}{keep vars:List Nat}(ha:CS P nt a a') (hb:CS P nt b b'):CS P nt (.seq a b) (.seqj keep vars a' b'):=by
 intro Q e h I;obtain⟨J,h1,h2⟩:=I;refine Ra (sB ?_ (ha _ e h h2));refine L1 ?_;rintro H h' ⟨G,hJ⟩;have V:(keep.map λ k=>(k,e.get k))=keep.map λ k=>(k,H.get k):=QB G
 refine uj (λ i=>kV vars H.get _ i ?_) (hb Q _ h' (h1 H.get h' hJ));rw[V];exact get_map keep H.get i
theorem K5 {a b:Code}{a' b':ACode}(ha:CS P nt a a') (hb:CS P nt b b'):CS P nt (.seq a b) (.seq a' b'):=by
 intro Q e h G;refine Ra (sB ?_ (ha _ e h G));exact L1 (λ e h hx=>hb Q e h hx)
theorem MW {fz:Bool}{loops:TLq}{dr:Nat->Array Oper->Option ACode}(hdr:KY P nt dr):∀(code:Code) (ac:ACode),cCode P fz nt loops dr code=some ac ->
  CS P nt code ac/\CL P nt code ac:=by
 intro code
 induction code with
 | skip=>intro ac hc;refine⟨?_,mE (by simp) (by simp) hc⟩;intro Q e h H;simp[cCode]at hc;subst hc;exact OF ⟨e,rfl,H⟩
 | exit id=>intro ac hc;refine⟨?_,mE (by simp) (by simp) hc⟩;intro Q e h H;simp[cCode]at hc;subst hc;exact VC ⟨e,rfl,H⟩
 | ret=>intro ac hc;refine⟨?_,mE (by simp) (by simp) hc⟩;intro Q e h H;simp[cCode]at hc;subst hc;exact XO ⟨e,rfl,H⟩
 | seq a b Z a7 =>
  intro ac hc;simp only[cCode]at hc;split at hc
  ·rename_i a' b' ha hb;obtain⟨a1,a2⟩:=Z a' ha;obtain⟨b1,b2⟩:=a7 b' hb;split at hc
   ·rename_i keep vars _;simp at hc;subst hc;refine⟨I7 a1 b1,λ l=>?_⟩;rcases a2 l with⟨p,q⟩|⟨rest,b3,p,q,r⟩
    ·rcases b2 l with⟨p',q'⟩|⟨rest,b3,p',q',r'⟩
     ·grind [findLabel,ACode.after]
     grind [findLabel,ACode.after]
    grind [findLabel,ACode.after,I7]
   ·simp at hc;subst hc;refine⟨K5 a1 b1,λ l=>?_⟩;rcases a2 l with⟨p,q⟩|⟨rest,b3,p,q,r⟩
    ·rcases b2 l with⟨p',q'⟩|⟨rest,b3,p',q',r'⟩
     ·grind [findLabel,ACode.after]
     grind [findLabel,ACode.after]
    grind [findLabel,ACode.after,K5]
  ·cases hc
 | label l =>
  intro ac hc;simp[cCode]at hc;subst hc;refine⟨λ Q e h H=>SB ⟨e,rfl,H⟩,λ l'=>?_⟩;by_cases hl:(l == l')=true
  ·exact Or.inr ⟨.skip,.skip,by grind [findLabel],by grind [ACode.after],λ Q e h H=>OF ⟨e,rfl,H⟩⟩
  grind [findLabel,ACode.after]
 | goto l=>intro ac hc;refine⟨?_,mE (by simp) (by simp) hc⟩;intro Q e h H;simp[cCode]at hc;subst hc;exact VB ⟨e,rfl,H⟩
 | scope a Z =>
  intro ac hc;refine⟨?_,mE (by simp) (by simp) hc⟩;intro Q e h H;simp only[cCode]at hc;split at hc
  ·rename_i a' keep vars ha _;split at hc
   ·rename_i l _;simp only[Option.map_eq_some_iff]at hc;obtain⟨b',b5,rfl⟩:=hc;obtain⟨a1,a2⟩:=Z a' ha;rcases a2 l with⟨_,q⟩|⟨rest,b3,p,q,r⟩
    ·rw[q]at b5;cases b5
    rw[b5]at q;cases q;obtain⟨I,a8,a6⟩:=H
    let E:(Nat->D)->LEnv:=λ f=>vars.map (λ v=>(v,f v))++keep.map (λ k=>(k,e.get k))
    have back:∀(G:LEnv),keep.map (LEnv.get G)=keep.map e.get->∀i,(E G.get).get i=.undef\/(E G.get).get i=G.get i:=by
     intro G V i;refine kV vars G.get _ i ?_;rw[QB V];exact get_map keep G.get i
    refine Sz p (λ n t h=>∃f:Nat->D,I n (vars.map f) h/\∀i,(E f).get i=.undef\/(E f).get i=t i) ?_ ?_
    ·refine sB ?_ (a1 _ e h a8);rintro x t h' ⟨G,rfl,hx⟩
     cases x with
     | jump l' =>
      obtain⟨rfl,V,m,hI⟩:=hx;exact⟨rfl,m,G.get,hI,back G V⟩
     | normal=>exact⟨G,rfl,hx⟩
     | ret=>exact⟨G,rfl,hx⟩
     | pan=>exact⟨G,rfl,hx⟩
     | exit id=>exact⟨G,rfl,hx⟩
    ·rintro n t h' ⟨f,hI,hE⟩;refine uj hE (sB ?_ (r _ (E f) h' (a6 n f h' hI)));rintro x t h' ⟨G,rfl,hx⟩
     cases x with
     | jump l' =>
      obtain⟨rfl,V,m,hm,hI⟩:=hx;exact⟨rfl,m,hm,G.get,hI,back G V⟩
     | normal=>exact⟨G,rfl,hx⟩
     | ret=>exact⟨G,rfl,hx⟩
     | pan=>exact⟨G,rfl,hx⟩
     | exit id=>exact⟨G,rfl,hx⟩
   ·cases hc
  ·cases hc
 | cond c a b Z a7 =>
  intro ac hc;refine⟨?_,mE (by simp) (by simp) hc⟩;intro Q e h H;simp only[cCode]at hc;split at hc
  ·rename_i c' a' b' c1 ha hb;simp at hc;subst hc;simp only[vcC]at H;cases ht:c'.get e<;>simp only[ht]at H<;>try exact H.elim
   rename_i t;refine VD (b:=t) (λ c a _ hs=>?_) ?_
   ·have:=aJ c1 hs;grind [wS]
   ·cases t
    ·exact(a7 b' hb).1 Q e h (H.2 rfl)
    ·exact(Z a' ha).1 Q e h (H.1 rfl)
  ·cases hc
 | block id a Z =>
  intro ac hc;refine⟨?_,mE (by simp) (by simp) hc⟩;intro Q e h H;simp only[cCode]at hc
  cases ha:cCode P fz nt loops dr a with
  | none=>simp[ha]at hc
  | some a' =>
   simp[ha]at hc;subst hc;refine SC (sB ?_ ((Z a' ha).1 _ e h H));rintro x t h ⟨G,rfl,hx⟩
   cases x with
   | normal=>exact⟨G,rfl,hx⟩
   | ret=>exact⟨G,rfl,hx⟩
   | pan=>exact⟨G,rfl,hx⟩
   | jump l=>exact⟨G,rfl,hx⟩
   | exit c3 =>
    simp only[LPost.block]at hx;simp only[Post.block];split
    ·rename_i b4;rw[if_pos b4]at hx;exact⟨G,rfl,hx⟩
    ·rename_i b4;rw[if_neg b4]at hx;exact⟨G,rfl,hx⟩
 | loop a Z =>
  intro ac hc;refine⟨?_,mE (by simp) (by simp) hc⟩;intro Q e h H;simp only[cCode]at hc;split at hc
  ·rename_i a' keep vars ha _;simp at hc;subst hc;obtain⟨I,n₀,h0,a6⟩:=H
   let E:(Nat->D)->LEnv:=λ f=>vars.map (λ v=>(v,f v))++keep.map (λ k=>(k,e.get k))
   refine VA (λ n t h=>∃f:Nat->D,I n (vars.map f) h/\∀i,(E f).get i=.undef\/(E f).get i=t i) n₀ ⟨e.get,h0,λ i=>kV vars e.get _ i (get_map keep e.get i)⟩ ?_;rintro n t h' ⟨f,hI,hE⟩;refine uj hE (sB ?_ ((Z a' ha).1 _ (E f) h' (a6 n f h' hI)));refine L1 ?_;rintro G c4 ⟨V,m,hm,c2⟩;refine⟨m,hm,G.get,c2,λ i=>kV vars G.get _ i ?_⟩
   have:(keep.map λ k=>(k,e.get k))=keep.map λ k=>(k,G.get k):=by
    have hk:∀k∈keep,G.get k=e.get k:=by
     intro k hk;obtain⟨j,hj⟩:=ba hk;have:=congrArg (λ l=>l[j]?) V;simpa[hj] using this
    grind [List.map_congr_left]
   rw[this];exact get_map keep G.get i
  ·cases hc
 | region id ops draw =>
  intro ac hc;refine⟨?_,mE (by simp) (by simp) hc⟩;intro Q e h H
  cases draw with
  | false =>
   simp only[cCode]at hc;split at hc
   ·cases hl:ops.toList.mapM (cOper P fz nt ops) with
    | none=>simp[hl]at hc
    | some l =>
     simp[hl]at hc;subst hc;refine PQ ?_;have:=PM l 0 (by simpa using hl) H;grind [List.range_eq_range']
   ·split at hc
    ·rename_i hp;cases hc;exact Vz hp ⟨[],rfl,H []⟩
    ·cases hc
   ·cases hl:ops.toList.mapM (rD P fz nt) with
    | none=>simp[hl]at hc
    | some l =>
     simp[hl]at hc;subst hc;refine OG ?_;have:=Ov l 0 (by simpa using hl) H;grind [List.range_eq_range']
  | true =>
   simp only[cCode]at hc
   cases hl:dr id ops with
   | none=>simp[hl]at hc
   | some p =>
    simp only[hl]at hc;split at hc
    case isFalse=>cases hc
    cases b7:loops (6000001+id) with
    | none =>
     rw[b7]at hc;simp only[Option.some.injEq]at hc;subst hc;exact hdr id ops p hl Q e h H
    | some _ =>
     rw[b7]at hc;simp only[Option.some.injEq]at hc;subst hc;obtain⟨ns,H⟩:=H;exact XP ns (hdr id ops p hl Q e _ H)
 | rangeFunc g ps assign body Z a7 =>
  intro ac hc;refine⟨?_,mE (by simp) (by simp) hc⟩;intro Q e h H;simp only[cCode]at hc;split at hc
  ·rename_i g' a' b' hg ha hb;split at hc
   ·split at hc
    ·rename_i c0;simp at hc;subst hc;refine SA hg c0.1 (λ p hp=>by grind) (Z a' ha).1 (a7 b' hb).1 H
    ·cases hc
   ·cases hc
  ·cases hc
 | _=>grind [cCode]
theorem Ox {fz:Bool}{loops:TLq}{dr:Nat->Array Oper->Option ACode}(hdr:KY P nt dr) (code:Code) (ac:ACode) (hc:cCode P fz nt loops dr code=some ac) :
  ∀(Q:LPost) (e:LEnv) (h:Heap),vcC P ac Q e h->sC P nt code (λ x=>up (Q x)) e.get h:=(MW hdr code ac hc).1
end Go.Am
