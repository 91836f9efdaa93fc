/- The abstract machine: what the operations of the program do, on plain data. No condition. -/
import Derived.Calls
import Derived.Orders
import Derived.Laws.AppendOwn
import Derived.RowKit3
import Derived.OrdersIn
import Derived.RangeFuncRecord
import Derived.MapKept
import Derived.Laws.Cells
import Derived.Laws.Entries
import Derived.Laws.Tables
import Derived.Laws.StructEq
import Derived.Laws.CopyRow
import Derived.Laws.BytesString
import Derived.WideKeyRuns
import Derived.RangeFuncNested
set_option linter.unnecessarySimpa false
set_option linter.defProp false
set_option linter.unusedSectionVars false
set_option linter.unusedSimpArgs false
set_option linter.unusedVariables false
namespace Go.Am
open Go
def ak:=@List.mem_of_getElem?
def ah:=@List.getElem?_eq_some_iff
def aC:=@List.getElem?_eq_getElem
def aA:=@Int.toNat_natCast
def aO:=@List.getElem?_of_mem
def aq:=@List.cons.injEq
def aw:=@List.length_map
def aE:=@Bool.false_eq_true
inductive D where
 | undef
 | nil
 | nilfn
 | nilmap
 | int (k:IntKind) (n:Int)
 | bool (b:Bool)
 | str (s:ByteArray)
 | sl (xs:List D)
 | ms (n off len:Nat)
 | ptr (n i j:Nat)
 | vp (e:D) (j:Nat)
 | agg (cs:List D)
 | tup (ds:List D)
 | fn (f:FuncId) (a b:List D)
 | yld (n:Nat)
 | mp (n:Nat)
 | nilp
inductive Ex where
 | normal
 | exit (id:Nat)
 | ret
 | pan
 | jump (l:Nat)
structure cV where
 fn:FuncId
 nt:Nat
 env:Nat->D
 ps:List Nat
 assign:Code
 body:Code
inductive LSt where
 | ready
 | busy
 | done (x:Ex)
 | over (p:Option Code)
def LSt.st:LSt->LoopState
 | .ready=>.ready
 | .busy=>.busy
 | .done _=>.done
 | .over _=>.exhausted
def LSt.pend:LSt->Option Code
 | .done (.exit id)=>some (.exit id)
 | .done .ret=>some .ret
 | .over p=>p
 | _=>none
def D.cells:D->List D
 | .agg cs=>cs
 | d=>[d]
def D.one:D->Bool
 | .agg _=>false
 | .tup _=>false
 | .undef=>false
 | _=>true
def D.vone:D->Bool
 | .nil=>true
 | .nilfn=>true
 | .nilmap=>true
 | .nilp=>true
 | .int _ _=>true
 | .bool _=>true
 | .str _=>true
 | .sl _=>true
 | _=>false
theorem D.jj {d:D}(h:d.vone=true):d.one=true:=by cases d<;>simp_all [D.vone,D.one]
inductive KeyT where
 | int (k:IntKind)
 | pair (k:IntKind)
deriving DecidableEq
def KeyT.okB:KeyT->D->Bool
 | .int k,.int k' _=>decide (k=k')
 | .pair k,.agg [.int k1 _,.int k2 _]=>decide (k=k1)&&decide (k=k2)
 | _,_=>false
inductive Slot where
 | free
 | dead
 | box (v:D)
 | arr (esz:Nat) (els:List D)
 | frz (esz:Nat) (els:List D)
 | lp (st:LSt) (B:cV)
 | map (kt:KeyT) (ents:List (D×D))
def Slot.mine:Slot->Prop
 | .box _=>True
 | .arr _ _=>True
 | .lp _ _=>True
 | .map _ _=>True
 | _=>False
def Slot.used:Slot->Bool
 | .free=>false
 | _=>true
theorem Slot.Jv {s:Slot}(h:s≠.free):s.used=true:=by cases s<;>first|rfl|exact absurd rfl h
theorem Slot.Pa {s:Slot}(h:s.used=true):s≠.free:=by rintro rfl;cases h
def Slot.row:Slot->Option (Nat×List D)
 | .arr e l=>some (e,l)
 | .frz e l=>some (e,l)
 | _=>none
abbrev Heap:=Nat → Slot
abbrev HKq:=D → Heap → Prop
abbrev HJq:=List D → Heap → Prop
abbrev TTq:=Nat → Option (List Nat×List Nat×List Nat)
abbrev TLq:=Nat → Option (List Nat×List Nat)
abbrev LSq:=List (Nat×Slot)
def aD {α:Type}(f:Nat->α) (n:Nat) (x:α):Nat->α:=fun m=>if m=n then x else f m
theorem ar {α:Type}(f:Nat->α) (n:Nat) (x:α):aD f n x n=x:=by simp[aD]
theorem an {α:Type}(f:Nat->α){n m:Nat}(x:α) (h:m≠n):aD f n x m=f m:=by simp[aD,h]
structure XT where
 p:Nat->Prop
 lo:Nat
 dfs:List Deferred
instance:CoeFun XT (fun _=>Nat->Prop):=⟨XT.p⟩
structure Ctx where
 ρ:Nat->Option Nat
 X:XT
 h:Heap
 hp:Array Obj
def cellOf (hp:Array Obj) (b o:Nat):Option Value :=
 match hp[b]? with
 | some (.cells c _ _)=>c[o]?
 | _=>none
theorem pC (w:World) (b o:Nat):w.cell? ⟨b,o,none⟩=cellOf w.heap b o:=by
 unfold World.cell? cellOf
 cases w.heap[b]? with
 | none=>rfl
 | some x=>cases x<;>rfl
def Ctx.own (c:Ctx) (g:Nat):Prop:=c.X g\/∃n,(c.h n).mine/\c.ρ n=some g
def aM (xs:List D) (i j:Nat):Option D:=(xs[i]?).bind (fun e=>e.cells[j]?)
inductive aB (c:Ctx):D->Value->Prop where
 | undef (v:Value):aB c .undef v
 | nil:aB c .nil (.slice none 0 0)
 | nilfn:aB c .nilfn .nilFunc
 | nilmap:aB c .nilmap (.map none)
 | nilp:aB c .nilp (.pointer none)
 | int (k:IntKind) (n:Int):aB c (.int k n) (.int k n)
 | bool (b:Bool):aB c (.bool b) (.bool b)
 | str (s:ByteArray):aB c (.str s) (.string s)
 | lD (p:Option Addr) (cap:Nat) (hm:cap<=maxLen):aB c (.sl []) (.slice p 0 cap)
 | sl (xs:List D) (b o cap esz:Nat) (f:Nat->Nat->Value) (hne:xs≠[]) (hc:xs.length<=cap) (hm:cap<=maxLen) (he:0<esz)
   (hlen:∀e∈xs,e.cells.length=esz) (hone:∀i j (d:D),aM xs i j=some d->d.vone=true)
   (hcell:∀i j d,aM xs i j=some d->cellOf c.hp b (o+(i*esz+j))=some (f i j)) (hown:¬c.own b)
   (hrel:∀i j d,aM xs i j=some d->aB c d (f i j)):aB c (.sl xs) (.slice (some ⟨b,o,none⟩) xs.length cap)
 | msDead (n off len:Nat) (p:Option Addr) (l k:Nat) (h:c.h n=.dead):aB c (.ms n off len) (.slice p l k)
 | msNil (n esz:Nat) (els:List D) (h:(c.h n).row=some (esz,els)) (hρ:c.ρ n=none):aB c (.ms n 0 0) (.slice none 0 0)
 | ms (n off len g esz cap:Nat) (els:List D) (cur:Array Value) (ty:TypeId) (fr:Nat×Nat) (h:(c.h n).row=some (esz,els)) (hρ:c.ρ n=some g)
   (hl:off+len<=els.length) (hg:c.hp[g]?=some (Obj.cells cur ty fr)) (hs:(off+cap)*esz<=cur.size) (hc:len<=cap) (hm:cap<=maxLen) :
   aB c (.ms n off len) (.slice (some ⟨g,off*esz,none⟩) len cap)
 | msE (n off esz:Nat) (p:Option Addr) (els:List D) (h:(c.h n).row=some (esz,els)):aB c (.ms n off 0) (.slice p 0 0)
 | ptrDead (n i j b o:Nat) (h:c.h n=.dead):aB c (.ptr n i j) (.pointer (some ⟨b,o,none⟩))
 | ptrBox (n j g:Nat) (v:D) (h:c.h n=.box v) (hρ:c.ρ n=some g):aB c (.ptr n 0 j) (.pointer (some ⟨g,j,none⟩))
 | ptrRow (n i j g esz:Nat) (els:List D) (h:(c.h n).row=some (esz,els)) (hρ:c.ρ n=some g) (hi:i<els.length) :
   aB c (.ptr n i j) (.pointer (some ⟨g,i*esz+j,none⟩))
 | vp (e:D) (j b o:Nat) (f:Nat->Value) (hone:∀(k:Nat) (d:D),e.cells[k]?=some d->d.one=true)
   (hcell:∀(k:Nat) (d:D),e.cells[k]?=some d->cellOf c.hp b (o+k)=some (f k)) (hown:¬c.own b) (hb:b<c.hp.size)
   (hrel:∀(k:Nat) (d:D),e.cells[k]?=some d->aB c d (f k)):aB c (.vp e j) (.pointer (some ⟨b,o+j,none⟩))
 | agg (cs:List D) (vs:Array Value) (hsz:vs.size=cs.length) (hone:∀(i:Nat) (d:D),cs[i]?=some d->d.one=true)
   (hrel:∀(i:Nat) (d:D),cs[i]?=some d->aB c d (vs.getD i Go.undef)):aB c (.agg cs) (.agg vs)
 | tup (ds:List D) (vs:Array Value) (hsz:vs.size=ds.length)
   (hrel:∀(i:Nat) (d:D),ds[i]?=some d->aB c d (vs.getD i Go.undef)):aB c (.tup ds) (.tuple vs)
 | fn (f:FuncId) (a b:List D) (va vb:Array Value) (hsa:va.size=a.length) (hsb:vb.size=b.length)
   (hra:∀(i:Nat) (d:D),a[i]?=some d->aB c d (va.getD i Go.undef)) (hrb:∀(i:Nat) (d:D),b[i]?=some d->aB c d (vb.getD i Go.undef)) :
   aB c (.fn f a b) (.func (.func f) va vb)
 | yld (n g:Nat) (st:LSt) (B:cV) (h:c.h n=.lp st B) (hρ:c.ρ n=some g):aB c (.yld n) (.func (.yield g) #[] #[])
 | yldDead (n g:Nat) (h:c.h n=.dead):aB c (.yld n) (.func (.yield g) #[] #[])
 | mp (n g:Nat) (kt:KeyT) (ents:List (D×D)) (h:c.h n=.map kt ents) (hρ:c.ρ n=some g):aB c (.mp n) (.map (some g))
 | mpDead (n:Nat) (p:Option Nat) (h:c.h n=.dead):aB c (.mp n) (.map p)
inductive Trans:Slot->Slot->Prop where
 | free (s:Slot):Trans .free s
 | dead:Trans .dead .dead
 | boxBox (v v':D):Trans (.box v) (.box v')
 | boxDead (v:D):Trans (.box v) .dead
 | arrArr (e:Nat) (l l':List D) (h:l.length<=l'.length):Trans (.arr e l) (.arr e l')
 | arrFrz (e:Nat) (l l':List D) (h:l.length<=l'.length):Trans (.arr e l) (.frz e l')
 | arrDead (e:Nat) (l:List D):Trans (.arr e l) .dead
 | frzFrz (e:Nat) (l l':List D) (h:l.length<=l'.length):Trans (.frz e l) (.frz e l')
 | frzDead (e:Nat) (l:List D):Trans (.frz e l) .dead
 | lpLp (st st':LSt) (B:cV):Trans (.lp st B) (.lp st' B)
 | lpDead (st:LSt) (B:cV):Trans (.lp st B) .dead
 | mapMap (kt:KeyT) (l l':List (D×D)):Trans (.map kt l) (.map kt l')
 | mapDead (kt:KeyT) (l:List (D×D)):Trans (.map kt l) .dead
theorem Trans.refl (s:Slot):Trans s s:=by
 cases s<;>constructor<;>exact Nat.le_refl _
theorem Trans.trans {a b c:Slot}(h:Trans a b) (k:Trans b c):Trans a c:=by
 cases h<;>cases k<;>constructor<;>omega
structure Ctx.le (c c':Ctx):Prop where
 size:c.hp.size<=c'.hp.size
 X:c'.X=c.X
 keep:∀g,g<c.hp.size->(∀n,(c.h n).mine->c.ρ n≠some g)->c'.hp[g]?=c.hp[g]?
 shape:∀(g:Nat) (cur:Array Value) (ty:TypeId) (fr:Nat×Nat),c.hp[g]?=some (Obj.cells cur ty fr)->∃cur':Array Value,c'.hp[g]?=some (Obj.cells cur' ty fr)/\cur'.size=cur.size
 loop:∀(g:Nat) (r:Loop),c.hp[g]?=some (.loop r)->∃r':Loop,c'.hp[g]?=some (.loop r')/\r'.defers=r.defers
 names:∀n,c.h n≠.free->c'.ρ n=c.ρ n
 tr:∀n,Trans (c.h n) (c'.h n)
 born:∀n g,(c'.h n).mine->c'.ρ n=some g->g<c.hp.size->∃m,(c.h m).mine/\c.ρ m=some g
theorem Ctx.le.refl (c:Ctx):c.le c :=
 ⟨Nat.le_refl _,rfl,fun _ _ _=>rfl,fun _ cur _ _ h=>⟨cur,h,rfl⟩,fun _ r h=>⟨r,h,rfl⟩,fun _ _=>rfl,fun _=>Trans.refl _,fun n _ hm hr _=>⟨n,hm,hr⟩⟩
theorem Ctx.le.own {c c':Ctx}(h:c.le c') (g:Nat) (hg:g<c.hp.size) (ho:c'.own g):c.own g:=by
 rcases ho with hx|⟨n,hm,hr⟩
 ·exact Or.inl (h.X ▸ hx)
 ·exact Or.inr (h.born n g hm hr hg)
theorem Ctx.le.trans {a b c:Ctx}(h:a.le b) (k:b.le c):a.le c where
 size:=Nat.le_trans h.size k.size
 X:=k.X.trans h.X
 keep g hg hn:=by
  rw[k.keep g (Nat.lt_of_lt_of_le hg h.size) (fun n hm hr=>by
   obtain⟨m,hm',hr'⟩:=h.born n g hm hr hg
   exact hn m hm' hr'),h.keep g hg hn]
 shape g cur ty fr hg:=by
  obtain⟨c1,h1,e1⟩:=h.shape g cur ty fr hg
  obtain⟨c2,h2,e2⟩:=k.shape g c1 ty fr h1
  exact⟨c2,h2,e2.trans e1⟩
 loop g r hg:=by
  obtain⟨r1,h1,e1⟩:=h.loop g r hg
  obtain⟨r2,h2,e2⟩:=k.loop g r1 h1
  exact⟨r2,h2,e2.trans e1⟩
 names n hn:=by
  have ht:=h.tr n
  have hb:b.h n≠.free:=by
   intro hf
   rw[hf]at ht
   cases hx:a.h n<;>rw[hx]at ht hn<;>first|exact hn rfl|cases ht
  rw[k.names n hb,h.names n hn]
 tr n:=(h.tr n).trans (k.tr n)
 born n g hm hr hg:=by
  obtain⟨m,hm',hr'⟩:=k.born n g hm hr (Nat.lt_of_lt_of_le hg h.size)
  exact h.born m g hm' hr' hg
theorem Au {hp:Array Obj}{b o:Nat}{v:Value}(h:cellOf hp b o=some v):b<hp.size:=by
 unfold cellOf at h
 rcases Nat.lt_or_ge b hp.size with hb|hb
 ·exact hb
 ·simp[Array.getElem?_eq_none hb]at h
theorem th {hp hp':Array Obj}{b:Nat}(h:hp'[b]?=hp[b]?) (o:Nat):cellOf hp' b o=cellOf hp b o:=by
 simp[cellOf,h]
theorem Ctx.le.same {c c':Ctx}(h:c.le c'){g:Nat}(hg:g<c.hp.size) (hn:¬c.own g):c'.hp[g]?=c.hp[g]? :=
 h.keep g hg (fun n hm hr=>hn (Or.inr ⟨n,hm,hr⟩))
theorem Ctx.le.Dh {c c':Ctx}(h:c.le c'){g:Nat}(hg:g<c.hp.size) (hn:¬c.own g):¬c'.own g :=
 fun h'=>hn (h.own g hg h')
theorem Slot.mh {a b:Slot}(h:Trans a b){e:Nat}{l:List D}(hr:a.row=some (e,l)) :
  b=.dead\/∃l',b.row=some (e,l')/\l.length<=l'.length:=by
 cases h<;>simp[Slot.row]at hr ⊢
 all_goals first
  | (obtain⟨rfl,rfl⟩:=hr;exact⟨_,⟨rfl,rfl⟩,by assumption⟩)
theorem Slot.fx {a:Slot}{x:Nat×List D}(h:a.row=some x):a≠.free:=by
 rintro rfl;simp[Slot.row]at h
theorem aB.mono {c c':Ctx}(h:c.le c'){d:D}{v:Value}(hr:aB c d v):aB c' d v:=by
 induction hr with
 | undef v=>exact .undef v
 | nil=>exact .nil
 | nilfn=>exact .nilfn
 | nilmap=>exact .nilmap
 | nilp=>exact .nilp
 | int k n=>exact .int k n
 | bool b=>exact .bool b
 | str s=>exact .str s
 | lD p cap hm=>exact .lD p cap hm
 | sl xs b o cap esz f hne hc hm he hlen hone hcell hown _ ih =>
  have hb:b<c.hp.size:=by
   cases xs with
   | nil=>exact absurd rfl hne
   | cons e r =>
    have hl:=hlen e (by simp)
    cases hcs:e.cells with
    | nil=>rw[hcs]at hl;simp at hl;omega
    | cons d ds=>exact Au (hcell 0 0 d (by simp[aM,hcs]))
  have hsame:=h.same hb hown
  exact .sl xs b o cap esz f hne hc hm he hlen hone (fun i j d hd=>by rw[th hsame];exact hcell i j d hd) (h.Dh hb hown) ih
 | msDead n off len p l k hd =>
  refine .msDead n off len p l k ?_
  have:=h.tr n
  rw[hd]at this
  cases hx:c'.h n<;>rw[hx]at this<;>first|rfl|cases this
 | msNil n esz els hrow hρ =>
  have hρ':=(h.names n (Slot.fx hrow)).trans hρ
  rcases Slot.mh (h.tr n) hrow with hd|⟨l',hl',_⟩
  ·exact .msDead _ _ _ _ _ _ hd
  ·exact .msNil n esz l' hl' hρ'
 | ms n off len g esz cap els cur ty fr hrow hρ hl hg hs hc hm =>
  have hρ':=(h.names n (Slot.fx hrow)).trans hρ
  obtain⟨cur',hg',hsz⟩:=h.shape g cur ty fr hg
  rcases Slot.mh (h.tr n) hrow with hd|⟨l',hl',hlen⟩
  ·exact .msDead _ _ _ _ _ _ hd
  ·exact .ms n off len g esz cap l' cur' ty fr hl' hρ' (by omega) hg' (by omega) hc hm
 | msE n off esz p els hrow =>
  rcases Slot.mh (h.tr n) hrow with hd|⟨l',hl',_⟩
  ·exact .msDead _ _ _ _ _ _ hd
  ·exact .msE n off esz p l' hl'
 | ptrDead n i j b o hd =>
  refine .ptrDead n i j b o ?_
  have:=h.tr n
  rw[hd]at this
  cases hx:c'.h n<;>rw[hx]at this<;>first|rfl|cases this
 | ptrBox n j g v hb hρ =>
  have hρ':=(h.names n (by rw[hb];simp)).trans hρ
  have ht:=h.tr n
  rw[hb]at ht
  cases hx:c'.h n with
  | box v'=>exact .ptrBox n j g v' hx hρ'
  | dead=>exact .ptrDead _ _ _ _ _ hx
  | _=>rw[hx]at ht;cases ht
 | ptrRow n i j g esz els hrow hρ hi =>
  have hρ':=(h.names n (Slot.fx hrow)).trans hρ
  rcases Slot.mh (h.tr n) hrow with hd|⟨l',hl',hlen⟩
  ·exact .ptrDead _ _ _ _ _ hd
  ·exact .ptrRow n i j g esz l' hl' hρ' (by omega)
 | vp e j b o f hone hcell hown hb _ ih =>
  have hsame:=h.same hb hown
  exact .vp e j b o f hone (fun k d hd=>by rw[th hsame];exact hcell k d hd) (h.Dh hb hown) (Nat.lt_of_lt_of_le hb h.size) ih
 | agg cs vs hsz hone _ ih=>exact .agg cs vs hsz hone ih
 | tup ds vs hsz _ ih=>exact .tup ds vs hsz ih
 | fn f a b va vb hsa hsb _ _ iha ihb=>exact .fn f a b va vb hsa hsb iha ihb
 | yld n g st B hl hρ =>
  have hρ':=(h.names n (by rw[hl];simp)).trans hρ
  have ht:=h.tr n
  rw[hl]at ht
  cases hx:c'.h n with
  | lp st' B'=>exact .yld n g st' B' hx hρ'
  | dead=>exact .yldDead _ _ hx
  | _=>rw[hx]at ht;cases ht
 | yldDead n g hd =>
  refine .yldDead n g ?_
  have:=h.tr n
  rw[hd]at this
  cases hx:c'.h n<;>rw[hx]at this<;>first|rfl|cases this
 | mp n g kt ents hl hρ =>
  have hρ':=(h.names n (by rw[hl];simp)).trans hρ
  have ht:=h.tr n
  rw[hl]at ht
  cases hx:c'.h n with
  | map kt' l'=>exact .mp n g kt' l' hx hρ'
  | dead=>exact .mpDead _ _ hx
  | _=>rw[hx]at ht;cases ht
 | mpDead n p hd =>
  refine .mpDead n p ?_
  have:=h.tr n
  rw[hd]at this
  cases hx:c'.h n<;>rw[hx]at this<;>first|rfl|cases this
class bW where
 tab:Nat->Option (Array Value)
 panv:Value
variable [bW]
structure SP (c:Ctx) (g:Nat) (vs:Array Value):Prop where
 cell:∀(k:Nat) (v:Value),vs[k]?=some v->cellOf c.hp g k=some v
 own:¬c.own g
 lt:g<c.hp.size
def iP (c:Ctx):Prop:=∀g vs,bW.tab g=some vs->SP c g vs
theorem iP.mono {c c':Ctx}(h:c.le c') (k:iP c):iP c':=fun g o hg=>by
 obtain⟨h1,h2,h3⟩:=k g o hg
 exact⟨fun i v hi=>(th (h.same h3 h2) i).trans (h1 i v hi),h.Dh h3 h2,Nat.lt_of_lt_of_le h3 h.size⟩
def lA (els:List D):Prop:=∀i j (d:D),aM els i j=some d->d.one=true
def cM (c:Ctx) (n:Nat):Slot->Prop
 | .free=>True
 | .dead=>True
 | .box v=>∃(g:Nat) (cur:Array Value) (ty:TypeId),c.ρ n=some g/\c.hp[g]?=some (.cells cur ty (0,0))/\cur.size=v.cells.length /\
   ∀(i:Nat) (d:D),v.cells[i]?=some d->d.one=true/\aB c d (cur.getD i Go.undef)
 | .arr esz els=>0<esz/\(∀e∈els,e.cells.length=esz)/\lA els /\
   ((c.ρ n=none/\els=[])\/∃(g:Nat) (cur:Array Value) (ty:TypeId),c.ρ n=some g/\c.hp[g]?=some (.cells cur ty (0,0)) /\
    els.length*esz<=cur.size/\∀i j d,aM els i j=some d->aB c d (cur.getD (i*esz+j) Go.undef))
 | .frz esz els=>0<esz/\(∀e∈els,e.cells.length=esz)/\lA els /\
   ((c.ρ n=none/\els=[])\/∃(g:Nat) (cur:Array Value) (ty:TypeId) (fr:Nat×Nat),c.ρ n=some g/\c.hp[g]?=some (.cells cur ty fr) /\
    els.length*esz<=cur.size/\¬c.own g/\∀i j d,aM els i j=some d->aB c d (cur.getD (i*esz+j) Go.undef))
 | .lp st B=>∃(g:Nat) (tmps:Array Value) (dfs:Nat),c.ρ n=some g /\
   c.hp[g]?=some (.loop { state:=st.st,pending:=st.pend,fn:=B.fn,tmps:=tmps,params:=B.ps.toArray,assign:=B.assign,body:=B.body,defers:=dfs }) /\
   tmps.size=B.nt/\∀i,aB c (B.env i) (tmps.getD i Go.undef)
 | .map kt ents=>∃(g:Nat) (es:Array MapEntry) (clock:Nat),c.ρ n=some g/\c.hp[g]?=some (.map es clock)/\es.size=ents.length/\MapKept.Stamped es clock /\
   ∀(i:Nat) (p:D×D),ents[i]?=some p->kt.okB p.1=true/\p.2.one=true/\∃e:MapEntry,es[i]?=some e/\aB c p.1 e.key/\aB c p.2 e.val
structure av (c:Ctx):Prop where
 slot:∀n,cM c n (c.h n)
 inj:∀n m g,(c.h n).mine->(c.h m).mine->c.ρ n=some g->c.ρ m=some g->n=m
 apart:∀n g,(c.h n).mine->c.ρ n=some g->¬c.X g
 xlt:∀g,c.X g->g<c.hp.size
 fin:∃N,∀n,N<=n->c.h n=.free
 glob:iP c
 lo:c.X.lo<=c.hp.size
structure WS (w w':World):Prop where
 os:w'.os=w.os
 tape:w'.tape=w.tape
 output:w'.output=w.output
theorem WS.refl (w:World):WS w w:=⟨rfl,rfl,rfl⟩
theorem WS.trans {a b c:World}(h:WS a b) (k:WS b c):WS a c:=⟨k.os.trans h.os,k.tape.trans h.tape,k.output.trans h.output⟩
abbrev Env:=Nat->D
def Mark (c:Ctx) (d:Deferred):Prop:=∃k,d={ target:=.collected k,args:= #[] }/\c.X.lo<=k/\c.hp[k]?=some (.deferred (some []))/\¬c.own k
structure Marks (c:Ctx) (ds:List Deferred):Prop where
 all:∀d∈ds,Mark c d
 nd:ds.Pairwise (· ≠ ·)
theorem Marks.nil {c:Ctx}:Marks c []:=⟨fun _ h=>by(cases h),.nil⟩
theorem Marks.mono {c c':Ctx}(h:c.le c'){ds:List Deferred}(k:Marks c ds):Marks c' ds:=⟨fun d hd=>by
 obtain⟨j,e,h0,h1,h2⟩:=k.all d hd
 have hlt:=(Array.getElem?_eq_some_iff.1 h1).1
 exact⟨j,e,by rw[h.X];exact h0,(h.same hlt h2).trans h1,h.Dh hlt h2⟩,k.nd⟩
def xf (d:Deferred):Bool:=match d.target with
 | .collected _=>true
 | _=>false
structure fO (c:Ctx) (ds:List Deferred):Prop where
 marks:Marks c (ds.filter xf)
 rest:ds.filter (fun d=> !xf d)=c.X.dfs
theorem fO.mono {c c':Ctx}(h:c.le c'){ds:List Deferred}(k:fO c ds):fO c' ds:=⟨k.marks.mono h,by rw[h.X];exact k.rest⟩
theorem fO.nil {c:Ctx}(h:c.X.dfs=[]):fO c []:=⟨Marks.nil,h.symm⟩
def mz (r:Option Nat) (c:Ctx):Prop:=∀l,r=some l->∃rc:Loop,c.hp[l]?=some (.loop rc)
theorem mz.mono {c c':Ctx}(h:c.le c'){r:Option Nat}(k:mz r c):mz r c':=fun l hl=>by
 obtain⟨rc,h1⟩:=k l hl
 obtain⟨rc',h2,_⟩:=h.loop l rc h1
 exact⟨rc',h2⟩
theorem mz.none {c:Ctx}:mz none c:=fun _ h=>by cases h
def rF (r:Option Nat):Fence:={ Fence.wide with round:=r }
structure ot (c:Ctx) (nt:Nat) (t:Env) (a:Act):Prop where
 glob:iP c
 lo:c.X.lo<=c.hp.size
 defers:fO c a.defers
 size:a.tmps.size=nt
 rel:∀i,aB c (t i) (a.tmps.getD i Go.undef)
theorem ot.mono {c c':Ctx}{nt:Nat}{t:Env}{a:Act}(h:c.le c') (s:ot c nt t a):ot c' nt t a :=
 ⟨s.glob.mono h,by rw[h.X];exact Nat.le_trans s.lo h.size,s.defers.mono h,s.size,fun i=>(s.rel i).mono h⟩
def Fin (c₀:Ctx) (w₀:World) (nt:Nat) (K:Env->Heap->Prop) (a:Act) (w:World):Prop :=
 ∃(ρ:Nat->Option Nat) (t:Env) (h:Heap),c₀.le ⟨ρ,c₀.X,h,w.heap⟩/\av ⟨ρ,c₀.X,h,w.heap⟩/\WS w₀ w/\ot ⟨ρ,c₀.X,h,w.heap⟩ nt t a/\K t h
abbrev Post:=Ex->Env->Heap->Prop
def FinX (c₀:Ctx) (w₀:World) (nt:Nat) (Q:Post):Exit->Act->World->Prop
 | .normal=>Fin c₀ w₀ nt (Q .normal)
 | .exit id=>Fin c₀ w₀ nt (Q (.exit id))
 | .ret=>Fin c₀ w₀ nt (Q .ret)
 | .goto l=>Fin c₀ w₀ nt (Q (.jump l))
 | .panic ch=>fun a w=>ch=[{ v:=bW.panv,recovered:=false }]/\Fin c₀ w₀ nt (Q .pan) a w
 | _=>fun _ _=>False
theorem Fin.mono {c₀:Ctx}{w₀:World}{nt:Nat}{K K':Env->Heap->Prop}(hk:∀t h,K t h->K' t h){a:Act}{w:World}(h:Fin c₀ w₀ nt K a w):Fin c₀ w₀ nt K' a w:=by
 obtain⟨ρ,t,hh,r1,r2,r3,r4,r5⟩:=h
 exact⟨ρ,t,hh,r1,r2,r3,r4,hk _ _ r5⟩
theorem Fin.from {c₀ c₁:Ctx}{w₀ w₁:World}{nt:Nat}{K:Env->Heap->Prop}{a:Act}{w:World}(hle:c₀.le c₁) (hw:WS w₀ w₁) (h:Fin c₁ w₁ nt K a w):Fin c₀ w₀ nt K a w:=by
 obtain⟨ρ,t,hh,r1,r2,r3,r4,r5⟩:=h
 have hx:=hle.X
 rw[hx]at r1 r2 r4
 exact⟨ρ,t,hh,hle.trans r1,r2,hw.trans r3,r4,r5⟩
theorem FinX.from {c₀ c₁:Ctx}{w₀ w₁:World}{nt:Nat}{Q:Post}(hle:c₀.le c₁) (hw:WS w₀ w₁) (e:Exit) (a:Act) (w:World) (h:FinX c₁ w₁ nt Q e a w):FinX c₀ w₀ nt Q e a w:=by
 cases e<;>first|exact Fin.from hle hw h|exact⟨h.1,Fin.from hle hw h.2⟩|exact h
theorem FinX.mono {c₀:Ctx}{w₀:World}{nt:Nat}{Q Q':Post}(hk:∀e t h,Q e t h->Q' e t h) (e:Exit) (a:Act) (w:World) (h:FinX c₀ w₀ nt Q e a w):FinX c₀ w₀ nt Q' e a w:=by
 cases e<;>first|exact Fin.mono (hk _) h|exact⟨h.1,Fin.mono (hk _) h.2⟩|exact h
def o9 (P:Program) (nt:Nat) (code:Code) (Q:Post) (t:Env) (h:Heap):Prop :=
 ∀(r:Option Nat) (c:Ctx) (w:World) (a:Act),c.h=h->c.hp=w.heap->av c->ot c nt t a->mz r c->code.wpIn (rF r) 0 P (FinX c w nt Q) a w
variable {P:Program}{nt:Nat}
theorem Fin.here {c:Ctx}{w:World}{t:Env}{h:Heap}{a:Act}{K:Env->Heap->Prop}(hh:c.h=h) (hp:c.hp=w.heap) (hr:av c) (hs:ot c nt t a) (hk:K t h):Fin c w nt K a w:=by
 obtain⟨ρ,X,h',hp'⟩:=c
 subst hh hp
 exact⟨ρ,t,_,Ctx.le.refl _,hr,WS.refl w,hs,hk⟩
theorem pF {x:Code}{Q Q':Post}{t:Env}{h:Heap}(hk:∀e t h,Q e t h->Q' e t h) (hx:o9 P nt x Q t h):o9 P nt x Q' t h :=
 fun r c w a hh hp hr hs ho=>wpIn_mono (hx r c w a hh hp hr hs ho) (FinX.mono hk)
theorem HV {Q:Post}{t:Env}{h:Heap}(hk:Q .normal t h):o9 P nt .skip Q t h :=
 fun _ _ _ _ hh hp hr hs _=>wpIn_skip (Fin.here hh hp hr hs hk)
theorem Of {id:Nat}{Q:Post}{t:Env}{h:Heap}(hk:Q (.exit id) t h):o9 P nt (.exit id) Q t h :=
 fun _ _ _ _ hh hp hr hs _=>wpIn_exit (Fin.here hh hp hr hs hk)
theorem P7 {Q:Post}{t:Env}{h:Heap}(hk:Q .ret t h):o9 P nt .ret Q t h :=
 fun _ _ _ _ hh hp hr hs _=>wpIn_ret (Fin.here hh hp hr hs hk)
def Post.then (K:Env->Heap->Prop) (Q:Post):Post
 | .normal=>K
 | e=>Q e
theorem Kl {x y:Code}{Q:Post}{t:Env}{h:Heap}(hx:o9 P nt x (Post.then (o9 P nt y Q) Q) t h):o9 P nt (.seq x y) Q t h:=by
 intro r c w a hh hp hr hs ho
 refine wpIn_seq (wpIn_mono (hx r c w a hh hp hr hs ho) ?_)
 intro e a' w' he
 cases e with
 | normal =>
  obtain⟨ρ,t',h',r1,r2,r3,r4,r5⟩:=he
  exact wpIn_mono (r5 r _ w' a' rfl rfl r2 r4 (ho.mono r1)) (fun e a w hf=>FinX.from r1 r3 e a w hf)
 | exit id=>exact he
 | ret=>exact he
 | goto l=>exact he
 | panic ch=>exact he
 | outgrown=>exact he
theorem Og {o:Operand}{x y:Code}{Q:Post}{t:Env}{h:Heap}{b:Bool}
  (he:∀(c:Ctx) (a:Act),c.h=h->ot c nt t a->a.eval o=.bool b) (hx:o9 P nt (if b then x else y) Q t h):o9 P nt (.cond o x y) Q t h :=
 fun r c w a hh hp hr hs ho=>wpIn_cond (he c a hh hs) (by cases b<;>exact hx r c w a hh hp hr hs ho)
def Post.block (id:Nat) (Q:Post):Post
 | .exit id'=>fun t h=>if id'=id then Q .normal t h else Q (.exit id') t h
 | e=>Q e
theorem LG {id:Nat}{x:Code}{Q:Post}{t:Env}{h:Heap}(hx:o9 P nt x (Post.block id Q) t h):o9 P nt (.block id x) Q t h:=by
 intro r c w a hh hp hr hs ho
 refine wpIn_block (wpIn_mono (hx r c w a hh hp hr hs ho) ?_)
 intro e a' w' he
 cases e with
 | exit id' =>
  show(if id'=id then _ else _)
  by_cases hid:id'=id
  ·rw[if_pos hid];exact Fin.mono (fun t h hq=>by simpa[Post.block,hid] using hq) he
  ·rw[if_neg hid];exact Fin.mono (fun t h hq=>by simpa[Post.block,hid] using hq) he
 | _=>exact he
theorem Od {x:Code}{Q:Post}{t:Env}{h:Heap}(I:Nat->Env->Heap->Prop) (n₀:Nat) (h₀:I n₀ t h)
  (round:∀n t h,I n t h->o9 P nt x (Post.then (fun t' h'=>∃m,m<n/\I m t' h') Q) t h):o9 P nt (.loop x) Q t h:=by
 intro r c w a hh hp hr hs ho b k cs hro hb hrm
 have key:∀n (t:Env) (h:Heap) (c:Ctx) (w:World) (a:Act),I n t h->c.h=h->c.hp=w.heap->av c->ot c nt t a->mz r c ->
   ∃e a' w',FinX c w nt Q e a' w'/\ArrivesIn (Machine.fenced P (rF r)) P (lone (b.atR a (.code x::.inLoop x::k)) cs w) b k cs e a' w':=by
  intro n
  induction n using Nat.strongRecOn with
  | _ n ih =>
   intro t h c w a hI hh hp hr hs ho
   obtain⟨e,a₁,w₁,hq,harr⟩:=round n t h hI r c w a hh hp hr hs ho b (.inLoop x::k) cs hro hb hrm
   cases e with
   | normal =>
    obtain⟨ρ,t',h',r1,r2,r3,r4,m,hm,hI'⟩:=hq
    obtain⟨e₂,a₂,w₂,hq₂,harr₂⟩:=ih m hm t' h' _ w₁ a₁ hI' rfl rfl r2 r4 (ho.mono r1)
    exact⟨e₂,a₂,w₂,FinX.from r1 r3 _ _ _ hq₂,.of_steps (StepsIn.trans harr (.one (fenced_calm hb hrm rfl) stepR_inLoop)) harr₂⟩
   | exit id=>exact⟨_,a₁,w₁,(show FinX c w nt Q (.exit id) a₁ w₁ from hq),.pass (x:=.inLoop x) rfl (fun _ _=>.inl (by simp)) harr⟩
   | goto l=>exact⟨_,a₁,w₁,(show FinX c w nt Q (.goto l) a₁ w₁ from hq),.pass (x:=.inLoop x) rfl (fun _ _=>.inl (by simp)) harr⟩
   | ret=>exact⟨_,a₁,w₁,(show FinX c w nt Q .ret a₁ w₁ from hq),.pass (x:=.inLoop x) rfl (fun _ _=>.inl (by simp)) harr⟩
   | panic ch=>exact⟨_,a₁,w₁,(show FinX c w nt Q (.panic ch) a₁ w₁ from hq),.pass (x:=.inLoop x) rfl (fun _ _=>.inl (by simp)) harr⟩
   | outgrown=>exact hq.elim
 obtain⟨e,a',w',hq,harr⟩:=key n₀ t h c w a h₀ hh hp hr hs ho
 exact⟨e,a',w',hq,.of_steps (.one (fenced_calm hb hrm rfl) stepR_loop) harr⟩
theorem LF {l:Nat}{Q:Post}{t:Env}{h:Heap}(hk:Q .normal t h):o9 P nt (.label l) Q t h :=
 fun _ _ _ _ hh hp hr hs _=>wpIn_label (Fin.here hh hp hr hs hk)
theorem Oe {l:Nat}{Q:Post}{t:Env}{h:Heap}(hk:Q (.jump l) t h):o9 P nt (.goto l) Q t h :=
 fun _ _ _ _ hh hp hr hs _=>wpIn_goto (Fin.here hh hp hr hs hk)
theorem iV {b:Frame}{a:Act}{k:List Item}{cs:List Frame}{w:World}{c:Code}:step P (lone (b.atR a (.code (.scope c)::k)) cs w)=.next (lone (b.atR a (.code c::.inScope c::k)) cs w) :=
 step_lone_go (by simp[stepG,stepG.exec,Frame.atR])
theorem vj {b:Frame}{a:Act}{k:List Item}{cs:List Frame}{w:World}{c:Code}:step P (lone (b.atR a (.inScope c::k)) cs w)=.next (lone (b.atR a k) cs w) :=
 step_lone_go (by simp[stepG,stepG.exec,Frame.atR])
def Post.jump (l:Nat) (J:Env->Heap->Prop) (Q:Post):Post
 | .jump l'=>fun t h=>l'=l/\J t h
 | e=>Q e
theorem LC {x rest:Code}{l:Nat}(hf:findLabel x l=some rest){Q:Post}{t:Env}{h:Heap}(I:Nat->Env->Heap->Prop)
  (first:o9 P nt x (Post.jump l (fun t' h'=>∃m,I m t' h') Q) t h)
  (round:∀n t h,I n t h->o9 P nt rest (Post.jump l (fun t' h'=>∃m,m<n/\I m t' h') Q) t h):o9 P nt (.scope x) Q t h:=by
 intro r c w a hh hp hr hs ho b k cs hro hb hrm
 have hg:gotoIn l (.inScope x::k)=some (.code rest::.inScope x::k):=by simp[gotoIn,hf]
 have key:∀n (t:Env) (h:Heap) (c:Ctx) (w:World) (a:Act),I n t h->c.h=h->c.hp=w.heap->av c->ot c nt t a->mz r c ->
   ∃e a' w',FinX c w nt Q e a' w'/\ArrivesIn (Machine.fenced P (rF r)) P (lone (b.atR a (.code rest::.inScope x::k)) cs w) b k cs e a' w':=by
  intro n
  induction n using Nat.strongRecOn with
  | _ n ih =>
   intro t h c w a hI hh hp hr hs ho
   obtain⟨e,a₁,w₁,hq,harr⟩:=round n t h hI r c w a hh hp hr hs ho b (.inScope x::k) cs hro hb hrm
   cases e with
   | normal=>exact⟨.normal,a₁,w₁,(show FinX c w nt Q .normal a₁ w₁ from hq),StepsIn.trans harr (.one (fenced_calm hb hrm rfl) vj)⟩
   | exit id =>
    have hx:exitTo id (.inScope x::k)=exitTo id k:=by simp[exitTo]
    exact⟨.exit id,a₁,w₁,(show FinX c w nt Q (.exit id) a₁ w₁ from hq),fun k' hk=>harr.1 k' (by rw[hx];exact hk),fun hr' hk=>harr.2 hr' (by rw[hx];exact hk)⟩
   | goto l' =>
    obtain⟨ρ,t',h',r1,r2,r3,r4,rfl,m,hm,hI'⟩:=hq
    obtain⟨e₂,a₂,w₂,hq₂,harr₂⟩:=ih m hm t' h' _ w₁ a₁ hI' rfl rfl r2 r4 (ho.mono r1)
    exact⟨e₂,a₂,w₂,FinX.from r1 r3 _ _ _ hq₂,.of_steps (harr.1 _ hg) harr₂⟩
   | ret=>exact⟨_,a₁,w₁,(show FinX c w nt Q .ret a₁ w₁ from hq),harr⟩
   | panic ch=>exact⟨_,a₁,w₁,(show FinX c w nt Q (.panic ch) a₁ w₁ from hq),harr⟩
   | outgrown=>exact hq.elim
 obtain⟨e,a₁,w₁,hq,harr⟩:=first r c w a hh hp hr hs ho b (.inScope x::k) cs hro hb hrm
 have h0:(lone (b.atR a (.code (.scope x)::k)) cs w).fenced P (rF r):=fenced_calm hb hrm rfl
 cases e with
 | normal=>exact⟨.normal,a₁,w₁,(show FinX c w nt Q .normal a₁ w₁ from hq),.head h0 iV (StepsIn.trans harr (.one (fenced_calm hb hrm rfl) vj))⟩
 | exit id =>
  have hx:exitTo id (.inScope x::k)=exitTo id k:=by simp[exitTo]
  exact⟨.exit id,a₁,w₁,(show FinX c w nt Q (.exit id) a₁ w₁ from hq),fun k' hk=>.head h0 iV (harr.1 k' (by rw[hx];exact hk)),
   fun hr' hk=>let ⟨k₁,h1,h2⟩:=harr.2 hr' (by rw[hx];exact hk);⟨k₁,h1,.head h0 iV h2⟩⟩
 | goto l' =>
  obtain⟨ρ,t',h',r1,r2,r3,r4,rfl,m,hI'⟩:=hq
  obtain⟨e₂,a₂,w₂,hq₂,harr₂⟩:=key m t' h' _ w₁ a₁ hI' rfl rfl r2 r4 (ho.mono r1)
  exact⟨e₂,a₂,w₂,FinX.from r1 r3 _ _ _ hq₂,.of_steps (.head h0 iV (harr.1 _ hg)) harr₂⟩
 | ret=>exact⟨_,a₁,w₁,(show FinX c w nt Q .ret a₁ w₁ from hq),.of_steps (.one h0 iV) harr⟩
 | panic ch=>exact⟨_,a₁,w₁,(show FinX c w nt Q (.panic ch) a₁ w₁ from hq),.of_steps (.one h0 iV) harr⟩
 | outgrown=>exact hq.elim
def pG (P:Program) (nt:Nat) (ops:Array Oper) (l:List Nat) (K:Env->Heap->Prop) (t:Env) (h:Heap):Prop :=
 ∀(r:Option Nat) (c:Ctx) (w:World) (a:Act) (Q:Exit->Act->World->Prop),c.h=h->c.hp=w.heap->av c->ot c nt t a->(∀a' w',Fin c w nt K a' w'->Q .normal a' w')->wpOpsIn (rF r) 0 P ops Q l a w
def Ft (P:Program) (nt:Nat) (o:Oper) (K:Env->Heap->Prop) (t:Env) (h:Heap):Prop :=
 (∀c,o.op≠.defer c)->∀(r:Option Nat) (c:Ctx) (w:World) (a:Act) (Q:Exit->Act->World->Prop),c.h=h->c.hp=w.heap->av c->ot c nt t a->o.wpIn (rF r) 0 P a w (Fin c w nt K) Q
theorem iC {r:Option Nat}{o:Oper}(hnd:∀c,o.op≠.defer c){a:Act}{w:World}{K:Act->World->Prop}{Q:Exit->Act->World->Prop}{R:Result Next}(hrun:(execOp a.eval o).run P w=R) (h:o.uponIn (rF r) 0 P a K Q R):o.wpIn (rF r) 0 P a w K Q:=by
 refine⟨fun _ _=>trivial,?_⟩
 rw[Oper.semAt_eq _ _ _ hnd,hrun]
 exact h
theorem fu {ops:Array Oper}{K:Env->Heap->Prop}{t:Env}{h:Heap}(hk:K t h):pG P nt ops [] K t h :=
 fun _ _ _ _ _ hh hp hr hs hq=>hq _ _ (Fin.here hh hp hr hs hk)
theorem Ji {id:Nat}{ops:Array Oper}{Q:Post}{t:Env}{h:Heap}(hx:pG P nt ops (List.range ops.size) (Q .normal) t h):o9 P nt (.region id ops false) Q t h :=
 fun r c w a hh hp hr hs _=>wpIn_region (hx r c w a _ hh hp hr hs (fun _ _ hf=>hf))
def Env.put (t:Env) (dst:Option Tmp) (d:D):Env :=
 match dst with
 | some i=>aD t i d
 | none=>t
theorem ot.put {c:Ctx}{t:Env}{a:Act}(s:ot c nt t a){dst:Option Tmp}(hd:∀i,dst=some i->i<nt){d:D}{v:Value}(hv:aB c d v):ot c nt (t.put dst d) (a.put dst v):=by
 cases dst with
 | none=>exact s
 | some j =>
  refine⟨s.glob,s.lo,s.defers,by simp[Act.put,s.size],fun i=>?_⟩
  by_cases h:i=j
  ·subst h
   have hj:=hd i rfl
   have:(a.put (some i) v).tmps.getD i Go.undef=v:=by
    simp[Act.put,s.size,hj]
   rw[this]
   simpa[Env.put,aD] using hv
  ·have hji:j≠i:=fun e=>h e.symm
   have:(a.put (some j) v).tmps.getD i Go.undef=a.tmps.getD i Go.undef:=by
    simp[Act.put,hji]
   rw[this]
   simpa[Env.put,aD,h] using s.rel i
def gv:D->Option (Option Bool)
 | .bool b=>some (some b)
 | .tup _=>some none
 | _=>none
abbrev gU:D:=.tup []
def guarded (g:Option (Nat×Bool)) (dst:Option Tmp) (X:(Env->Heap->Prop)->Env->Heap->Prop) (K:Env->Heap->Prop) (t:Env) (h:Heap):Prop :=
 match g with
 | none=>X K t h
 | some (j,want)=>∃b,gv (t j)=some b/\(b=some want->X K t h)/\(b≠some want->K (t.put dst gU) h)
theorem gH {ops:Array Oper}{i:Nat}{rest:List Nat}{o:Oper}{K:Env->Heap->Prop}{t:Env}{h:Heap}(ho:ops[i]?=some o) (hnd:∀c,o.op≠.defer c)
  (g:Option (Nat×Bool)) (hg:∀j want,o.guard=some (j,want)->∃s,(ops[j]?).bind (·.dst)=some s/\g=some (s,want)) (hgn:o.guard=none->g=none)
  (hd:∀i,o.dst=some i->i<nt)
  (hx:guarded g o.dst (Ft P nt o) (pG P nt ops rest K) t h):pG P nt ops (i::rest) K t h:=by
 intro r c w a Q hh hp hr hs hq
 have run:Ft P nt o (pG P nt ops rest K) t h->o.wpIn (rF r) 0 P a w (wpOpsIn (rF r) 0 P ops Q rest) Q:=by
  intro hx
  refine Oper.wpIn_mono (fun a' w' hf=>?_) (hx hnd r c w a Q hh hp hr hs)
  obtain⟨ρ,t',h',r1,r2,r3,r4,r5⟩:=hf
  exact r5 r _ w' a' Q rfl rfl r2 r4 (fun a'' w'' hf=>hq _ _ (Fin.from r1 r3 hf))
 simp only[wpOpsIn,ho]
 cases hgd:o.guard with
 | none =>
  have:=hgn hgd
  subst this
  rw[if_pos (by simp[Region.wanted,hgd])]
  exact run hx
 | some p =>
  obtain⟨j,want⟩:=p
  obtain⟨s,hsd,rfl⟩:=hg j want hgd
  obtain⟨b,hb,h1,h2⟩:=hx
  have hv:=hs.rel s
  have hu:aB c gU Go.undef:=.tup [] #[] rfl (by simp)
  cases b with
  | some b =>
   have ht:t s=.bool b:=by
    generalize t s=d at hb
    cases d<;>simp[gv]at hb
    rw[hb]
   rw[ht]at hv
   have hval:a.tmps.getD s Go.undef=.bool b:=by
    generalize a.tmps.getD s Go.undef=v at hv
    cases hv;rfl
   have hsz:s<a.tmps.size:=by
    rcases Nat.lt_or_ge s a.tmps.size with h|h
    ·exact h
    ·exfalso
     have:a.tmps.getD s Go.undef=Go.undef:=by simp[Array.getElem?_eq_none h]
     rw[this]at hval
     simp[Go.undef]at hval
   have hy:yielded ops a.tmps j=some b:=by
    have hge:a.tmps[s]?=some (.bool b):=by
     have:a.tmps.getD s Go.undef=a.tmps[s]:=by simp[Array.getElem?_eq_getElem hsz]
     rw[this]at hval
     rw[Array.getElem?_eq_getElem hsz,hval]
    simp[yielded,hsd,hge]
   by_cases hbw:b=want
   ·rw[if_pos (by simp[Region.wanted,hgd,hy,hbw])]
    exact run (h1 (by rw[hbw]))
   ·rw[if_neg (by simp[Region.wanted,hgd,hy,hbw])]
    exact⟨fun _ _=>trivial,h2 (by simpa using hbw) r c w _ Q hh hp hr (hs.put hd hu) hq⟩
  | none =>
   obtain⟨ds,ht⟩:∃ds,t s=.tup ds:=by
    generalize t s=d at hb
    cases d<;>simp[gv]at hb
    exact⟨_,rfl⟩
   rw[ht]at hv
   obtain⟨vs,hval⟩:∃vs,a.tmps.getD s Go.undef=.tuple vs:=by
    generalize a.tmps.getD s Go.undef=v at hv
    cases hv;exact⟨_,rfl⟩
   have hy:yielded ops a.tmps j=none:=by
    rcases Nat.lt_or_ge s a.tmps.size with hsz|hsz
    ·have hge:a.tmps[s]?=some (.tuple vs):=by
      have:a.tmps.getD s Go.undef=a.tmps[s]:=by simp[Array.getElem?_eq_getElem hsz]
      rw[this]at hval
      rw[Array.getElem?_eq_getElem hsz,hval]
     simp[yielded,hsd,hge]
    ·simp[yielded,hsd,Array.getElem?_eq_none hsz]
   rw[if_neg (by simp[Region.wanted,hgd,hy])]
   exact⟨fun _ _=>trivial,h2 (by simp) r c w _ Q hh hp hr (hs.put hd hu) hq⟩
end Go.Am
namespace Go.Am
open Go
instance gtab0:bW where
 panv:=Go.undef
 tab:=fun _=>none
variable [bW]
abbrev LEnv:=List (Nat×D)
def LEnv.get:LEnv->Nat->D
 | [],_=>.undef
 | (k,d)::r,i=>if i=k then d else LEnv.get r i
def LEnv.put (e:LEnv) (dst:Option Nat) (d:D):LEnv :=
 match dst with
 | some i=>(i,d)::e
 | none=>e
inductive Arg where
 | t (i:Nat)
 | c (d:D)
def Arg.get (e:LEnv):Arg->D
 | .t i=>e.get i
 | .c d=>d
def D.isAgg:D->Bool
 | .agg _=>true
 | _=>false
inductive CK where
 | i
 | b
 | s
inductive AOp where
 | mov (x:Arg)
 | pick (c a b:Arg)
 | bin (op:BinOp) (x y:Arg)
 | eqv (neg agg:Bool) (ks:List CK) (x y:Arg)
 | un (op:UnOp) (x:Arg)
 | conv (k:IntKind) (x:Arg)
 | ext (x:Arg) (i:Nat)
 | fld (x:Arg) (off size:Nat) (agg:Bool)
 | bld (zero:List D) (parts:List (Nat×Nat×Arg))
 | bldS (fz:Bool) (esz len:Nat) (zero:D) (parts:List (Nat×Arg))
 | len (x:Arg)
 | slen (x:Arg)
 | fadd (x:Arg) (off:Nat)
 | iadd (x i:Arg) (esz:Nat)
 | iadda (x i:Arg) (len esz:Nat)
 | sidx (x i:Arg) (len size:Nat) (agg:Bool)
 | ld (x:Arg) (size:Nat) (agg:Bool)
 | st (x v:Arg) (size:Nat)
 | alloc (zero:D)
 | box (x:Arg)
 | mk (esz bytes:Nat) (zero:D) (len cap:Arg)
 | zB (x:Arg) (lo hi mx:Option Arg) (esz:Nat)
 | sslc (x:Arg) (lo hi:Option Arg)
 | slz (x:Arg) (esz:Nat)
 | L0 (x:Arg) (n:Nat)
 | b2s (x:Arg)
 | mkc (bytes:Nat) (len cap:Arg)
 | nilq (neg:Bool) (x:Arg)
 | app (s x:Arg) (esz bytes:Nat) (zero:D)
 | Fi (d s:Arg) (esz:Nat)
 | call (f:FuncId) (args:List Arg)
 | callv (x:Arg) (args:List Arg)
 | mkf (f:FuncId) (a b:List Arg)
 | mn (x y:Arg)
 | mx (x y:Arg)
 | mn3 (x y z:Arg)
 | mx3 (x y z:Arg)
 | Ix (kt:KeyT)
 | look (kt:KeyT) (x k:Arg) (z:D) (ok:Bool)
 | mupd (kt:KeyT) (x k v:Arg)
 | dead
structure AOper where
 dst:Option Nat
 op:AOp
 guard:Option (Nat×Bool)
inductive ACode where
 | skip
 | seq (a b:ACode)
 | seqj (keep vars:List Nat) (a b:ACode)
 | cond (c:Arg) (a b:ACode)
 | block (id:Nat) (a:ACode)
 | loop (keep vars:List Nat) (a:ACode)
 | exit (id:Nat)
 | ret
 | reg (l:List AOper)
 | dreg (vals tail rev:List AOper)
 | range (g:Arg) (ps keep exs:List Nat) (a b:ACode)
 | frz (a:ACode)
 | regx (l:List AOper)
 | panr
 | scope (l:Nat) (keep vars:List Nat) (a b:ACode)
 | label (l:Nat)
 | goto (l:Nat)
def ibits (op:BinOp) (k:IntKind) (x y:Int):Int :=
 let a:=BitVec.ofInt k.bits x
 let b:=BitVec.ofInt k.bits y
 k.wrap (match op with
  | .and=>(a &&& b).toNat
  | .or=>(a ||| b).toNat
  | .xor=>(a ^^^ b).toNat
  | _=>(a &&& ~~~b).toNat)
def RO (k:IntKind) (a b:Int):Int:=k.wrap (a*2 ^ (min b.toNat k.bits))
def G6 (k:IntKind) (a b:Int):Int:=a.fdiv (2 ^ (min b.toNat k.bits))
def vbin (op:BinOp) (x y:D) (K:D->Prop):Prop :=
 match x,y with
 | .int k a,.int k' b =>
  match op with
  | .shl=>0<=b/\K (.int k (RO k a b))
  | .shr=>0<=b/\K (.int k (G6 k a b))
  | .add=>k=k'/\K (.int k (k.wrap (a+b)))
  | .sub=>k=k'/\K (.int k (k.wrap (a-b)))
  | .mul=>k=k'/\K (.int k (k.wrap (a*b)))
  | .quo=>k=k'/\b≠0/\K (.int k (k.wrap (a.tdiv b)))
  | .rem=>k=k'/\b≠0/\K (.int k (a.tmod b))
  | .and=>k=k'/\K (.int k (ibits .and k a b))
  | .or=>k=k'/\K (.int k (ibits .or k a b))
  | .xor=>k=k'/\K (.int k (ibits .xor k a b))
  | .andNot=>k=k'/\K (.int k (ibits .andNot k a b))
  | .eql=>k=k'/\K (.bool (decide (a=b)))
  | .neq=>k=k'/\K (.bool (!decide (a=b)))
  | .lss=>k=k'/\K (.bool (decide (a<b)))
  | .leq=>k=k'/\K (.bool (decide (a<=b)))
  | .gtr=>k=k'/\K (.bool (decide (b<a)))
  | .geq=>k=k'/\K (.bool (decide (b<=a)))
 | .str a,.str b =>
  match op with
  | .eql=>K (.bool (a.toList == b.toList))
  | .neq=>K (.bool (!(a.toList == b.toList)))
  | .add=>a.size+b.size<=9223372036854775807/\K (.str (a++b))
  | _=>False
 | _,_=>False
def vun (op:UnOp) (x:D) (K:D->Prop):Prop :=
 match op,x with
 | .neg,.int k n=>K (.int k (k.wrap (0-n)))
 | .xor,.int k n=>K (.int k (ibits .xor k (if k.signed then -1 else k.max) n))
 | .not,.bool b=>K (.bool !b)
 | _,_=>False
def eqCells:List CK->List D->List D->Option Bool
 | [],[],[]=>some true
 | .i::ks,.int k a::r,.int k' b::s=>if k=k' then(eqCells ks r s).map (fun t=>decide (a=b)&&t) else none
 | .b::ks,.bool a::r,.bool b::s=>(eqCells ks r s).map (fun t=>(a == b)&&t)
 | .s::ks,.str a::r,.str b::s=>(eqCells ks r s).map (fun t=>(a.toList == b.toList)&&t)
 | _,_,_=>none
def veqv (neg:Bool) (ks:List CK) (x y:D) (K:D->Prop):Prop :=
 match eqCells ks x.cells y.cells with
 | some b=>K (.bool (if neg then !b else b))
 | none=>False
def vpart (cs:List D) (off size:Nat) (agg:Bool) (K:D->Prop):Prop :=
 if agg then off+size<=cs.length/\K (.agg ((cs.drop off).take size))
 else match cs[off]? with
  | some d=>K d
  | none=>False
def setCells (d:D) (j:Nat) (new:List D):D :=
 match d with
 | .agg cs=>.agg (cs.take j++new++cs.drop (j+new.length))
 | _=>match new with
  | [x]=>x
  | _=>.undef
def Slot.live:Slot->Bool
 | .box _=>true
 | .arr _ _=>true
 | .frz _ _=>true
 | _=>false
def velems (esz:Nat) (x:D) (h:Heap) (K:List D->Prop):Prop :=
 match x with
 | .nil=>K []
 | .sl xs=>(∀e∈xs,e.cells.length=esz)/\K xs
 | .ms n off len=>∃els,(h n).row=some (esz,els)/\off+len<=els.length/\K ((els.drop off).take len)
 | _=>False
def vint (x:D) (K:Int->Prop):Prop :=
 match x with
 | .int _ i=>K i
 | _=>False
def aR (x:D) (h:Heap) (K:D->Prop):Prop :=
 match x with
 | .nil=>K (.int .i64 0)
 | .sl xs=>K (.int .i64 xs.length)
 | .ms n _ len=>(h n).live=true/\K (.int .i64 len)
 | _=>False
def vopt (e:LEnv) (x:Option Arg) (dflt:Nat) (K:Int->Prop):Prop :=
 match x with
 | none=>K dflt
 | some a=>vint (a.get e) K
def fillD (cells:List D):List (Nat×Nat×List D)->List D
 | []=>cells
 | (off,size,cs)::r=>fillD (cells.take off++cs++cells.drop (off+size)) r
def jD (n:Nat) (l:List (Nat×Nat×D)):Prop :=
 ∀p∈l,p.2.2.cells.length=p.2.1/\p.1+p.2.1<=n/\∀d∈p.2.2.cells,d.one=true
def IK (n:Nat) (e:LEnv) (parts:List (Nat×Nat×Arg)):Prop :=
 ∀p∈parts,(p.2.2.get e).cells.length=p.2.1/\p.1+p.2.1<=n/\∀d,d∈(p.2.2.get e).cells->d.one=true
theorem A4 {n:Nat}{e:LEnv}{parts:List (Nat×Nat×Arg)}:jD n (parts.map fun p=>(p.1,p.2.1,p.2.2.get e))↔IK n e parts:=by
 simp only[jD,IK,List.mem_map,forall_exists_index,and_imp,forall_apply_eq_imp_iff₂]
def setEls (els:List D):List (Nat×D)->List D
 | []=>els
 | (i,x)::r=>setEls (els.set i x) r
def Heap.freeze (h:Heap) (n:Nat):Heap :=
 match h n with
 | .arr e l=>aD h n (.frz e l)
 | _=>h
def Heap.freezeAll (h:Heap):List Nat->Heap
 | []=>h
 | n::r=>Heap.freezeAll (h.freeze n) r
def D.fzc (h:Heap):D->D
 | .ms n off len=>match (h n).row with
  | some (_,els)=>.sl ((els.drop off).take len)
  | none=>.ms n off len
 | d=>d
def D.fz (h:Heap):D->D
 | .agg cs=>.agg (cs.map (D.fzc h))
 | d=>d.fzc h
def D.fzt (h:Heap):D->D
 | .tup ds=>.tup (ds.map (D.fz h))
 | d=>d.fz h
def D.jV:D->List Nat
 | .ms n _ _=>[n]
 | _=>[]
def D.nm:D->List Nat
 | .agg cs=>cs.flatMap D.jV
 | d=>d.jV
def aN (d:D):Prop:=∀x∈d.cells,x.one=true
def oE (h:Heap):D->Prop
 | .ms n off len=>∃esz els,(h n).row=some (esz,els)/\off+len<=els.length/\∀x,x∈(els.drop off).take len->∀y∈x.cells,y.vone=true
 | _=>True
def mB (h:Heap) (d:D):Prop:=∀x∈d.cells,oE h x
def HQ (len esz:Nat) (l:List (Nat×D)):Prop:=∀p∈l,p.1<len/\p.2.cells.length=esz/\aN p.2
def N7 (h:Heap) (l:List (Nat×D)):Prop:=∀p∈l,mB h p.2
def SA (l:List (Nat×D)):Prop:=∀p∈l,∀y∈p.2.cells,y.vone=true
theorem uz {len esz:Nat}{e:LEnv}{parts:List (Nat×Arg)}:HQ len esz (parts.map fun p=>(p.1,p.2.get e)) ↔ ∀p∈parts,p.1<len/\(p.2.get e).cells.length=esz/\aN (p.2.get e):=by
 simp only[HQ,List.mem_map,forall_exists_index,and_imp,forall_apply_eq_imp_iff₂]
theorem Fo {h:Heap}{e:LEnv}{parts:List (Nat×Arg)}:N7 h (parts.map fun p=>(p.1,p.2.get e)) ↔ ∀p∈parts,mB h (p.2.get e):=by
 simp only[N7,List.mem_map,forall_exists_index,and_imp,forall_apply_eq_imp_iff₂]
theorem HP {e:LEnv}{parts:List (Nat×Arg)}:SA (parts.map fun p=>(p.1,p.2.get e)) ↔ ∀p∈parts,∀y,y∈(p.2.get e).cells->y.vone=true:=by
 simp only[SA,List.mem_map,forall_exists_index,and_imp,forall_apply_eq_imp_iff₂]
def keySame:D->D->Bool
 | .int _ a,.int _ b=>decide (a=b)
 | .agg [.int _ a,.int _ b],.agg [.int _ c,.int _ d]=>decide (a=c)&&decide (b=d)
 | _,_=>false
def mget:List (D×D)->D->Option D
 | [],_=>none
 | (a,b)::r,k=>if keySame k a=true then some b else mget r k
def mset:List (D×D)->D->D->List (D×D)
 | [],k,v=>[(k,v)]
 | (a,b)::r,k,v=>if keySame k a=true then(a,v)::r else(a,b)::mset r k v
def ai (P:Program) (f:FuncId) (ds:List D) (h:Heap) (K:HKq):Prop :=
 ∀(c:Ctx) (w:World) (vals:Array Value),c.h=h->c.hp=w.heap->av c->vals.size=ds.length ->
  (∀(i:Nat) (d:D),ds[i]?=some d->aB c d (vals.getD i Go.undef)) ->
  Calls P f vals w fun e w'=>∃(v:Value) (r:D) (ρ:Nat->Option Nat) (h':Heap),e=.returned v/\c.le ⟨ρ,c.X,h',w'.heap⟩ /\
   av ⟨ρ,c.X,h',w'.heap⟩/\WS w w'/\aB ⟨ρ,c.X,h',w'.heap⟩ r v/\K r h'
theorem ai.mono {P:Program}{f:FuncId}{ds:List D}{h:Heap}{K K':HKq}(hk:∀r h',K r h'->K' r h') (hc:ai P f ds h K):ai P f ds h K':=by
 intro c w vals hh hp hr hs hv
 refine(hc c w vals hh hp hr hs hv).mono ?_
 rintro e w' ⟨v,r,ρ,h',r1,r2,r3,r4,r5,r6⟩
 exact⟨v,r,ρ,h',r1,r2,r3,r4,r5,hk _ _ r6⟩
def xG (P:Program) (f:FuncId) (ds:List D) (h:Heap) (K:HKq) (KP:Heap->Prop):Prop :=
 ∀(c:Ctx) (w:World) (vals:Array Value),c.h=h->c.hp=w.heap->av c->vals.size=ds.length ->
  (∀(i:Nat) (d:D),ds[i]?=some d->aB c d (vals.getD i Go.undef)) ->
  Calls P f vals w fun e w'=>∃(ρ:Nat->Option Nat) (h':Heap),c.le ⟨ρ,c.X,h',w'.heap⟩/\av ⟨ρ,c.X,h',w'.heap⟩/\WS w w' /\
   ((∃(v:Value) (r:D),e=.returned v/\aB ⟨ρ,c.X,h',w'.heap⟩ r v/\K r h')\/(e=.panicked [{ v:=bW.panv,recovered:=false }]/\KP h'))
theorem xG.mono {P:Program}{f:FuncId}{ds:List D}{h:Heap}{K K':HKq}{KP KP':Heap->Prop}(hk:∀r h',K r h'->K' r h') (hp:∀h',KP h'->KP' h') (hc:xG P f ds h K KP):xG P f ds h K' KP':=by
 intro c w vals hh hp' hr hs hv
 refine(hc c w vals hh hp' hr hs hv).mono ?_
 rintro e w' ⟨ρ,h',r2,r3,r4,⟨v,r,r1,r5,r6⟩|⟨r1,r5⟩⟩
 ·exact⟨ρ,h',r2,r3,r4,Or.inl ⟨v,r,r1,r5,hk _ _ r6⟩⟩
 ·exact⟨ρ,h',r2,r3,r4,Or.inr ⟨r1,hp _ r5⟩⟩
theorem xG.call {P:Program}{f:FuncId}{ds:List D}{h:Heap}{K:HKq}(hc:xG P f ds h K fun _=>False):ai P f ds h K:=by
 intro c w vals hh hp hr hs hv
 refine(hc c w vals hh hp hr hs hv).mono ?_
 rintro e w' ⟨ρ,h',r2,r3,r4,⟨v,r,r1,r5,r6⟩|⟨_,h⟩⟩
 ·exact⟨v,r,ρ,h',r1,r2,r3,r4,r5,r6⟩
 ·exact h.elim
def o7 (P:Program) (n:Nat) (ds:List D) (h:Heap) (K:HKq):Prop :=
 ∀(c:Ctx) (w:World) (vals:Array Value) (g:Nat),c.h=h->c.hp=w.heap->av c->vals.size=ds.length ->
  (∀(i:Nat) (d:D),ds[i]?=some d->aB c d (vals.getD i Go.undef))->c.ρ n=some g ->
  ∃(fn:FuncId) (tmps:Array Value) (assign body:Code),(Instr.yield g vals).run P w=.ok (.round g fn tmps assign body) w /\
   RoundIn Fence.wide 0 P g fn tmps assign body w fun e w'=>∃(v:Value) (r:D) (ρ:Nat->Option Nat) (h':Heap),e=.returned v/\c.le ⟨ρ,c.X,h',w'.heap⟩ /\
    av ⟨ρ,c.X,h',w'.heap⟩/\WS w w'/\aB ⟨ρ,c.X,h',w'.heap⟩ r v/\K r h'
theorem o7.mono {P:Program}{n:Nat}{ds:List D}{h:Heap}{K K':HKq}(hk:∀r h',K r h'->K' r h') (hc:o7 P n ds h K):o7 P n ds h K':=by
 intro c w vals g hh hp hr hs hv hg
 obtain⟨fn,tmps,assign,body,h1,h2⟩:=hc c w vals g hh hp hr hs hv hg
 refine⟨fn,tmps,assign,body,h1,h2.mono ?_⟩
 rintro e w' ⟨v,r,ρ,h',r1,r2,r3,r4,r5,r6⟩
 exact⟨v,r,ρ,h',r1,r2,r3,r4,r5,hk _ _ r6⟩
def fc (P:Program) (f:FuncId):Bool :=
 match P.funcs[f]? with
 | some fn=> !(fn.name == "runtime.NumGoroutine")&&fn.body.isSome
 | none=>false
def pc (h:Heap) (n:Nat):Prop:=(∀m,n<=m->h m=.free)/\∀k,n=k+1->h k≠.free
theorem pc.free {h:Heap}{n:Nat}(t:pc h n):h n=.free:=t.1 n (Nat.le_refl n)
def AG (h:Heap) (m esz:Nat) (els:List D):Prop:=∃rest,h m=.arr esz (els++rest)
theorem AG.of {h:Heap}{m esz:Nat}{els:List D}(e:h m=.arr esz els):AG h m esz els:=⟨[],by rw[List.append_nil];exact e⟩
def u8L:List D->Option (List Int)
 | []=>some []
 | .int .u8 n::r=>(u8L r).map (n :: ·)
 | _=>none
def strOf (ns:List Int):ByteArray:=ns.foldl (fun r n=>r.push (UInt8.ofNat n.toNat)) ByteArray.empty
def vcOp (P:Program) (op:AOp) (K:HKq) (e:LEnv) (h:Heap):Prop :=
 match op with
 | .mov x=>K (x.get e) h
 | .pick c a b=>match c.get e with
  | .bool t=>K (if t then a.get e else b.get e) h
  | _=>False
 | .bin op x y=>vbin op (x.get e) (y.get e) (K · h)
 | .eqv neg agg ks x y=>(x.get e).isAgg=agg/\(y.get e).isAgg=agg/\veqv neg ks (x.get e) (y.get e) (K · h)
 | .un op x=>vun op (x.get e) (K · h)
 | .conv k x=>vint (x.get e) fun i=>K (.int k (k.wrap i)) h
 | .ext x i=>match x.get e with
  | .tup ds=>match ds[i]? with
   | some d=>K d h
   | none=>False
  | _=>False
 | .fld x off size agg=>match x.get e with
  | .agg cs=>vpart cs off size agg (K · h)
  | _=>False
 | .bld zero parts=>jD zero.length (parts.map fun p=>(p.1,p.2.1,p.2.2.get e))/\K (.agg (fillD zero (parts.map fun p=>(p.1,p.2.1,(p.2.2.get e).cells)))) h
 | .bldS fz esz len zero parts=>HQ len esz (parts.map fun p=>(p.1,p.2.get e))/\(fz=true->N7 h (parts.map fun p=>(p.1,p.2.get e))) /\
   ∀n,pc h n->K (.ms n 0 len) (aD (if fz then h.freezeAll (parts.flatMap fun p=>(p.2.get e).nm) else h) n
    (.arr esz (setEls (List.replicate len zero) (parts.map fun p=>(p.1,if fz then(p.2.get e).fz h else p.2.get e)))))
 | .len x=>aR (x.get e) h (K · h)
 | .slen x=>match x.get e with
  | .str s=>K (.int .i64 s.size) h
  | _=>False
 | .fadd x off=>match x.get e with
  | .ptr n i j=>(h n).used=true/\K (.ptr n i (j+off)) h
  | .vp d j=>K (.vp d (j+off)) h
  | _=>False
 | .iadd x i esz=>vint (i.get e) fun i=>match x.get e with
  | .sl xs=>0<=i/\i<xs.length/\∀d,xs[i.toNat]?=some d->d.cells.length=esz/\K (.vp d 0) h
  | .ms n off len=>0<=i/\i<len/\(∃els,(h n).row=some (esz,els))/\K (.ptr n (off+i.toNat) 0) h
  | _=>False
 | .iadda x i len esz=>vint (i.get e) fun i=>0<=i/\i<len/\match x.get e with
  | .ptr n k j=>(h n).live=true/\K (.ptr n k (j+i.toNat*esz)) h
  | .vp d j=>K (.vp d (j+i.toNat*esz)) h
  | _=>False
 | .sidx x i len size agg=>vint (i.get e) fun i=>match x.get e with
  | .str s=>len=0/\0<=i/\i<s.size/\∀b,s[i.toNat]?=some b->K (.int .u8 b.toNat) h
  | .agg cs=>0<len/\0<=i/\i<len/\vpart cs (i.toNat*size) size agg (K · h)
  | _=>False
 | .ld x size agg=>match x.get e with
  | .vp d j=>vpart d.cells j size agg (K · h)
  | .ptr n i j=>match h n with
   | .box v=>i=0/\vpart v.cells j size agg (K · h)
   | .arr _ els=>i<els.length/\∀d,els[i]?=some d->vpart d.cells j size agg (K · h)
   | .frz _ els=>i<els.length/\∀d,els[i]?=some d->vpart d.cells j size agg (K · h)
   | _=>False
  | _=>False
 | .st x v size=>(v.get e).cells.length=size/\aN (v.get e)/\match x.get e with
  | .ptr n i j=>match h n with
   | .box d=>i=0/\j+size<=d.cells.length/\K .undef (aD h n (.box (setCells d j (v.get e).cells)))
   | .arr esz els=>i<els.length/\j+size<=esz/\∀d,els[i]?=some d->K .undef (aD h n (.arr esz (els.set i (setCells d j (v.get e).cells))))
   | _=>False
  | _=>False
 | .alloc zero=>∀n,pc h n->K (.ptr n 0 0) (aD h n (.box zero))
 | .box x=>aN (x.get e)/\∀n,pc h n->K (.ptr n 0 0) (aD h n (.box (x.get e)))
 | .mk esz bytes zero len cap=>vint (len.get e) fun l=>vint (cap.get e) fun c=>0<=l/\l<=c/\c*bytes<=140737488355328/\c<=9223372036854775807 /\
   ∀n,pc h n->K (.ms n 0 l.toNat) (aD h n (.arr esz (List.replicate l.toNat zero)))
 | .zB x lo hi mx esz=>match x.get e with
  | .nil=>vopt e lo 0 fun l=>vopt e hi 0 fun r=>vopt e mx 0 fun m=>l=0/\r=0/\m=0/\K .nil h
  | .sl xs=>vopt e lo 0 fun l=>vopt e hi xs.length fun r=>vopt e mx xs.length fun m=>0<=l/\l<=r/\r<=m/\m<=xs.length/\(∀d∈xs,d.cells.length=esz) /\
    K (.sl ((xs.drop l.toNat).take (r-l).toNat)) h
  | .ms n off len=>vopt e lo 0 fun l=>vopt e hi len fun r=>vopt e mx len fun m=>0<=l/\l<=r/\r<=m/\m<=len/\(∃els,(h n).row=some (esz,els)) /\
    K (.ms n (off+l.toNat) (r-l).toNat) h
  | _=>False
 | .nilq neg x=>match x.get e with
  | .nil=>K (.bool (!neg)) h
  | .sl (_::_)=>K (.bool neg) h
  | .sl []=>K (.bool true) h/\K (.bool false) h
  | _=>False
 | .slz x esz=>match x.get e with
  | .nil=>∀n,pc h n->K (.ms n 0 0) (aD h n (.arr esz []))
  | .sl _=>∀n,pc h n->K (.ms n 0 0) (aD h n (.arr esz []))
  | .ms m _ _=>(∃els,(h m).row=some (esz,els))/\∀n,pc h n->K (.ms n 0 0) (aD h n (.arr esz []))
  | _=>False
 | .L0 x n=>match x.get e with
  | .ptr m i j=>match h m with
   | .box (.agg cs)=>i=0/\0<n/\n<=1000000/\j+n<=cs.length/\(∀d,d∈(cs.drop j).take n->d.vone=true)/\K (.sl ((cs.drop j).take n)) (aD h m .dead)
   | _=>False
  | _=>False
 | .mkc bytes len cap=>vint (len.get e) fun l=>vint (cap.get e) fun c=>0<=l/\l<=c/\c*bytes<=140737488355328/\c<=9223372036854775807/\K .undef h
 | .b2s x=>velems 1 (x.get e) h fun ys=>(∀y∈ys,aN y)/\match u8L ys with
  | some ns=>K (.str (strOf ns)) h
  | none=>False
 | .sslc x lo hi=>match x.get e with
  | .str s=>vopt e lo 0 fun l=>vopt e hi s.size fun r=>0<=l/\l<=r/\r<=s.size/\K (.str (s.extract l.toNat r.toNat)) h
  | _=>False
 | .app s x esz bytes _=>velems esz (x.get e) h fun ys=>(∀y∈ys,aN y)/\match s.get e with
  | .nil=>(ys.length*bytes<=140737488355328/\ys.length<=9223372036854775807)/\∀n,pc h n->K (.ms n 0 ys.length) (aD h n (.arr esz ys))
  | .ms m off len=>∃els,AG h m esz els/\off+len=els.length/\((len+ys.length)*bytes<=140737488355328/\len+ys.length<=9223372036854775807) /\
    ∀n,pc h n->K (.ms n 0 (len+ys.length)) (aD (aD h m .dead) n (.arr esz (els.drop off++ys))) /\
     (off≠0->K (.ms n off (len+ys.length)) (aD (aD h m .dead) n (.arr esz (els++ys))))
  | _=>False
 | .Fi d s esz=>velems esz (s.get e) h fun ys=>(∀y∈ys,aN y)/\match d.get e with
  | .ms m off len=>∃els,h m=.arr esz els/\off+len<=els.length /\
    K (.int .i64 (min ys.length len:Nat)) (aD h m (.arr esz (els.take off++ys.take len++els.drop (off+min ys.length len))))
  | _=>False
 | .call f args=>ai P f (args.map (·.get e)) h K
 | .callv x args=>match x.get e with
  | .fn f a b=>fc P f=true/\ai P f (a++args.map (·.get e)++b) h K
  | .yld n=>(∃st B,h n=.lp st B)/\o7 P n (args.map (·.get e)) h K
  | _=>False
 | .mkf f a b=>K (.fn f (a.map (·.get e)) (b.map (·.get e))) h
 | .mn x y=>match x.get e,y.get e with
  | .int k a,.int k' b=>k=k'/\K (.int k (if b<a then b else a)) h
  | _,_=>False
 | .mx x y=>match x.get e,y.get e with
  | .int k a,.int k' b=>k=k'/\K (.int k (if a<b then b else a)) h
  | _,_=>False
 | .mn3 x y z=>match x.get e,y.get e,z.get e with
  | .int k a,.int k' b,.int k'' c=>k=k'/\k=k''/\K (.int k (min (min a b) c)) h
  | _,_,_=>False
 | .mx3 x y z=>match x.get e,y.get e,z.get e with
  | .int k a,.int k' b,.int k'' c=>k=k'/\k=k''/\K (.int k (max (max a b) c)) h
  | _,_,_=>False
 | .Ix kt=>∀n,pc h n->K (.mp n) (aD h n (.map kt []))
 | .look kt x k z ok=>kt.okB (k.get e)=true/\match x.get e with
  | .mp n=>match h n with
   | .map kt' ents=>kt'=kt/\K (if ok then .tup [(mget ents (k.get e)).getD z,.bool (mget ents (k.get e)).isSome] else(mget ents (k.get e)).getD z) h
   | _=>False
  | _=>False
 | .mupd kt x k v=>kt.okB (k.get e)=true/\(v.get e).one=true/\match x.get e with
  | .mp n=>match h n with
   | .map kt' ents=>kt'=kt/\K .undef (aD h n (.map kt (mset ents (k.get e) (v.get e))))
   | _=>False
  | _=>False
 | .dead=>False
def D.vd:D->Bool
 | .agg cs=>cs.all D.vone
 | d=>d.vone
def D.Il:D->Bool
 | .tup ds=>ds.all D.vd
 | d=>d.vd
def I1 (h:Heap) (l:List D):Prop:=∀d∈l,aN d/\mB h d/\(d.fz h).vd=true
theorem xo {h:Heap}{e:LEnv}{args:List Arg}:I1 h (args.map (·.get e)) ↔ ∀x∈args,aN (x.get e)/\mB h (x.get e)/\((x.get e).fz h).vd=true:=by
 simp only[I1,List.mem_map,forall_exists_index,and_imp,forall_apply_eq_imp_iff₂]
def aY (P:Program) (f:FuncId) (ds:List D) (K:D->Prop):Prop :=
 ∀(c:Ctx) (w:World) (vals:Array Value),(∀n,c.h n=.free)->c.hp=w.heap->av c->vals.size=ds.length ->
  (∀(i:Nat) (d:D),ds[i]?=some d->aB c d (vals.getD i Go.undef)) ->
  Calls P f vals w fun e w'=>∃(v:Value) (r:D),e=.returned v/\c.le ⟨c.ρ,c.X,c.h,w'.heap⟩/\WS w w'/\aB ⟨c.ρ,c.X,c.h,w'.heap⟩ r v/\r.Il=true/\K r
theorem aY.mono {P:Program}{f:FuncId}{ds:List D}{K K':D->Prop}(hk:∀r,K r->K' r) (hc:aY P f ds K):aY P f ds K':=by
 intro c w vals hh hp hr hs hv
 refine(hc c w vals hh hp hr hs hv).mono ?_
 rintro e w' ⟨v,r,r1,r2,r3,r4,r5,r6⟩
 exact⟨v,r,r1,r2,r3,r4,r5,hk _ r6⟩
def D.flatc:D->Bool
 | .int _ _=>true
 | .bool _=>true
 | .str _=>true
 | .nil=>true
 | .nilfn=>true
 | .nilmap=>true
 | .nilp=>true
 | _=>false
def D.E8:D->Bool
 | .agg cs=>cs.all D.flatc
 | d=>d.flatc
def D.flat:D->Bool
 | .tup ds=>ds.all D.E8
 | d=>d.E8
def Ov (h:Heap) (ns:List Nat):Prop:=∀n∈ns,∃esz els,h n=.frz esz els
def vcdOp (P:Program) (op:AOp) (K:D->Prop) (e:LEnv) (h:Heap):Prop :=
 match op with
 | .bldS _ esz len zero parts=>HQ len esz (parts.map fun p=>(p.1,p.2.get e))/\SA (parts.map fun p=>(p.1,p.2.get e))/\(∀y∈zero.cells,y.vone=true) /\
   K (.sl (setEls (List.replicate len zero) (parts.map fun p=>(p.1,p.2.get e))))
 | .call f args=>∃r,aY P f (args.map fun x=>(x.get e).fz h) (· = r)/\I1 h (args.map (·.get e))/\(r.flat=true\/Ov h (args.flatMap fun x=>(x.get e).nm))/\K r
 | .mk esz bytes zero len cap=>vint (len.get e) fun l=>vint (cap.get e) fun c=>(0<=l/\l<=c/\c*bytes<=140737488355328/\c<=9223372036854775807)/\(zero.cells.length=esz/\∀y∈zero.cells,y.vone=true)/\K (.sl (List.replicate l.toNat zero))
 | .fadd x off=>match x.get e with
  | .ptr n i j=>(h n).used=true/\K (.ptr n i (j+off))
  | .vp d j=>K (.vp d (j+off))
  | _=>False
 | .nilq neg x=>match x.get e with
  | .nil=>K (.bool (!neg))
  | .sl (_::_)=>K (.bool neg)
  | _=>False
 | op=>vcOp P op (fun d _=>K d) e h
def Arg.res (e:LEnv) (x:Arg):Arg:=.c (x.get e)
def AOp.res (e:LEnv):AOp->AOp
 | .mov x=>.mov (x.res e)
 | .pick c a b=>.pick (c.res e) (a.res e) (b.res e)
 | .bin op x y=>.bin op (x.res e) (y.res e)
 | .eqv n g ks x y=>.eqv n g ks (x.res e) (y.res e)
 | .un op x=>.un op (x.res e)
 | .conv k x=>.conv k (x.res e)
 | .ext x i=>.ext (x.res e) i
 | .fld x o n g=>.fld (x.res e) o n g
 | .bld z ps=>.bld z (ps.map fun p=>(p.1,p.2.1,p.2.2.res e))
 | .bldS fz n l z ps=>.bldS fz n l z (ps.map fun p=>(p.1,p.2.res e))
 | .len x=>.len (x.res e)
 | .slen x=>.slen (x.res e)
 | .fadd x o=>.fadd (x.res e) o
 | .iadd x i n=>.iadd (x.res e) (i.res e) n
 | .iadda x i l n=>.iadda (x.res e) (i.res e) l n
 | .sidx x i l n g=>.sidx (x.res e) (i.res e) l n g
 | .ld x n g=>.ld (x.res e) n g
 | .st x v n=>.st (x.res e) (v.res e) n
 | .alloc z=>.alloc z
 | .box x=>.box (x.res e)
 | .mk n b z l c=>.mk n b z (l.res e) (c.res e)
 | .zB x lo hi m3 n=>.zB (x.res e) (lo.map (·.res e)) (hi.map (·.res e)) (m3.map (·.res e)) n
 | .sslc x lo hi=>.sslc (x.res e) (lo.map (·.res e)) (hi.map (·.res e))
 | .slz x n=>.slz (x.res e) n
 | .L0 x n=>.L0 (x.res e) n
 | .b2s x=>.b2s (x.res e)
 | .mkc b x y=>.mkc b (x.res e) (y.res e)
 | .nilq b x=>.nilq b (x.res e)
 | .app s x n b z=>.app (s.res e) (x.res e) n b z
 | .Fi d s n=>.Fi (d.res e) (s.res e) n
 | .call f l=>.call f (l.map (·.res e))
 | .callv x l=>.callv (x.res e) (l.map (·.res e))
 | .mkf f a b=>.mkf f (a.map (·.res e)) (b.map (·.res e))
 | .mn x y=>.mn (x.res e) (y.res e)
 | .mx x y=>.mx (x.res e) (y.res e)
 | .mn3 x y z=>.mn3 (x.res e) (y.res e) (z.res e)
 | .mx3 x y z=>.mx3 (x.res e) (y.res e) (z.res e)
 | .Ix kt=>.Ix kt
 | .look kt x k z ok=>.look kt (x.res e) (k.res e) z ok
 | .mupd kt x k v=>.mupd kt (x.res e) (k.res e) (v.res e)
 | .dead=>.dead
theorem GH {e:LEnv}{a:Option Arg}{n:Nat}{Q:Int->Prop}:vopt [] (a.map (·.res e)) n Q=vopt e a n Q:=by cases a<;>rfl
theorem Cr {e:LEnv}{l:List Arg}:(l.map (·.res e)).map (·.get [])=l.map (·.get e):=by rw[List.map_map];rfl
theorem pe {P:Program}{op:AOp}{K:HKq}{e:LEnv}{h:Heap}:vcOp P (op.res e) K [] h=vcOp P op K e h:=by
 cases op with
 | bld z ps=>simp only[AOp.res,vcOp,List.map_map];rfl
 | bldS fz n l z ps=>simp only[AOp.res,vcOp,List.map_map,List.flatMap_map];rfl
 | zB x lo hi mx n=>simp only[AOp.res,vcOp,GH];rfl
 | sslc x lo hi=>simp only[AOp.res,vcOp,GH];rfl
 | call f l=>simp only[AOp.res,vcOp,Cr]
 | callv x l=>simp only[AOp.res,vcOp,Cr];rfl
 | mkf f a b=>simp only[AOp.res,vcOp,Cr]
 | _=>rfl
theorem Kx {P:Program}{op:AOp}{K:D->Prop}{e:LEnv}{h:Heap}:vcdOp P (op.res e) K [] h=vcdOp P op K e h:=by
 cases op with
 | bldS fz n l z ps=>simp only[AOp.res,vcdOp,List.map_map];rfl
 | call f l=>simp only[AOp.res,vcdOp,Cr,List.map_map,List.flatMap_map];rfl
 | fadd x o=>rfl
 | nilq b x=>rfl
 | mk n b z l c=>rfl
 | bld z ps=>exact pe (op:=.bld z ps) (K:=fun d _=>K d) (P:=P) (h:=h)
 | zB x lo hi mx n=>exact pe (op:=.zB x lo hi mx n) (K:=fun d _=>K d) (P:=P) (h:=h)
 | sslc x lo hi=>exact pe (op:=.sslc x lo hi) (K:=fun d _=>K d) (P:=P) (h:=h)
 | callv x l=>exact pe (op:=.callv x l) (K:=fun d _=>K d) (P:=P) (h:=h)
 | mkf f a b=>exact pe (op:=.mkf f a b) (K:=fun d _=>K d) (P:=P) (h:=h)
 | _=>rfl
def aa (P:Program) (op:AOp) (h:Heap) (K:HKq):Prop:=vcOp P op K [] h
def ae (P:Program) (op:AOp) (h:Heap) (K:D->Prop):Prop:=vcdOp P op K [] h
def movOf:AOp->Option Arg
 | .mov x=>some x
 | _=>none
theorem Dj {op:AOp}{x:Arg}(h:movOf op=some x):op=.mov x:=by cases op<;>simp[movOf]at h<;>rw[h]
def vguard (x:D) (want:Bool) (A:(HKq)->Prop) (h:Heap) (K:HKq):Prop :=
 match gv x with
 | some b=>(b=some want->A K)/\(b≠some want->K gU h)
 | none=>False
def aF (x:D) (want:Bool) (A:(D->Prop)->Prop) (K:D->Prop):Prop :=
 match gv x with
 | some b=>(b=some want->A K)/\(b≠some want->K gU)
 | none=>False
def aI (a b:List D):Prop:=a=b
def vcdOper (P:Program) (o:AOper) (K:LEnv->Heap->Prop) (e:LEnv) (h:Heap):Prop :=
 match o.guard with
 | none=>match movOf o.op with
  | some x=>K (e.put o.dst (x.get e)) h
  | none=>ae P (o.op.res e) h (fun d=>K (e.put o.dst d) h)
 | some (j,want)=>aF (e.get j) want (fun C=>ae P (o.op.res e) h C) fun d=>K (e.put o.dst d) h
theorem GJ {P:Program}{op:AOp}{K:HKq}{e:LEnv}{h:Heap}:aa P (op.res e) h K=vcOp P op K e h:=pe
theorem CI {P:Program}{op:AOp}{K:D->Prop}{e:LEnv}{h:Heap}:ae P (op.res e) h K=vcdOp P op K e h:=Kx
theorem qb {P:Program}{o:AOper}{K:LEnv->Heap->Prop}{e:LEnv}{h:Heap}:vcdOper P o K e h=match o.guard with
 | none=>vcdOp P o.op (fun d=>K (e.put o.dst d) h) e h
 | some (j,want)=>aF (e.get j) want (fun C=>vcdOp P o.op C e h) fun d=>K (e.put o.dst d) h:=by
 unfold vcdOper
 cases o.guard with
 | none =>
  simp only
  cases hm:movOf o.op with
  | some x=>rw[Dj hm];rfl
  | none=>simp only[CI]
 | some p=>simp only[CI]
def vcVals (P:Program):List AOper->(LEnv->Heap->Prop)->LEnv->Heap->Prop
 | [],K=>K
 | o::r,K=>vcdOper P o (vcVals P r K)
def sD (P:Program) (o:AOper) (K:LEnv->Heap->Prop) (e:LEnv) (h:Heap):Prop :=
 match o.guard with
 | none=>match movOf o.op with
  | some x=>K (e.put o.dst (x.get e)) h
  | none=>aa P (o.op.res e) h (fun d h'=>K (e.put o.dst d) h')
 | some (j,want)=>vguard (e.get j) want (fun C=>aa P (o.op.res e) h C) h fun d h'=>K (e.put o.dst d) h'
theorem fW {P:Program}{o:AOper}{K:LEnv->Heap->Prop}{e:LEnv}{h:Heap}:sD P o K e h=match o.guard with
 | none=>vcOp P o.op (fun d h'=>K (e.put o.dst d) h') e h
 | some (j,want)=>vguard (e.get j) want (fun C=>vcOp P o.op C e h) h fun d h'=>K (e.put o.dst d) h':=by
 unfold sD
 cases o.guard with
 | none =>
  simp only
  cases hm:movOf o.op with
  | some x=>rw[Dj hm];rfl
  | none=>simp only[GJ]
 | some p=>simp only[GJ]
def ve (P:Program):List AOper->(LEnv->Heap->Prop)->LEnv->Heap->Prop
 | [],K=>K
 | o::r,K=>sD P o (ve P r K)
def AR (P:Program):List AOper->LEnv->Heap->Prop
 | [],_,_=>True
 | b::r,e,h=>(match b.dst with
  | some s=>ae P (b.op.res e) h (fun d=>aI [d] [e.get s])
  | none=>True)/\AR P r e h
def eW (P:Program) (rev:List AOper):List AOper->(LEnv->Heap->Prop)->LEnv->Heap->Prop
 | [],K=>K
 | o::r,K=>sD P o fun e h=>AR P rev e h/\eW P rev r K e h
def vcTail (P:Program) (rev l:List AOper) (K:LEnv->Heap->Prop) (e:LEnv) (h:Heap):Prop :=
 match rev with
 | []=>ve P l K e h
 | b::r=>eW P (b::r) l K e h
def up (K:LEnv->Heap->Prop):Env->Heap->Prop:=fun t h=>∃e:LEnv,t=e.get/\K e h
def wV (id:Nat) (K:Nat->Prop):List Nat->Prop
 | []=>False
 | i::r=>(id=i/\K i)\/wV id K r
def zT (K:Prop):List Nat->Prop
 | []=>False
 | i::r=>(i=1000000/\K)\/zT K r
def rangeEnd (n:Nat) (exs:List Nat) (KN:Heap->Prop) (KE:Nat->Heap->Prop) (KR:Heap->Prop) (h:Heap):Prop :=
 match h n with
 | .lp .ready _=>KN (aD h n .dead)
 | .lp (.done (.exit id)) _=>wV id (fun i=>KE i (aD h n .dead)) exs
 | .lp (.done .ret) _=>zT (KR (aD h n .dead)) exs
 | _=>False
theorem sP {id:Nat}{K:Nat->Prop}:∀{l:List Nat},wV id K l->K id
 | [],h=>h.elim
 | i::r,h=>by
  rcases h with⟨rfl,h⟩|h
  ·exact h
  ·exact sP h
theorem vk {K:Prop}:∀{l:List Nat},zT K l->K
 | [],h=>h.elim
 | i::r,h=>by
  rcases h with⟨_,h⟩|h
  ·exact h
  ·exact vk h
abbrev LPost:=Ex->LEnv->Heap->Prop
def LPost.then (K:LEnv->Heap->Prop) (Q:LPost):LPost
 | .normal=>K
 | e=>Q e
def LPost.block (id:Nat) (Q:LPost):LPost
 | .exit id'=>fun t h=>if id'=id then Q .normal t h else Q (.exit id') t h
 | e=>Q e
def LPost.jump (l:Nat) (J:LEnv->Heap->Prop) (Q:LPost):LPost
 | .jump l'=>fun e h=>l'=l/\J e h
 | e=>Q e
def vcOpsX (P:Program):List AOper->(LEnv->Heap->Prop)->(LEnv->Heap->Prop)->LEnv->Heap->Prop
 | [],KN,_,e,h=>KN e h
 | o::r,KN,KP,e,h=>match o.op with
  | .call f args=>xG P f (args.map (·.get e)) h (fun d h'=>vcOpsX P r KN KP (e.put o.dst d) h') (fun h'=>KP e h')
  | op=>vcOp P op (fun d h'=>vcOpsX P r KN KP (e.put o.dst d) h') e h
def vcC (P:Program):ACode->LPost->LEnv->Heap->Prop
 | .skip,Q,e,h=>Q .normal e h
 | .seq a b,Q,e,h=>vcC P a (LPost.then (vcC P b Q) Q) e h
 | .seqj keep vars a b,Q,e,h=>∃J:HJq,(∀(f:Nat->D) h',J (vars.map f) h'->vcC P b Q (vars.map (fun v=>(v,f v))++keep.map (fun k=>(k,e.get k))) h') /\
   vcC P a (LPost.then (fun e' h'=>keep.map (LEnv.get e')=keep.map e.get/\J (vars.map (LEnv.get e')) h') Q) e h
 | .cond c a b,Q,e,h=>match c.get e with
  | .bool t=>(t=true->vcC P a Q e h)/\(t=false->vcC P b Q e h)
  | _=>False
 | .block id a,Q,e,h=>vcC P a (LPost.block id Q) e h
 | .exit id,Q,e,h=>Q (.exit id) e h
 | .ret,Q,e,h=>Q .ret e h
 | .loop keep vars a,Q,e,h=>∃(I:Nat->HJq) (n₀:Nat),I n₀ (vars.map e.get) h /\
   ∀n (f:Nat->D) h',I n (vars.map f) h' ->
    vcC P a (LPost.then (fun e' h''=>keep.map (LEnv.get e')=keep.map e.get/\∃m,m<n/\I m (vars.map (LEnv.get e')) h'') Q) (vars.map (fun v=>(v,f v))++keep.map (fun k=>(k,e.get k))) h'
 | .reg l,Q,e,h=>ve P l (Q .normal) e h
 | .dreg vals tail rev,Q,e,h=>vcVals P vals (fun e' h'=>vcTail P rev tail (Q .normal) e' h') e h
 | .range g ps keep exs a b,Q,e,h=>match g.get e with
  | .fn f fs cs=>fs=[]/\fc P f=true/\∀(n:Nat) (B:cV),pc h n->B.env=LEnv.get (keep.map fun k=>(k,e.get k))->B.ps=ps->ps.Nodup->(∀p∈ps,p<B.nt) ->
    (∀(Q:LPost) (e:LEnv) (h:Heap),vcC P a Q e h->o9 P B.nt B.assign (fun x=>up (Q x)) e.get h) ->
    (∀(Q:LPost) (e:LEnv) (h:Heap),vcC P b Q e h->o9 P B.nt B.body (fun x=>up (Q x)) e.get h) ->
    ai P f (.yld n::cs) (aD h n (.lp .ready B)) fun _ h' =>
     rangeEnd n exs (Q .normal (keep.map fun k=>(k,e.get k))) (fun i=>Q (.exit i) (keep.map fun k=>(k,e.get k))) (Q .ret (keep.map fun k=>(k,e.get k))) h'
  | _=>False
 | .frz a,Q,e,h=>∃ns:List Nat,vcC P a Q e (h.freezeAll ns)
 | .regx l,Q,e,h=>vcOpsX P l (Q .normal) (Q .pan) e h
 | .panr,Q,e,h=>∀e':LEnv,Q .pan e' h
 | .label _,Q,e,h=>Q .normal e h
 | .goto l,Q,e,h=>Q (.jump l) e h
 | .scope l keep vars a b,Q,e,h=>∃I:Nat->HJq,
   vcC P a (LPost.jump l (fun e' h'=>keep.map (LEnv.get e')=keep.map e.get/\∃m,I m (vars.map (LEnv.get e')) h') Q) e h /\
   ∀n (f:Nat->D) h',I n (vars.map f) h' ->
    vcC P b (LPost.jump l (fun e' h''=>keep.map (LEnv.get e')=keep.map e.get/\∃m,m<n/\I m (vars.map (LEnv.get e')) h'') Q) (vars.map (fun v=>(v,f v))++keep.map (fun k=>(k,e.get k))) h'
def ACode.after:ACode->Nat->Option ACode
 | .seq a b,l=>match a.after l with
  | some r=>some (.seq r b)
  | none=>b.after l
 | .seqj k v a b,l=>match a.after l with
  | some r=>some (.seqj k v r b)
  | none=>b.after l
 | .label l',l=>if l' == l then some .skip else none
 | _,_=>none
def ACode.label1:ACode->Option Nat
 | .seq a b|.seqj _ _ a b=>match a.label1 with
  | some l=>some l
  | none=>b.label1
 | .label l=>some l
 | _=>none
end Go.Am
namespace Go.Am
open Go
variable [bW]
variable {P:Program}{nt:Nat}
def D.ofVc:Value->Option D
 | .bool b=>some (.bool b)
 | .int k n=>some (.int k n)
 | .string s=>some (.str s)
 | .slice none 0 0=>some .nil
 | .nilFunc=>some .nilfn
 | .map none=>some .nilmap
 | .pointer none=>some .nilp
 | _=>none
def ofVs:List Value->Option (List D)
 | []=>some []
 | v::r=>(D.ofVc v).bind fun d=>(ofVs r).map (d :: ·)
def D.ofV:Value->Option D
 | .agg cs=>(ofVs cs.toList).map .agg
 | v=>D.ofVc v
theorem Df {v:Value}{d:D}(h:D.ofVc v=some d) (c:Ctx):aB c d v/\d.vone=true:=by
 unfold D.ofVc at h
 split at h<;>simp at h<;>subst h<;>exact⟨by constructor,rfl⟩
theorem De {vs:List Value}{ds:List D}(h:ofVs vs=some ds) (c:Ctx):ds.length=vs.length/\∀(i:Nat) (d:D),ds[i]?=some d->d.vone=true/\aB c d (vs.getD i Go.undef):=by
 induction vs generalizing ds with
 | nil=>simp[ofVs]at h;subst h;simp
 | cons v r ih =>
  simp only[ofVs]at h
  cases hv:D.ofVc v with
  | none=>simp[hv]at h
  | some d =>
   cases hr:ofVs r with
   | none=>simp[hv,hr]at h
   | some ds' =>
    simp[hv,hr]at h
    subst h
    obtain⟨h1,h2⟩:=ih hr
    refine⟨by simp[h1],fun i d' hd=>?_⟩
    cases i with
    | zero=>simp at hd;subst hd;obtain⟨p,q⟩:=Df hv c;exact⟨q,by simpa using p⟩
    | succ i=>simp at hd;simpa using h2 i d' hd
theorem aH (vs:Array Value) (i:Nat):vs.toList.getD i Go.undef=vs.getD i Go.undef:=by
 by_cases h:i<vs.size
 ·simp[Array.getD,h,List.getD]
 ·simp[Array.getD,h,List.getD]
theorem gC {v:Value}{d:D}(h:D.ofV v=some d) (c:Ctx):aB c d v:=by
 unfold D.ofV at h
 split at h
 ·rename_i cs
  cases hc:ofVs cs.toList with
  | none=>simp[hc]at h
  | some ds =>
   simp[hc]at h
   subst h
   obtain⟨h1,h2⟩:=De hc c
   exact .agg ds cs (by simpa using h1.symm) (fun i d hd=>D.jj (h2 i d hd).1) (fun i d hd=>by rw[<- aH];exact(h2 i d hd).2)
 ·exact(Df h c).1
theorem fG {v:Value}{d:D}(h:D.ofV v=some d):aN d:=by
 intro x hx
 unfold D.ofV at h
 split at h
 ·rename_i cs
  cases hc:ofVs cs.toList with
  | none=>simp[hc]at h
  | some ds =>
   simp[hc]at h
   subst h
   obtain⟨i,hi⟩:=aO hx
   exact D.jj ((De hc ⟨fun _=>none,⟨fun _=>False,0,[]⟩,fun _=>.free, #[]⟩).2 i x hi).1
 ·have:=(Df h ⟨fun _=>none,⟨fun _=>False,0,[]⟩,fun _=>.free, #[]⟩).2
  cases d<;>simp_all [D.cells,D.vone,D.one]
def cArg:Operand->Option Arg
 | .tmp i=>some (.t i)
 | .const v=>(D.ofV v).map .c
 | .func f=>some (.c (.fn f [] []))
 | .global g=>match bW.tab g with
  | some vs=>(ofVs vs.toList).map fun ds=>.c (.vp (.agg ds) 0)
  | none=>none
theorem aG {x:Operand}{y:Arg}(h:cArg x=some y){c:Ctx}{e:LEnv}{a:Act}(s:ot c nt e.get a):aB c (y.get e) (a.eval x):=by
 cases x with
 | tmp i=>simp[cArg]at h;subst h;exact s.rel i
 | const v =>
  simp only[cArg]at h
  cases hv:D.ofV v with
  | none=>simp[hv]at h
  | some d=>simp[hv]at h;subst h;exact gC hv c
 | func f=>simp[cArg]at h;subst h;exact .fn f [] [] #[] #[] rfl rfl (by simp) (by simp)
 | global g =>
  simp only[cArg]at h
  split at h
  ·rename_i vs ht
   cases hv:ofVs vs.toList with
   | none=>simp[hv]at h
   | some ds =>
    simp[hv]at h;subst h
    obtain⟨h1,h2,h3⟩:=s.glob g _ ht
    obtain⟨k1,k2⟩:=De hv c
    have hk:∀(k:Nat) (d:D),(D.agg ds).cells[k]?=some d->k<vs.size:=by
     intro k d hd
     have:=(ah.1 hd).1
     simp only[D.cells]at this
     rw[k1]at this
     simpa using this
    have:=aB.vp (c:=c) (.agg ds) 0 g 0 (fun k=>vs.getD k Go.undef) (fun k d hd=>D.jj (k2 k d hd).1) (fun k d hd=>by
     have hlt:=hk k d hd
     rw[Nat.zero_add]
     exact h1 k _ (by simp[Array.getD,hlt])) h2 h3 (fun k d hd=>by rw[<- aH];exact(k2 k d hd).2)
    exact this
  ·cases h
theorem LEnv.bf (e:LEnv) (dst:Option Nat) (d:D):(e.put dst d).get=Env.put e.get dst d:=by
 cases dst with
 | none=>rfl
 | some j=>funext i;simp[LEnv.put,LEnv.get,Env.put,aD]
def fv (P:Program) (nt:Nat) (o:Oper) (op:AOp):Prop :=
 ∀(K:HKq) (e:LEnv) (h:Heap),vcOp P op K e h->Ft P nt o (fun t' h'=>∃d,t'=(e.put o.dst d).get/\K d h') e.get h
theorem fv.pure {o:Oper}{op:AOp}(hd:∀i,o.dst=some i->i<nt)
  (hx:∀(K:HKq) (e:LEnv) (c:Ctx) (w:World) (a:Act),vcOp P op K e c.h->c.hp=w.heap->av c->ot c nt e.get a ->
   ∃v d,(execOp a.eval o).run P w=.ok (.value v) w/\aB c d v/\K d c.h):fv P nt o op:=by
 intro K e h hv hnd r c w a Q hh hp hr hs
 subst hh
 obtain⟨v,d,hrun,hrel,hk⟩:=hx K e c w a hv hp hr hs
 refine iC hnd hrun ?_
 exact Fin.here rfl hp hr (hs.put hd hrel) ⟨d,by rw[LEnv.bf],hk⟩
theorem fv.unit {o:Oper}{op:AOp}(hx:∀(K:HKq) (e:LEnv) (c:Ctx) (w:World) (a:Act),vcOp P op K e c.h->c.hp=w.heap->av c->ot c nt e.get a ->
   ∃v w' ρ h' d,(execOp a.eval o).run P w=.ok v w'/\(v=.skip/\o.dst=none\/∃x,v=.value x/\(∀i,o.dst=some i->i<nt)/\aB ⟨ρ,c.X,h',w'.heap⟩ d x) /\
    c.le ⟨ρ,c.X,h',w'.heap⟩/\av ⟨ρ,c.X,h',w'.heap⟩/\WS w w'/\K d h'):fv P nt o op:=by
 intro K e h hv hnd r c w a Q hh hp hr hs
 subst hh
 obtain⟨v,w',ρ,h',d,hrun,hrel,hle,hr',hws,hk⟩:=hx K e c w a hv hp hr hs
 refine iC hnd hrun ?_
 rcases hrel with⟨rfl,hdst⟩|⟨x,rfl,hd,hx⟩
 ·refine⟨ρ,(e.put o.dst d).get,h',hle,hr',hws,?_,d,rfl,hk⟩
  simp only[hdst,Act.put]
  exact hs.mono hle
 ·exact⟨ρ,_,h',hle,hr',hws,(hs.mono hle).put hd hx,d,by rw[LEnv.bf],hk⟩
theorem Qy {o:Oper}{x:Operand}{y:Arg}(ho:o.op=.move x\/o.op=.assign x) (hx:cArg x=some y) (hd:∀i,o.dst=some i->i<nt):fv P nt o (.mov y):=by
 refine fv.pure hd fun K e c w a hv _ _ hs=>⟨a.eval x,y.get e,?_,aG hx hs,hv⟩
 unfold execOp
 rcases ho with ho|ho<;>simp[ho]
theorem Rn {o:Oper}{x y z:Operand}{x' y' z':Arg}(ho:o.op=.pick x y z) (hx:cArg x=some x') (hy:cArg y=some y') (hz:cArg z=some z')
  (hd:∀i,o.dst=some i->i<nt):fv P nt o (.pick x' y' z'):=by
 refine fv.pure hd fun K e c w a hv _ _ hs=>?_
 have rx:=aG hx hs
 have ry:=aG hy hs
 have rz:=aG hz hs
 simp only[vcOp]at hv
 cases hg:x'.get e<;>simp only[hg]at hv rx<;>try exact hv.elim
 rename_i t
 generalize hvx:a.eval x=vx at rx
 cases rx
 refine⟨if t then a.eval y else a.eval z,_,?_,?_,hv⟩
 ·simp[execOp,ho,hvx,asBool]
 ·cases t
  ·exact rz
  ·exact ry
theorem Tq {o:Oper}{op:BinOp}{t t':TypeId}{x y:Operand}{x' y':Arg}(ho:o.op=.binOp op t x y t') (hx:cArg x=some x') (hy:cArg y=some y')
  (hd:∀i,o.dst=some i->i<nt):fv P nt o (.bin op x' y'):=by
 refine fv.pure hd fun K e c w a hv _ _ hs=>?_
 have rx:=aG hx hs
 have ry:=aG hy hs
 simp only[vcOp]at hv
 generalize hgx:x'.get e=dx at hv rx
 generalize hgy:y'.get e=dy at hv ry
 generalize hvx:a.eval x=vx at rx
 generalize hvy:a.eval y=vy at ry
 unfold vbin at hv
 cases dx<;>try exact hv.elim
 ·rename_i k m
  cases dy<;>try exact hv.elim
  rename_i k' n
  cases rx
  cases ry
  cases op<;>simp only at hv
  case add=>obtain⟨rfl,hv⟩:=hv;refine⟨_,_,?_,.int _ _,hv⟩;simp[execOp,ho,hvx,hvy,eqGuard,binOp,Op.intArith]
  case sub=>obtain⟨rfl,hv⟩:=hv;refine⟨_,_,?_,.int _ _,hv⟩;simp[execOp,ho,hvx,hvy,eqGuard,binOp,Op.intArith]
  case mul=>obtain⟨rfl,hv⟩:=hv;refine⟨_,_,?_,.int _ _,hv⟩;simp[execOp,ho,hvx,hvy,eqGuard,binOp,Op.intArith]
  case quo=>obtain⟨rfl,hne,hv⟩:=hv;refine⟨_,_,?_,.int _ _,hv⟩;simp[execOp,ho,hvx,hvy,eqGuard,binOp,Op.intDiv,hne]
  case rem=>obtain⟨rfl,hne,hv⟩:=hv;refine⟨_,_,?_,.int _ _,hv⟩;simp[execOp,ho,hvx,hvy,eqGuard,binOp,Op.intDiv,hne]
  case and=>obtain⟨rfl,hv⟩:=hv;refine⟨_,_,?_,.int _ _,hv⟩;simp[execOp,ho,hvx,hvy,eqGuard,binOp,Op.intBits,ibits]
  case or=>obtain⟨rfl,hv⟩:=hv;refine⟨_,_,?_,.int _ _,hv⟩;simp[execOp,ho,hvx,hvy,eqGuard,binOp,Op.intBits,ibits]
  case xor=>obtain⟨rfl,hv⟩:=hv;refine⟨_,_,?_,.int _ _,hv⟩;simp[execOp,ho,hvx,hvy,eqGuard,binOp,Op.intBits,ibits]
  case andNot=>obtain⟨rfl,hv⟩:=hv;refine⟨_,_,?_,.int _ _,hv⟩;simp[execOp,ho,hvx,hvy,eqGuard,binOp,Op.intBits,ibits]
  case shl=>obtain⟨hnn,hv⟩:=hv;refine⟨_,_,?_,.int _ _,hv⟩;simp[execOp,ho,hvx,hvy,eqGuard,binOp,Op.shift,RO,show ¬n<0 by omega]
  case shr=>obtain⟨hnn,hv⟩:=hv;refine⟨_,_,?_,.int _ _,hv⟩;simp[execOp,ho,hvx,hvy,eqGuard,binOp,Op.shift,G6,show ¬n<0 by omega]
  all_goals
   obtain⟨rfl,hv⟩:=hv;refine⟨_,_,?_,.bool _,hv⟩
   simp[execOp,ho,hvx,hvy,eqGuard,binOp,Op.intCmp]
   try (rw[Bool.eq_iff_iff];simp)
 ·rename_i s
  cases dy<;>try exact hv.elim
  rename_i s'
  cases rx
  cases ry
  cases op<;>simp only at hv
  case add =>
   obtain⟨hnn,hv⟩:=hv;refine⟨_,_,?_,.str _,hv⟩
   have hmax:¬((s.size+s'.size:Nat):Int)>IntKind.i64.max:=by
    have:IntKind.i64.max=9223372036854775807:=by decide
    omega
   simp only[execOp,ho,hvx,hvy,eqGuard,binOp,Op.stringOp,if_neg hmax]
   rfl
  case eql=>refine⟨_,_,?_,.bool _,hv⟩;simp[execOp,ho,hvx,hvy,eqGuard,binOp,Op.stringOp]
  case neq=>refine⟨_,_,?_,.bool _,hv⟩;simp[execOp,ho,hvx,hvy,eqGuard,binOp,Op.stringOp]
  all_goals exact hv.elim
theorem zP {t el:TypeId}(hu:P.underlying t=some (.slice el)) (p:Option Addr) (l k l' k':Nat) (w:World):∀n,(Op.equalIn (n+1) t (.slice p l k) (.slice none l' k')).run P w=.ok p.isNone w:=by
 intro n
 cases p<;>simp[Op.equalIn,Sem.run_bind,Result.andThen,run_underlying hu]
theorem MD (neg:Bool){o:Oper}{t t' el:TypeId}{x y:Operand}{x':Arg}(ho:o.op=.binOp (if neg then .neq else .eql) t x y t') (hx:cArg x=some x') (hy:cArg y=some (.c .nil))
  (hd:∀i,o.dst=some i->i<nt) (hu:P.underlying t=some (.slice el)):fv P nt o (.nilq neg x'):=by
 refine fv.pure hd fun K e c w a hv _ _ hs=>?_
 have rx:=aG hx hs
 have ry:=aG hy hs
 simp only[vcOp]at hv
 generalize hgx:x'.get e=dx at hv rx
 generalize hvx:a.eval x=vx at rx
 generalize hvy:a.eval y=vy at ry
 simp only[Arg.get]at ry
 cases ry
 cases dx<;>try exact hv.elim
 ·cases rx
  refine⟨_,_,?_,.bool _,hv⟩
  have he:=zP (P:=P) hu none 0 0 0 0 w 9999
  cases neg
  ·simp only[execOp,ho,hvx,hvy,if_false,aE,eqGuard,binOp,Op.equal,Op.maxDepth]
   simp[he]
  ·simp only[execOp,ho,hvx,hvy,if_true,eqGuard,binOp,Op.equal,Op.maxDepth]
   simp[he]
 ·rename_i xs
  cases xs with
  | nil =>
   generalize hl:([]:List D)=l at rx
   cases rx with
   | sl _ b o' cap esz f hne=>exact absurd hl.symm hne
   | lD p cap hm =>
    have he:=zP (P:=P) hu p 0 cap 0 0 w 9999
    refine⟨_,.bool (p.isNone != neg),?_,.bool _,by cases (p.isNone != neg);exact hv.2;exact hv.1⟩
    cases neg
    ·simp only[execOp,ho,hvx,hvy,if_false,aE,eqGuard,binOp,Op.equal,Op.maxDepth]
     simp[he]
    ·simp only[execOp,ho,hvx,hvy,if_true,eqGuard,binOp,Op.equal,Op.maxDepth]
     simp[he]
  | cons d r =>
   simp only at hv
   generalize hl:d::r=l at rx
   cases rx with
   | lD p cap hm=>cases hl
   | sl _ b o' cap esz f hne hc hm he hlen hone hcell hown hrel =>
    refine⟨_,_,?_,.bool _,hv⟩
    have he:=zP (P:=P) hu (some ⟨b,o',none⟩) l.length cap 0 0 w 9999
    cases neg
    ·simp only[execOp,ho,hvx,hvy,if_false,aE,eqGuard,binOp,Op.equal,Op.maxDepth]
     simp[he]
    ·simp only[execOp,ho,hvx,hvy,if_true,eqGuard,binOp,Op.equal,Op.maxDepth]
     simp[he]
end Go.Am
namespace Go.Am
open Go
variable [bW]
variable {P:Program}{nt:Nat}
def Mem (c:Ctx) (b o:Nat) (cs:List D):Prop :=
 ∀(k:Nat) (d:D),cs[k]?=some d->d.one=true/\∃v,cellOf c.hp b (o+k)=some v/\aB c d v
theorem M9 {c:Ctx}{d:D}{j:Nat}{v:Value}(h:aB c (.vp d j) v):∃b o,v=.pointer (some ⟨b,o+j,none⟩)/\Mem c b o d.cells:=by
 cases h with
 | vp e j b o f hone hcell hown hb hrel=>exact⟨b,o,rfl,fun k d hd=>⟨hone k d hd,f k,hcell k d hd,hrel k d hd⟩⟩
theorem fy {hp:Array Obj}{g:Nat}{cur:Array Value}{ty:TypeId}{fr:Nat×Nat}(hg:hp[g]?=some (.cells cur ty fr)){k:Nat}(hk:k<cur.size) :
  cellOf hp g k=some (cur.getD k Go.undef):=by
 simp[cellOf,hg,Array.getD,hk]
theorem FN {c:Ctx}(hr:av c){n i j:Nat}{d:D}(hn:c.h n=.box d){v:Value}(h:aB c (.ptr n i j) v) :
  ∃g,v=.pointer (some ⟨g,j,none⟩)/\i=0/\c.ρ n=some g/\Mem c g 0 d.cells:=by
 have hs:=hr.slot n
 rw[hn]at hs
 obtain⟨g,cur,ty,hρ,hg,hsz,hcells⟩:=hs
 cases h with
 | ptrDead _ _ _ _ _ hd=>rw[hn]at hd;cases hd
 | ptrRow _ _ _ g' esz els hrow _ _=>rw[hn]at hrow;cases hrow
 | ptrBox _ _ g' v' hb hρ' =>
  rw[hρ]at hρ'
  cases hρ'
  refine⟨g,rfl,rfl,hρ,fun k x hx=>?_⟩
  have hk:k<cur.size:=by rw[hsz];exact(ah.1 hx).1
  exact⟨(hcells k x hx).1,_,by rw[Nat.zero_add];exact fy hg hk,(hcells k x hx).2⟩
theorem ft {els:List D}{i j:Nat}{e d:D}(he:els[i]?=some e) (hd:e.cells[j]?=some d):aM els i j=some d:=by
 simp[aM,he,hd]
theorem Lt {els:List D}{esz i j:Nat}{e d:D}(hlen:∀e∈els,e.cells.length=esz) (he:els[i]?=some e) (hd:e.cells[j]?=some d):i*esz+j<els.length*esz:=by
 have hi:=(ah.1 he).1
 have hj:=(ah.1 hd).1
 rw[hlen e (ak he)]at hj
 calc i*esz+j<i*esz+esz:=by omega
  _=(i+1)*esz:=by rw[Nat.add_mul];omega
  _<=els.length*esz:=Nat.mul_le_mul_right _ hi
theorem JE {c:Ctx}(hr:av c){n esz:Nat}{els:List D}(hn:(c.h n).row=some (esz,els)) :
  0<esz/\(∀e∈els,e.cells.length=esz)/\lA els/\((c.ρ n=none/\els=[])\/∃(g:Nat) (cur:Array Value) (ty:TypeId) (fr:Nat×Nat),c.ρ n=some g/\c.hp[g]?=some (.cells cur ty fr) /\
   els.length*esz<=cur.size/\∀i j d,aM els i j=some d->aB c d (cur.getD (i*esz+j) Go.undef)):=by
 have hs:=hr.slot n
 cases hx:c.h n with
 | arr e l =>
  rw[hx]at hs hn
  simp[Slot.row]at hn
  obtain⟨rfl,rfl⟩:=hn
  obtain⟨h1,h2,h3,h4⟩:=hs
  refine⟨h1,h2,h3,h4.imp id ?_⟩
  rintro⟨g,cur,ty,p1,p2,p3,p4⟩
  exact⟨g,cur,ty,(0,0),p1,p2,p3,p4⟩
 | frz e l =>
  rw[hx]at hs hn
  simp[Slot.row]at hn
  obtain⟨rfl,rfl⟩:=hn
  obtain⟨h1,h2,h3,h4⟩:=hs
  refine⟨h1,h2,h3,h4.imp id ?_⟩
  rintro⟨g,cur,ty,fr,p1,p2,p3,_,p4⟩
  exact⟨g,cur,ty,fr,p1,p2,p3,p4⟩
 | _=>rw[hx]at hn;simp[Slot.row]at hn
theorem mem_row {c:Ctx}(hr:av c){n i j esz:Nat}{els:List D}{d:D}(hn:(c.h n).row=some (esz,els)) (hd:els[i]?=some d){v:Value}(h:aB c (.ptr n i j) v) :
  ∃g,v=.pointer (some ⟨g,i*esz+j,none⟩)/\c.ρ n=some g/\Mem c g (i*esz) d.cells:=by
 obtain⟨_,hlen,hone,hm⟩:=JE hr hn
 cases h with
 | ptrDead _ _ _ _ _ hx=>rw[hx]at hn;simp[Slot.row]at hn
 | ptrBox _ _ g' v' hb _=>rw[hb]at hn;simp[Slot.row]at hn
 | ptrRow _ _ _ g' esz' els' hrow hρ' hi =>
  rw[hn]at hrow
  simp at hrow
  obtain⟨rfl,rfl⟩:=hrow
  rcases hm with⟨hρ,_⟩|⟨g,cur,ty,fr,hρ,hg,hsz,hcells⟩
  ·rw[hρ]at hρ';cases hρ'
  ·rw[hρ]at hρ'
   cases hρ'
   refine⟨_,rfl,hρ,fun k x hx=>?_⟩
   have hlt:=Lt hlen hd hx
   exact⟨hone i k x (ft hd hx),_,fy hg (by omega),hcells i k x (ft hd hx)⟩
structure D6 (P:Program) (t:TypeId) (size:Nat) (agg:Bool):Prop where
 info:(P.info? t).map (·.size)=some size
 und:∃d,P.underlying t=some d/\agg=(match d with|.struct _=>true|.array _ _=>true|_=>false)
theorem run_typeInfo {t:TypeId}{i:TypeInfo}(h:P.info? t=some i) (w:World):(typeInfo t).run P w=.ok i w:=by
 unfold typeInfo program
 simp[Sem.run,h]
theorem run_sizeOf {t:TypeId}{size:Nat}(h:(P.info? t).map (·.size)=some size) (w:World):(sizeOf t).run P w=.ok size w:=by
 cases hi:P.info? t with
 | none=>simp[hi]at h
 | some i =>
  simp[hi]at h
  unfold sizeOf
  simp[run_typeInfo hi,h]
theorem EV {t:TypeId}{size:Nat}{agg:Bool}(h:D6 P t size agg) (w:World):(isAgg t).run P w=.ok agg w:=by
 obtain⟨d,hd,ha⟩:=h.und
 unfold isAgg
 simp only[Sem.run_bind,run_underlying hd]
 subst ha
 cases d<;>rfl
theorem EB {w:World}{b o:Nat}{v:Value}(h:cellOf w.heap b o=some v):(load ⟨b,o,none⟩).run P w=.ok v w:=by
 have:w.cell? ⟨b,o,none⟩=some v:=by rw[pC];exact h
 simp[load,Sem.run,this]
theorem eH {α:Type}(cs:List α) (off size i:Nat):((cs.drop off).take size)[i]?=if i<size then cs[off+i]? else none:=by
 rw[List.getElem?_take]
 split<;>simp[List.getElem?_drop]
theorem qV {c:Ctx}{w:World}(hp:c.hp=w.heap){b o j size:Nat}{agg:Bool}{cs:List D}(hm:Mem c b o cs){t:TypeId}(ht:D6 P t size agg){K:D->Prop}
  (hv:vpart cs j size agg K):∃v d,(loadVar t ⟨b,o+j,none⟩).run P w=.ok v w/\aB c d v/\K d:=by
 unfold vpart at hv
 unfold loadVar
 simp only[Sem.run_bind,EV ht]
 cases agg with
 | true =>
  simp only[if_true]at hv
  obtain⟨hlen,hk⟩:=hv
  let vs:List Value:=(List.range size).map fun k=>(cellOf w.heap b (o+(j+k))).getD Go.undef
  have hvs:vs.length=size:=by simp[vs]
  have hget:∀k,k<size->∃d,cs[j+k]?=some d/\vs[k]?=some ((cellOf w.heap b (o+(j+k))).getD Go.undef):=by
   intro k hk
   exact⟨cs[j+k],by simp[show j+k<cs.length by omega],by simp[vs,hk]⟩
  have hcell:∀(k:Nat) (v:Value),vs[k]?=some v->w.cell? ((⟨b,o+j,none⟩:Addr).add k)=some v:=by
   intro k v hkv
   have hk:k<size:=by rw[<- hvs];exact(ah.1 hkv).1
   obtain⟨d,hd,hv'⟩:=hget k hk
   obtain⟨_,u,hu,_⟩:=hm (j+k) d hd
   rw[hp]at hu
   rw[hv',hu]at hkv
   simp at hkv
   subst hkv
   rw[Addr.add_lit,pC,show o+j+k=o+(j+k) by omega]
   exact hu
  have hrun:=run_loadCells_list (P:=P) (w:=w) ⟨b,o+j,none⟩ vs hcell
  rw[hvs]at hrun
  refine⟨.agg vs.toArray,.agg ((cs.drop j).take size),?_,?_,hk⟩
  ·simp[Result.andThen,run_sizeOf ht.info,hrun]
  ·refine .agg _ _ (by simp[hvs];omega) ?_ ?_
   ·intro i d hd
    rw[eH]at hd
    split at hd
    ·exact(hm _ _ hd).1
    ·cases hd
   ·intro i d hd
    rw[eH]at hd
    split at hd
    ·rename_i hi
     obtain⟨d',hd',hv'⟩:=hget i hi
     obtain⟨_,u,hu,hrel⟩:=hm (j+i) d hd
     rw[hp]at hu
     have:vs.toArray.getD i Go.undef=u:=by
      rw[<- aH]
      simp[List.getD,hv',hu]
     rw[this]
     exact hrel
    ·cases hd
 | false =>
  simp only[aE,if_false]at hv
  cases hd:cs[j]? with
  | none=>simp[hd]at hv
  | some d =>
   simp only[hd]at hv
   obtain⟨_,u,hu,hrel⟩:=hm j d hd
   rw[hp]at hu
   exact⟨u,d,by simp[Result.andThen,EB hu],hrel,hv⟩
end Go.Am
namespace Go.Am
open Go
variable [bW]
variable {P:Program}{nt:Nat}
theorem eY {c:Ctx}{k:IntKind}{n:Int}{v:Value}(h:aB c (.int k n) v):v=.int k n:=by cases h;rfl
theorem sO {c:Ctx}{b:Bool}{v:Value}(h:aB c (.bool b) v):v=.bool b:=by cases h;rfl
theorem x5 {c:Ctx}{s:ByteArray}{v:Value}(h:aB c (.str s) v):v=.string s:=by cases h;rfl
theorem UW {o:Oper}{op:UnOp}{t:TypeId}{x:Operand}{x':Arg}(ho:o.op=.unOp op t x) (hx:cArg x=some x') (hd:∀i,o.dst=some i->i<nt):fv P nt o (.un op x'):=by
 refine fv.pure hd fun K e c w a hv _ _ hs=>?_
 have rx:=aG hx hs
 simp only[vcOp]at hv
 generalize hgx:x'.get e=dx at hv rx
 generalize hvx:a.eval x=vx at rx
 unfold vun at hv
 split at hv
 ·cases rx;exact⟨_,_,by simp only[execOp,ho,hvx,Op.unary,Op.intArith];rfl,.int _ _,hv⟩
 ·cases rx;exact⟨_,_,by simp only[execOp,ho,hvx,Op.unary,Op.intBits];rfl,.int _ _,hv⟩
 ·cases rx;exact⟨_,_,by simp only[execOp,ho,hvx,Op.unary];rfl,.bool _,hv⟩
 ·exact hv.elim
theorem Rs {o:Oper}{src dst:TypeId}{x:Operand}{x':Arg}{ds:TypeDesc}{k:IntKind}(ho:o.op=.convert src dst x) (hx:cArg x=some x') (hd:∀i,o.dst=some i->i<nt)
  (hsrc:P.underlying src=some ds) (hdst:P.underlying dst=some (.int k)):fv P nt o (.conv k x'):=by
 refine fv.pure hd fun K e c w a hv _ _ hs=>?_
 have rx:=aG hx hs
 simp only[vcOp]at hv
 generalize hgx:x'.get e=dx at hv rx
 generalize hvx:a.eval x=vx at rx
 unfold vint at hv
 split at hv
 ·cases rx
  refine⟨_,_,?_,.int _ _,hv⟩
  simp[execOp,ho,hvx,convert,Sem.run_bind,run_underlying hsrc,run_underlying hdst,Conv.intToInt,Result.andThen]
 ·exact hv.elim
theorem Tm {o:Oper}{x:Operand}{x':Arg}{i:Nat}(ho:o.op=.extract x i) (hx:cArg x=some x') (hd:∀i,o.dst=some i->i<nt):fv P nt o (.ext x' i):=by
 refine fv.pure hd fun K e c w a hv _ _ hs=>?_
 have rx:=aG hx hs
 simp only[vcOp]at hv
 generalize hgx:x'.get e=dx at hv rx
 generalize hvx:a.eval x=vx at rx
 cases dx<;>try exact hv.elim
 rename_i ds
 cases hdi:ds[i]? with
 | none=>simp[hdi]at hv
 | some d =>
  simp only[hdi]at hv
  cases rx with
  | tup _ vs hsz hrel =>
   have hi:i<vs.size:=by rw[hsz];exact(ah.1 hdi).1
   refine⟨vs.getD i Go.undef,d,?_,hrel i d hdi,hv⟩
   simp[execOp,ho,hvx,Instr.extract,hi,Array.getD]
theorem x0 {c:Ctx}{w:World}{cs:List D}{vs:Array Value}(hsz:vs.size=cs.length) (hone:∀(i:Nat) (d:D),cs[i]?=some d->d.one=true)
  (hrel:∀(i:Nat) (d:D),cs[i]?=some d->aB c d (vs.getD i Go.undef)) {t:TypeId}{off size:Nat}{agg:Bool}(ht:D6 P t size agg) {K:D->Prop}
  (hv:vpart cs off size agg K):∃v d,(part t vs off).run P w=.ok v w/\aB c d v/\K d:=by
 unfold vpart at hv
 unfold part
 simp only[Sem.run_bind,EV ht]
 cases agg with
 | true =>
  simp only[if_true]at hv
  obtain⟨hlen,hk⟩:=hv
  refine⟨.agg (vs.extract off (off+size)),.agg ((cs.drop off).take size),by simp[Result.andThen,run_sizeOf ht.info],?_,hk⟩
  refine .agg _ _ (by simp;omega) ?_ ?_
  ·intro i d hd
   rw[eH]at hd
   split at hd
   ·exact hone _ _ hd
   ·cases hd
  ·intro i d hd
   rw[eH]at hd
   split at hd
   ·rename_i hi
    have h1:=hrel _ _ hd
    have hlt:=(ah.1 hd).1
    have:(vs.extract off (off+size)).getD i Go.undef=vs.getD (off+i) Go.undef:=by
     simp[Array.getD,show i<min (off+size) vs.size-off by omega,show off+i<vs.size by omega]
    rw[this]
    exact h1
   ·cases hd
 | false =>
  simp only[aE,if_false]at hv
  cases hd:cs[off]? with
  | none=>simp[hd]at hv
  | some d =>
   simp only[hd]at hv
   have hlt:=(ah.1 hd).1
   refine⟨vs.getD off Go.undef,d,?_,hrel _ _ hd,hv⟩
   simp[Result.andThen,show off<vs.size by omega,Array.getD]
theorem Tl {o:Oper}{t:TypeId}{x:Operand}{x':Arg}{f:Nat}{fs:Array Field}{fd:Field}{size:Nat}{agg:Bool}(ho:o.op=.field t x f) (hx:cArg x=some x')
  (hd:∀i,o.dst=some i->i<nt) (hu:P.underlying t=some (.struct fs)) (hf:fs[f]?=some fd) (ht:D6 P fd.type size agg):fv P nt o (.fld x' fd.offset size agg):=by
 refine fv.pure hd fun K e c w a hv _ _ hs=>?_
 have rx:=aG hx hs
 simp only[vcOp]at hv
 generalize hgx:x'.get e=dx at hv rx
 generalize hvx:a.eval x=vx at rx
 cases dx<;>try exact hv.elim
 rename_i cs
 cases rx with
 | agg _ vs hsz hone hrel =>
  obtain⟨v,d,h1,h2,h3⟩:=x0 (P:=P) (w:=w) hsz hone hrel ht hv
  refine⟨v,d,?_,h2,h3⟩
  simp[execOp,ho,hvx,Instr.field,Sem.run_bind,run_underlying hu,hf,asAgg,Result.andThen,h1]
theorem UZ {o:Oper}{t:TypeId}{x:Operand}{x':Arg}{size:Nat}{agg:Bool}(ho:o.op=.load t x) (hx:cArg x=some x')
  (hd:∀i,o.dst=some i->i<nt) (ht:D6 P t size agg):fv P nt o (.ld x' size agg):=by
 refine fv.pure hd fun K e c w a hv hp hr hs=>?_
 have rx:=aG hx hs
 simp only[vcOp]at hv
 have fin:∀(b o' j:Nat) (cs:List D),a.eval x=.pointer (some ⟨b,o'+j,none⟩)->Mem c b o' cs->vpart cs j size agg (K · c.h) ->
   ∃v d,(execOp a.eval o).run P w=.ok (.value v) w/\aB c d v/\K d c.h:=by
  intro b o' j cs he hm hv
  obtain⟨v,d,h1,h2,h3⟩:=qV (P:=P) hp hm ht hv
  refine⟨v,d,?_,h2,h3⟩
  simp[execOp,ho,he,Instr.loadAt,Instr.sureAddr,Result.andThen,h1]
 generalize hgx:x'.get e=dx at hv rx
 cases dx<;>try exact hv.elim
 ·rename_i n i j
  cases hn:c.h n<;>simp only[hn]at hv<;>try exact hv.elim
  ·obtain⟨rfl,hv⟩:=hv
   obtain⟨g,he,_,_,hm⟩:=FN hr hn rx
   exact fin g 0 j _ (by rw[he];simp) hm hv
  ·obtain⟨hi,hv⟩:=hv
   rename_i esz els
   have hdd:els[i]?=some els[i]:=by simp[hi]
   obtain⟨g,he,_,hm⟩:=mem_row hr (by rw[hn];rfl) hdd rx
   exact fin g _ j _ he hm (hv _ hdd)
  ·obtain⟨hi,hv⟩:=hv
   rename_i esz els
   have hdd:els[i]?=some els[i]:=by simp[hi]
   obtain⟨g,he,_,hm⟩:=mem_row hr (by rw[hn];rfl) hdd rx
   exact fin g _ j _ he hm (hv _ hdd)
 ·rename_i d j
  obtain⟨b,o',he,hm⟩:=M9 rx
  exact fin b o' j _ he hm hv
theorem Ng {c:Ctx}{n i j:Nat}{v:Value}(hl:(c.h n).live=true) (h:aB c (.ptr n i j) v) :
  ∃b q,v=.pointer (some ⟨b,q+j,none⟩)/\∀k,aB c (.ptr n i k) (.pointer (some ⟨b,q+k,none⟩)):=by
 cases h with
 | ptrDead _ _ _ _ _ hd=>rw[hd]at hl;cases hl
 | ptrBox _ _ g d hb hρ=>exact⟨g,0,by simp,fun k=>by rw[Nat.zero_add];exact .ptrBox n k g d hb hρ⟩
 | ptrRow _ _ _ g esz els hrow hρ hi=>exact⟨g,i*esz,rfl,fun k=>.ptrRow n i k g esz els hrow hρ hi⟩
theorem GO {c:Ctx}{n i j:Nat}{v:Value}(hl:(c.h n).used=true) (h:aB c (.ptr n i j) v) :
  ∃b q,v=.pointer (some ⟨b,q,none⟩)/\∀k,aB c (.ptr n i (j+k)) (.pointer (some ⟨b,q+k,none⟩)):=by
 cases h with
 | ptrDead _ _ _ b o hd=>exact⟨b,o,rfl,fun k=>.ptrDead n i (j+k) b (o+k) hd⟩
 | ptrBox _ _ g d hb hρ=>exact⟨g,j,rfl,fun k=>.ptrBox n (j+k) g d hb hρ⟩
 | ptrRow _ _ _ g esz els hrow hρ hi=>exact⟨g,i*esz+j,rfl,fun k=>by rw[Nat.add_assoc];exact .ptrRow n i (j+k) g esz els hrow hρ hi⟩
theorem FA {c:Ctx}{d:D}{j:Nat}{v:Value}(h:aB c (.vp d j) v):∃b q,v=.pointer (some ⟨b,q+j,none⟩)/\∀k,aB c (.vp d k) (.pointer (some ⟨b,q+k,none⟩)):=by
 cases h with
 | vp e j b o f hone hcell hown hb hrel=>exact⟨b,o,rfl,fun k=>.vp d k b o f hone hcell hown hb hrel⟩
theorem Rr {o:Oper}{t:TypeId}{x:Operand}{x':Arg}{f:Nat}{fs:Array Field}{fd:Field}{size:Nat}(ho:o.op=.fieldAddr t x f) (hx:cArg x=some x')
  (hd:∀i,o.dst=some i->i<nt) (hu:P.underlying t=some (.struct fs)) (hf:fs[f]?=some fd) (ht:(P.info? fd.type).map (·.size)=some size) (hne:size≠0):fv P nt o (.fadd x' fd.offset):=by
 refine fv.pure hd fun K e c w a hv hp hr hs=>?_
 have rx:=aG hx hs
 simp only[vcOp]at hv
 have fin:∀(b q:Nat),a.eval x=.pointer (some ⟨b,q,none⟩)->(execOp a.eval o).run P w=.ok (.value (.pointer (some ⟨b,q+fd.offset,none⟩))) w:=by
  intro b q he
  simp[execOp,ho,he,Instr.fieldAt,Instr.sureAddr,Sem.run_bind,Result.andThen,run_underlying hu,hf,fieldPlace,run_sizeOf ht,hne,Addr.add_lit,Nat.add_assoc]
 generalize hgx:x'.get e=dx at hv rx
 cases dx<;>try exact hv.elim
 ·obtain⟨hl,hv⟩:=hv
  obtain⟨b,q,he,hk⟩:=GO hl rx
  exact⟨_,_,fin b q he,hk _,hv⟩
 ·obtain⟨b,q,he,hk⟩:=FA rx
  exact⟨_,_,fin b _ he,by rw[Nat.add_assoc];exact hk _,hv⟩
theorem Ro {o:Oper}{x:Operand}{x':Arg}(ho:o.op=.nilCheck x) (hx:cArg x=some x') (hd:∀i,o.dst=some i->i<nt):fv P nt o (.fadd x' 0):=by
 refine fv.pure hd fun K e c w a hv hp hr hs=>?_
 have rx:=aG hx hs
 simp only[vcOp]at hv
 have fin:∀(b q:Nat),a.eval x=.pointer (some ⟨b,q,none⟩)->(execOp a.eval o).run P w=.ok (.value (.pointer (some ⟨b,q+0,none⟩))) w:=by
  intro b q he
  simp[execOp,ho,he]
 generalize hgx:x'.get e=dx at hv rx
 cases dx<;>try exact hv.elim
 ·obtain⟨hl,hv⟩:=hv
  obtain⟨b,q,he,hk⟩:=GO hl rx
  exact⟨_,_,fin b q he,hk _,hv⟩
 ·obtain⟨b,q,he,hk⟩:=FA rx
  exact⟨_,_,fin b _ he,by rw[Nat.add_assoc];exact hk _,hv⟩
theorem OQ {o:Oper}{t elem:TypeId}{x i:Operand}{x' i':Arg}{len esz:Nat}(ho:o.op=.indexAddr t x i) (hx:cArg x=some x') (hi:cArg i=some i')
  (hd:∀i,o.dst=some i->i<nt) (hu:P.underlying t=some (.array len elem)) (ht:(P.info? elem).map (·.size)=some esz):fv P nt o (.iadda x' i' len esz):=by
 refine fv.pure hd fun K e c w a hv hp hr hs=>?_
 have rx:=aG hx hs
 have ri:=aG hi hs
 simp only[vcOp]at hv
 generalize hgi:i'.get e=di at hv ri
 generalize hvi:a.eval i=vi at ri
 unfold vint at hv
 split at hv
 case h_2=>exact hv.elim
 rename_i k n
 cases ri
 obtain⟨h0,h1,hv⟩:=hv
 have fin:∀(b q j:Nat),a.eval x=.pointer (some ⟨b,q+j,none⟩)->(execOp a.eval o).run P w=.ok (.value (.pointer (some ⟨b,q+(j+n.toNat*esz),none⟩))) w:=by
  intro b q j he
  have hc:(0<=n/\n<(len:Int)):=⟨h0,h1⟩
  simp[execOp,ho,he,hvi,Instr.indexAt,Instr.sureAddr,asIntOf,Sem.run_bind,Result.andThen,run_underlying hu,run_sizeOf ht,Addr.add_lit,Nat.add_assoc,hc]
 generalize hgx:x'.get e=dx at hv rx
 cases dx<;>try exact hv.elim
 ·obtain⟨hl,hv⟩:=hv
  obtain⟨b,q,he,hk⟩:=Ng hl rx
  exact⟨_,_,fin b q _ he,hk _,hv⟩
 ·obtain⟨b,q,he,hk⟩:=FA rx
  exact⟨_,_,fin b q _ he,hk _,hv⟩
theorem Tb {c:Ctx}{xs:List D}{v:Value}(h:aB c (.sl xs) v){i:Nat}{d:D}(hd:xs[i]?=some d) :
  ∃b o cap,v=.slice (some ⟨b,o,none⟩) xs.length cap/\aB c (.vp d 0) (.pointer (some ⟨b,o+i*d.cells.length,none⟩)):=by
 cases h with
 | lD p cap hm=>simp at hd
 | sl _ b o cap esz f hne hc hm he hlen hone hcell hown hrel =>
  have hl:=hlen d (ak hd)
  refine⟨b,o,cap,rfl,?_⟩
  rw[hl]
  have hb:b<c.hp.size:=by
   cases hcs:d.cells with
   | nil=>rw[hcs]at hl;simp at hl;omega
   | cons y ys=>exact Au (hcell i 0 y (ft hd (by simp[hcs])))
  refine aB.vp d 0 b (o+i*esz) (f i) (fun k x hx=>D.jj (hone i k x (ft hd hx))) (fun k x hx=>?_) hown hb (fun k x hx=>hrel i k x (ft hd hx))
  rw[Nat.add_assoc]
  exact hcell i k x (ft hd hx)
theorem Rq {o:Oper}{t elem:TypeId}{x i:Operand}{x' i':Arg}{esz:Nat}(ho:o.op=.indexAddr t x i) (hx:cArg x=some x') (hi:cArg i=some i')
  (hd:∀i,o.dst=some i->i<nt) (hu:P.underlying t=some (.slice elem)) (ht:(P.info? elem).map (·.size)=some esz):fv P nt o (.iadd x' i' esz):=by
 refine fv.pure hd fun K e c w a hv hp hr hs=>?_
 have rx:=aG hx hs
 have ri:=aG hi hs
 simp only[vcOp]at hv
 generalize hgi:i'.get e=di at hv ri
 generalize hvi:a.eval i=vi at ri
 unfold vint at hv
 split at hv
 case h_2=>exact hv.elim
 rename_i k n
 cases ri
 have fin:∀(b q len cap:Nat),0<=n->n<len->a.eval x=.slice (some ⟨b,q,none⟩) len cap->(execOp a.eval o).run P w=.ok (.value (.pointer (some ⟨b,q+n.toNat*esz,none⟩))) w:=by
  intro b q len cap h0 h1 he
  have hc:(0<=n/\n<(len:Int)):=⟨h0,h1⟩
  simp[execOp,ho,he,hvi,Instr.indexAt,asIntOf,Sem.run_bind,Result.andThen,run_underlying hu,run_sizeOf ht,Addr.add_lit,hc]
 generalize hgx:x'.get e=dx at hv rx
 cases dx<;>try exact hv.elim
 ·rename_i xs
  obtain⟨h0,h1,hv⟩:=hv
  have hlt:n.toNat<xs.length:=by omega
  have hdd:xs[n.toNat]?=some xs[n.toNat]:=by simp[hlt]
  obtain⟨hsz,hk⟩:=hv _ hdd
  obtain⟨b,q,cap,he,hrel⟩:=Tb rx hdd
  rw[hsz]at hrel
  exact⟨_,_,fin b q _ _ h0 h1 he,hrel,hk⟩
 ·rename_i m off len
  obtain⟨h0,h1,⟨els,hrow⟩,hk⟩:=hv
  generalize hvx:a.eval x=vx at rx
  cases rx with
  | msDead _ _ _ _ _ _ hdd=>rw[hdd]at hrow;simp[Slot.row]at hrow
  | msNil _ _ _ _ _=>exact absurd h1 (by omega)
  | msE _ _ _ _ _ _=>exact absurd h1 (by omega)
  | ms _ _ _ g esz' cap els' cur ty fr hrow' hρ hl hg hsz hc hm =>
   rw[hrow]at hrow'
   simp at hrow'
   obtain⟨rfl,rfl⟩:=hrow'
   refine⟨_,_,fin g _ _ _ h0 h1 hvx,?_,hk⟩
   have:=aB.ptrRow (c:=c) m (off+n.toNat) 0 g esz els hrow hρ (by omega)
   rw[Nat.add_zero,Nat.add_mul]at this
   exact this
end Go.Am
namespace Go.Am
open Go
variable [bW]
variable {P:Program}{nt:Nat}
theorem JI {c:Ctx}{d:D}{v:Value}(h:aB c d v) (h1:d.one=true):v.cells = #[v]/\v.oneCell'=true:=by
 cases h<;>first|exact⟨rfl,rfl⟩|(simp[D.one]at h1;done)
structure fV (c:Ctx) (ds:List D) (vs:List Value):Prop where
 len:vs.length=ds.length
 rel:∀(i:Nat) (d:D),ds[i]?=some d->d.one=true/\aB c d (vs.getD i Go.undef)
theorem cW {c:Ctx}{d:D}{v:Value}(h:aB c d v) (h1:aN d):fV c d.cells v.cells.toList:=by
 by_cases ha:d.one=true
 ·have:d.cells=[d]:=by cases d<;>simp_all [D.one,D.cells]
  obtain⟨e1,_⟩:=JI h ha
  rw[this,e1]
  refine⟨rfl,fun i x hx=>?_⟩
  cases i with
  | zero=>simp at hx;subst hx;exact⟨ha,by simpa using h⟩
  | succ i=>simp at hx
 ·cases d with
  | agg cs =>
   cases h with
   | agg _ vs hsz hone hrel =>
    exact⟨by simpa[Value.cells,D.cells] using hsz,fun i x hx=>⟨hone i x hx,by rw[show Value.cells (.agg vs)=vs from rfl,aH];exact hrel i x hx⟩⟩
  | tup ds=>exact absurd (h1 (.tup ds) (by simp[D.cells])) (by simp[D.one])
  | undef=>exact absurd (h1 .undef (by simp[D.cells])) (by simp[D.one])
  | _=>simp[D.one]at ha
theorem fV.O2 {c:Ctx}{ds:List D}{vs:List Value}(h:fV c ds vs):∀v∈vs,v.oneCell'=true:=by
 intro v hv
 obtain⟨i,hi⟩:=aO hv
 have hlt:i<ds.length:=by rw[<- h.len];exact(ah.1 hi).1
 obtain⟨h1,h2⟩:=h.rel i ds[i] (by simp[hlt])
 have:vs.getD i Go.undef=v:=by simp[List.getD,hi]
 rw[this]at h2
 exact(JI h2 h1).2
theorem fV.mono {c c':Ctx}(hle:c.le c'){ds:List D}{vs:List Value}(h:fV c ds vs):fV c' ds vs :=
 ⟨h.len,fun i d hd=>⟨(h.rel i d hd).1,(h.rel i d hd).2.mono hle⟩⟩
theorem fV.append {c:Ctx}{ds es:List D}{vs us:List Value}(h:fV c ds vs) (k:fV c es us):fV c (ds++es) (vs++us):=by
 refine⟨by simp[h.len,k.len],fun i d hd=>?_⟩
 by_cases hi:i<ds.length
 ·rw[List.getElem?_append_left hi]at hd
  have:(vs++us).getD i Go.undef=vs.getD i Go.undef:=by simp[List.getD,List.getElem?_append_left (show i<vs.length by rw[h.len];exact hi)]
  rw[this]
  exact h.rel i d hd
 ·rw[List.getElem?_append_right (by omega)]at hd
  have:(vs++us).getD i Go.undef=us.getD (i-ds.length) Go.undef:=by
   simp[List.getD,List.getElem?_append_right (show vs.length<=i by rw[h.len];omega),h.len]
  rw[this]
  exact k.rel _ d hd
theorem fV.take {c:Ctx}{ds:List D}{vs:List Value}(h:fV c ds vs) (n:Nat):fV c (ds.take n) (vs.take n):=by
 refine⟨by simp[h.len],fun i d hd=>?_⟩
 rw[List.getElem?_take]at hd
 split at hd
 ·rename_i hi
  have:(vs.take n).getD i Go.undef=vs.getD i Go.undef:=by simp[List.getD,hi]
  rw[this]
  exact h.rel i d hd
 ·cases hd
theorem fV.drop {c:Ctx}{ds:List D}{vs:List Value}(h:fV c ds vs) (n:Nat):fV c (ds.drop n) (vs.drop n):=by
 refine⟨by simp[h.len],fun i d hd=>?_⟩
 rw[List.getElem?_drop]at hd
 have:(vs.drop n).getD i Go.undef=vs.getD (n+i) Go.undef:=by simp[List.getD,List.getElem?_drop]
 rw[this]
 exact h.rel _ d hd
theorem Nq (cells:List Value):∀(new:List Value) (off k:Nat) (cs:Array Value),cs.toList=cells->off+k+new.length<=cells.length ->
  (List.foldl (fun(cs:Array Value) (p:Value×Nat)=>cs.setIfInBounds (off+p.2) p.1) cs (new.zipIdx k)).toList=cells.take (off+k)++new++cells.drop (off+k+new.length):=by
 intro new
 induction new generalizing cells with
 | nil=>intro off k cs hc _;simp[hc]
 | cons v r ih =>
  intro off k cs hc hl
  simp only[List.zipIdx_cons,List.foldl_cons]
  simp only[List.length_cons]at hl
  rw[ih (cells.set (off+k) v) off (k+1) _ (by simp[hc]) (by simp;omega)]
  have e1:(cells.set (off+k) v).take (off+(k+1))=cells.take (off+k)++[v]:=by
   rw[show off+(k+1)=(off+k)+1 by omega,List.take_succ_eq_append_getElem (by simp;omega),List.take_set_of_le (Nat.le_refl _)]
   simp
  have e2:(cells.set (off+k) v).drop (off+(k+1)+r.length)=cells.drop (off+(k+1)+r.length):=List.drop_set_of_lt (by omega)
  rw[e1,e2,show off+k+(v::r).length=off+(k+1)+r.length by simp;omega]
  simp
theorem DB {c:Ctx}(place:Nat->Option (Nat×Nat)):∀(ps:List (Nat×Value)) (parts:List (Nat×Nat×List D)) (cells:Array Value) (ds:List D),fV c ds cells.toList ->
  ps.length=parts.length ->
  (∀(i:Nat) (p:Nat×Value) (q:Nat×Nat×List D),ps[i]?=some p->parts[i]?=some q->place p.1=some (q.1,q.2.1)/\fV c q.2.2 p.2.cells.toList/\q.2.2.length=q.2.1/\q.1+q.2.1<=ds.length) ->
  ∃cells',Instr.fill place cells ps=some cells'/\fV c (fillD ds parts) cells'.toList/\(fillD ds parts).length=ds.length:=by
 intro ps
 induction ps with
 | nil =>
  intro parts cells ds h hl _
  cases parts with
  | nil=>exact⟨cells,rfl,h,rfl⟩
  | cons a b=>simp at hl
 | cons p r ih =>
  intro parts cells ds h hl hall
  cases parts with
  | nil=>simp at hl
  | cons q s =>
   obtain⟨h1,h2,h3,h4⟩:=hall 0 p q (by simp) (by simp)
   obtain⟨off,size,cs⟩:=q
   simp only at h1 h2 h3 h4
   have hsz:p.2.cells.size=size:=by rw[<- h3, <- h2.len];simp
   have hcl:cells.toList.length=ds.length:=h.len
   have hcs:cells.size=ds.length:=by simpa using hcl
   let new:=p.2.cells.zipIdx.foldl (fun(cs:Array Value) (x:Value×Nat)=>cs.setIfInBounds (off+x.2) x.1) cells
   have hnew:new.toList=cells.toList.take off++p.2.cells.toList++cells.toList.drop (off+size):=by
    have:=Nq cells.toList p.2.cells.toList off 0 cells rfl (by simp;omega)
    simp only[Nat.add_zero,Array.length_toList,hsz]at this
    rw[<- this]
    simp only[new]
    rw[<- Array.foldl_toList]
    simp
   have hrel:fV c (ds.take off++cs++ds.drop (off+size)) new.toList:=by
    rw[hnew]
    exact((h.take off).append h2).append (h.drop _)
   have hlen:(ds.take off++cs++ds.drop (off+size)).length=ds.length:=by simp[h3];omega
   obtain⟨cells',g1,g2,g3⟩:=ih s new _ hrel (by simpa using hl) (fun i p' q' hp hq=>by
    have:=hall (i+1) p' q' (by simpa using hp) (by simpa using hq)
    rw[hlen]
    exact this)
   refine⟨cells',?_,g2,by rw[fillD];rw[g3,hlen]⟩
   have hbad:¬((p.2.cells.size≠size||off+p.2.cells.size>cells.size)=true):=by simp[hsz,hcs];omega
   obtain⟨i,v⟩:=p
   simp only[Instr.fill]
   simp only at h1 hbad
   rw[h1]
   simp only
   rw[if_neg hbad]
   exact g1
end Go.Am
namespace Go.Am
open Go
variable [bW]
variable {P:Program}{nt:Nat}
theorem exec_builtin {o:Oper}{b:Builtin}{args:Array Operand}{ats:Array TypeId}(ho:o.op=.call { callee:=.builtin b,args:=args,argTypes:=ats }) (ρ:Operand->Value) (w:World) :
  (execOp ρ o).run P w=(builtin b ats o.type (args.map fun|.const _=>true|_=>false) (args.map ρ)).run P w:=by
 simp only[execOp,ho,resolve,invoke]
 rfl
theorem EC {c:Ctx}{x:D}{v:Value}(h:aB c x v){K:D->Prop}(hv:aR x c.h K):∃p l cap,v=.slice p l cap/\K (.int .i64 (l:Nat)):=by
 unfold aR at hv
 cases h<;>try exact hv.elim
 ·exact⟨_,_,_,rfl,hv⟩
 ·exact⟨_,_,_,rfl,hv⟩
 ·exact⟨_,_,_,rfl,hv⟩
 ·rename_i hd
  exact absurd hv.1 (by simp[hd,Slot.live])
 ·exact⟨_,_,_,rfl,hv.2⟩
 ·exact⟨_,_,_,rfl,hv.2⟩
 ·exact⟨_,_,_,rfl,hv.2⟩
theorem Tk {o:Oper}{t e:TypeId}{x:Operand}{x':Arg}(ho:o.op=.call { callee:=.builtin .len,args:= #[x],argTypes:= #[t] }) (hx:cArg x=some x')
  (hd:∀i,o.dst=some i->i<nt) (hu:P.underlying t=some (.slice e)):fv P nt o (.len x'):=by
 refine fv.pure hd fun K e c w a hv hp hr hs=>?_
 have rx:=aG hx hs
 simp only[vcOp]at hv
 obtain⟨p,l,cap,he,hk⟩:=EC rx hv
 refine⟨_,_,?_,.int _ _,hk⟩
 rw[exec_builtin ho]
 simp[builtin,Builtin.len_,he,Sem.run_bind,run_underlying hu,Result.andThen,goInt]
theorem Rl {o:Oper}{t:TypeId}{x:Operand}{x':Arg}(ho:o.op=.call { callee:=.builtin .len,args:= #[x],argTypes:= #[t] }) (hx:cArg x=some x')
  (hd:∀i,o.dst=some i->i<nt) (hu:P.underlying t=some .string):fv P nt o (.slen x'):=by
 refine fv.pure hd fun K e c w a hv hp hr hs=>?_
 have rx:=aG hx hs
 simp only[vcOp]at hv
 generalize hgx:x'.get e=dx at hv rx
 cases dx<;>try exact hv.elim
 have he:=x5 rx
 refine⟨_,_,?_,.int _ _,hv⟩
 rw[exec_builtin ho]
 simp[builtin,Builtin.len_,he,Sem.run_bind,run_underlying hu,Result.andThen,goInt]
theorem Th {o:Oper}{ats:Array TypeId}{x y:Operand}{x' y':Arg}(mx:Bool) (ho:o.op=.call { callee:=.builtin (if mx then .max else .min),args:= #[x,y],argTypes:=ats }) (hx:cArg x=some x') (hy:cArg y=some y')
  (hd:∀i,o.dst=some i->i<nt):fv P nt o (if mx then .mx x' y' else .mn x' y'):=by
 refine fv.pure hd fun K e c w a hv hp hr hs=>?_
 have rx:=aG hx hs
 have ry:=aG hy hs
 cases mx
 all_goals
  simp only[if_true,if_false,aE,vcOp]at hv ho
  generalize hgx:x'.get e=dx at hv rx
  generalize hgy:y'.get e=dy at hv ry
  cases dx<;>try exact hv.elim
  cases dy<;>try exact hv.elim
  obtain⟨rfl,hv⟩:=hv
  have he:=eY rx
  have he':=eY ry
  refine⟨_,_,?_,.int _ _,hv⟩
  rw[exec_builtin ho]
  simp[builtin,Builtin.min_,Builtin.max_,Builtin.min2,Builtin.max2,he,he']
theorem Vb (a b c:Int):(if c<(if b<a then b else a) then c else(if b<a then b else a))=min (min a b) c:=by
 split<;>split<;>omega
theorem Vc (a b c:Int):(if(if a<b then b else a)<c then c else(if a<b then b else a))=max (max a b) c:=by
 split<;>split<;>omega
theorem Qz {o:Oper}{ats:Array TypeId}{x y z:Operand}{x' y' z':Arg}(mx:Bool) (ho:o.op=.call { callee:=.builtin (if mx then .max else .min),args:= #[x,y,z],argTypes:=ats }) (hx:cArg x=some x') (hy:cArg y=some y')
  (hz:cArg z=some z') (hd:∀i,o.dst=some i->i<nt):fv P nt o (if mx then .mx3 x' y' z' else .mn3 x' y' z'):=by
 refine fv.pure hd fun K e c w a hv hp hr hs=>?_
 have rx:=aG hx hs
 have ry:=aG hy hs
 have rz:=aG hz hs
 cases mx
 all_goals
  simp only[if_true,if_false,aE,vcOp]at hv ho
  generalize hgx:x'.get e=dx at hv rx
  generalize hgy:y'.get e=dy at hv ry
  generalize hgz:z'.get e=dz at hv rz
  cases dx<;>try exact hv.elim
  cases dy<;>try exact hv.elim
  cases dz<;>try exact hv.elim
  obtain⟨rfl,rfl,hv⟩:=hv
  have he:=eY rx
  have he':=eY ry
  have he'':=eY rz
  refine⟨_,_,?_,.int _ _,hv⟩
  rw[exec_builtin ho]
  simp[builtin,Builtin.min_,Builtin.max_,Builtin.min2,Builtin.max2,he,he',he'',Vb,Vc]
theorem Lw {xs:List Operand}{ys:List Arg}(h:xs.mapM cArg=some ys){c:Ctx}{e:LEnv}{a:Act}(s:ot c nt e.get a) :
  (xs.map a.eval).length=(ys.map (·.get e)).length/\∀(i:Nat) (d:D),(ys.map (·.get e))[i]?=some d->aB c d ((xs.map a.eval).getD i Go.undef):=by
 induction xs generalizing ys with
 | nil=>simp at h;subst h;simp
 | cons x r ih =>
  simp only[List.mapM_cons]at h
  cases hx:cArg x with
  | none=>simp[hx]at h
  | some y =>
   cases hr:r.mapM cArg with
   | none=>simp[hx,hr]at h
   | some s' =>
    simp[hx,hr]at h
    subst h
    obtain⟨h1,h2⟩:=ih hr
    refine⟨by simpa using h1,fun i d hd=>?_⟩
    cases i with
    | zero=>simp at hd;subst hd;simpa using aG hx s
    | succ i=>simp only[List.map_cons,List.getElem?_cons_succ]at hd;simpa using h2 i d hd
theorem mW {xs:Array Operand}{ys:List Arg}(h:xs.toList.mapM cArg=some ys){c:Ctx}{e:LEnv}{a:Act}(s:ot c nt e.get a) :
  (xs.map a.eval).size=(ys.map (·.get e)).length/\∀(i:Nat) (d:D),(ys.map (·.get e))[i]?=some d->aB c d ((xs.map a.eval).getD i Go.undef):=by
 obtain⟨h1,h2⟩:=Lw h s
 refine⟨by simpa using h1,fun i d hd=>?_⟩
 have:=h2 i d hd
 rw[<- aH,Array.toList_map]
 exact this
theorem Tj {o:Oper}{f:FuncId}{xs ys:Array Operand}{xs' ys':List Arg}(ho:o.op=.makeFunc (.func f) xs ys) (hx:xs.toList.mapM cArg=some xs') (hy:ys.toList.mapM cArg=some ys')
  (hd:∀i,o.dst=some i->i<nt):fv P nt o (.mkf f xs' ys'):=by
 refine fv.pure hd fun K e c w a hv hp hr hs=>?_
 obtain⟨a1,a2⟩:=mW hx hs
 obtain⟨b1,b2⟩:=mW hy hs
 simp only[vcOp]at hv
 exact⟨_,_,by simp only[execOp,ho,Instr.makeFunc];rfl,.fn f _ _ _ _ a1 b1 a2 b2,hv⟩
theorem Rm {o:Oper}{t:TypeId}{x i:Operand}{x' i':Arg}(ho:o.op=.index t x i) (hx:cArg x=some x') (hi:cArg i=some i')
  (hd:∀i,o.dst=some i->i<nt) (hu:P.underlying t=some .string):fv P nt o (.sidx x' i' 0 0 false):=by
 refine fv.pure hd fun K e c w a hv hp hr hs=>?_
 have rx:=aG hx hs
 have ri:=aG hi hs
 simp only[vcOp]at hv
 generalize hgi:i'.get e=di at hv ri
 unfold vint at hv
 split at hv
 case h_2=>exact hv.elim
 rename_i k n
 have hi:=eY ri
 generalize hgx:x'.get e=dx at hv rx
 cases dx<;>try (first|exact hv.elim|exact absurd hv.1 (by omega))
 rename_i s
 have hx:=x5 rx
 obtain⟨_,h0,h1,hk⟩:=hv
 have hlt:n.toNat<s.size:=by omega
 have hb:s[n.toNat]?=some s[n.toNat]:=by
  rw[getElem?_pos s n.toNat hlt]
 refine⟨_,_,?_,.int _ _,hk _ hb⟩
 simp[execOp,ho,hx,hi,Instr.index,asIntOf,Sem.run_bind,run_underlying hu,Result.andThen,h0,hb]
theorem OP {o:Oper}{t elem:TypeId}{len size:Nat}{agg:Bool}{x i:Operand}{x' i':Arg}(ho:o.op=.index t x i) (hx:cArg x=some x') (hi:cArg i=some i')
  (hd:∀i,o.dst=some i->i<nt) (hu:P.underlying t=some (.array len elem)) (ht:D6 P elem size agg) (hne:0<len):fv P nt o (.sidx x' i' len size agg):=by
 refine fv.pure hd fun K e c w a hv hp hr hs=>?_
 have rx:=aG hx hs
 have ri:=aG hi hs
 simp only[vcOp]at hv
 generalize hgi:i'.get e=di at hv ri
 unfold vint at hv
 split at hv
 case h_2=>exact hv.elim
 rename_i k n
 have hi:=eY ri
 generalize hgx:x'.get e=dx at hv rx
 generalize hvx:a.eval x=vx at rx
 cases dx<;>try exact hv.elim
 ·exact absurd hv.1 (by omega)
 ·rename_i cs
  obtain⟨_,h0,h1,hk⟩:=hv
  cases rx with
  | agg _ vs hsz hone hrel =>
   obtain⟨v,d,g1,g2,g3⟩:=x0 (P:=P) (w:=w) hsz hone hrel ht hk
   refine⟨v,d,?_,g2,g3⟩
   simp[execOp,ho,hvx,hi,Instr.index,asIntOf,Sem.run_bind,run_underlying hu,Result.andThen,h0,h1,run_sizeOf ht.info,g1]
end Go.Am
namespace Go.Am
open Go
variable [bW]
variable {P:Program}{nt:Nat}
def cOpt:Option Operand->Option (Option Arg)
 | none=>some none
 | some x=>(cArg x).map some
theorem KL {c:Ctx}{e:LEnv}{a:Act}(s:ot c nt e.get a){x:Operand}{x':Arg}(hx:cArg x=some x'){K:Int->Prop}(hv:vint (x'.get e) K) :
  ∃i,K i/\∀(y:Nat) (cd:BoundsCode) (w:World),0<=i->i<=y->(Instr.sliceBound (a.eval x) y cd).run P w=.ok i.toNat w:=by
 have rx:=aG hx s
 generalize hgx:x'.get e=dx at hv rx
 unfold vint at hv
 split at hv
 ·rename_i k n
  have hi:=eY rx
  refine⟨n,hv,fun y cd w h0 h1=>?_⟩
  have hc:(0<=n/\n<=(y:Int)):=⟨h0,h1⟩
  simp[Instr.sliceBound,hi,asIntOf,Result.andThen,hc]
 ·exact hv.elim
theorem fi {c:Ctx}{e:LEnv}{a:Act}(s:ot c nt e.get a){x:Option Operand}{x':Option Arg}(hx:cOpt x=some x'){dflt:Nat}{K:Int->Prop}(hv:vopt e x' dflt K) :
  ∃i,K i/\(x=none->i=dflt)/\∀(v:Value) (y:Nat) (cd:BoundsCode) (w:World),x.map a.eval=some v->0<=i->i<=y->(Instr.sliceBound v y cd).run P w=.ok i.toNat w:=by
 cases x with
 | none =>
  simp[cOpt]at hx
  subst hx
  exact⟨dflt,hv,fun _=>rfl,fun v y cd w h=>by simp at h⟩
 | some x =>
  simp only[cOpt]at hx
  cases hc:cArg x with
  | none=>simp[hc]at hx
  | some y =>
   simp[hc]at hx
   subst hx
   obtain⟨i,hk,hr⟩:=KL (P:=P) s hc hv
   refine⟨i,hk,by simp,fun v y cd w h=>?_⟩
   simp at h
   subst h
   exact hr y cd w
theorem eh {lo hi mx:Option Value}{len cap l r m:Nat}{w:World}(hmx:mx.isSome=true->hi.isSome=true)
  (hl:∀(v:Value) (y:Nat) (cd:BoundsCode),lo=some v->l<=y->(Instr.sliceBound v y cd).run P w=.ok l w) (hl0:lo=none->l=0)
  (hr:∀(v:Value) (y:Nat) (cd:BoundsCode),hi=some v->r<=y->(Instr.sliceBound v y cd).run P w=.ok r w) (hr0:hi=none->r=len)
  (hm:∀(v:Value) (y:Nat) (cd:BoundsCode),mx=some v->m<=y->(Instr.sliceBound v y cd).run P w=.ok m w) (hm0:mx=none->m=cap)
  (h1:l<=r) (h2:r<=m) (h3:m<=cap) (isS:Bool):(Instr.sliceBounds isS len cap lo hi mx).run P w=.ok (l,r,m) w:=by
 unfold Instr.sliceBounds
 cases mx with
 | some vm =>
  cases hi with
  | none=>simp at hmx
  | some vh =>
   cases lo with
   | none=>simp[Sem.run_bind,hm vm cap _ rfl h3,hr vh m _ rfl h2,Result.andThen,hl0 rfl]
   | some vl=>simp[Sem.run_bind,hm vm cap _ rfl h3,hr vh m _ rfl h2,hl vl r _ rfl h1,Result.andThen]
 | none =>
  have:=hm0 rfl
  subst this
  cases hi with
  | none =>
   have:=hr0 rfl
   subst this
   cases lo with
   | none=>simp[Sem.run_bind,Result.andThen,hl0 rfl]
   | some vl=>simp[Sem.run_bind,hl vl r _ rfl h1,Result.andThen]
  | some vh =>
   cases lo with
   | none=>simp[Sem.run_bind,hr vh m _ rfl h2,Result.andThen,hl0 rfl]
   | some vl=>simp[Sem.run_bind,hr vh m _ rfl h2,hl vl r _ rfl h1,Result.andThen]
theorem Ri {c:Ctx}{xs:List D}{esz:Nat}(hsz:∀d∈xs,d.cells.length=esz){v:Value}(h:aB c (.sl xs) v){l r m cap:Nat}{p:Option Addr}(hv:v=.slice p xs.length cap)
  (h1:l<=r) (h2:r<=xs.length) (h3:r<=m) (h4:m<=cap):aB c (.sl ((xs.drop l).take (r-l))) (.slice (if m=l then p else p.map (·.add (l*esz))) (r-l) (m-l)):=by
 by_cases he:r=l
 ·have:(xs.drop l).take (r-l)=[]:=by simp[he]
  rw[this,show r-l=0 by omega]
  refine .lD _ _ ?_
  cases h with
  | lD p' cap' hm=>cases hv;omega
  | sl _ b o cap' esz' f hne hc hm he' hlen hone hcell hown hrel=>cases hv;omega
 ·have hlt:l<xs.length:=by omega
  have hlen':((xs.drop l).take (r-l)).length=r-l:=by simp;omega
  cases h with
  | lD p' cap' hm=>simp at hlt
  | sl _ b o cap' esz' f hne hc hm he' hlen hone hcell hown hrel =>
   cases hv
   have hesz:esz'=esz:=by
    rw[<- hlen xs[0] (by simp),hsz xs[0] (by simp)]
   subst hesz
   rw[if_neg (by omega)]
   have hadd:(some (⟨b,o,none⟩:Addr)).map (·.add (l*esz'))=some ⟨b,o+l*esz',none⟩:=by simp[Addr.add_lit]
   rw[hadd]
   have hci:∀i j d,aM ((xs.drop l).take (r-l)) i j=some d->aM xs (l+i) j=some d:=by
    intro i j d hd
    unfold aM at hd ⊢
    rw[eH]at hd
    split at hd
    ·exact hd
    ·simp at hd
   have:=aB.sl (c:=c) ((xs.drop l).take (r-l)) b (o+l*esz') (m-l) esz' (fun i j=>f (l+i) j) (by intro h0;rw[h0]at hlen';simp at hlen';omega) (by omega) (by omega) he'
    (fun e hm=>hlen e (List.mem_of_mem_drop (List.mem_of_mem_take hm))) (fun i j d hd=>hone _ _ _ (hci i j d hd))
    (fun i j d hd=>by
     have:=hcell _ _ _ (hci i j d hd)
     rw[show o+l*esz'+(i*esz'+j)=o+((l+i)*esz'+j) by rw[Nat.add_mul];omega]
     exact this) hown (fun i j d hd=>hrel _ _ _ (hci i j d hd))
   rw[hlen']at this
   exact this
theorem AV {c:Ctx}{xs:List D}{v:Value}(h:aB c (.sl xs) v):∃p cap,v=.slice p xs.length cap/\xs.length<=cap/\cap<=maxLen:=by
 cases h with
 | lD p cap hm=>exact⟨p,cap,rfl,by simp,hm⟩
 | sl _ b o cap esz f hne hc hm he hlen hone hcell hown hrel=>exact⟨_,cap,rfl,hc,hm⟩
theorem Tf {o:Oper}{t elem:TypeId}{x:Operand}{x':Arg}{lo hi mx:Option Operand}{lo' hi' mx':Option Arg}{esz:Nat}(ho:o.op=.slice t x lo hi mx) (hx:cArg x=some x')
  (hlo:cOpt lo=some lo') (hhi:cOpt hi=some hi') (hmx:cOpt mx=some mx') (hmh:mx.isSome=true->hi.isSome=true)
  (hd:∀i,o.dst=some i->i<nt) (hu:P.underlying t=some (.slice elem)) (ht:(P.info? elem).map (·.size)=some esz):fv P nt o (.zB x' lo' hi' mx' esz):=by
 refine fv.pure hd fun K e c w a hv hp hr hs=>?_
 have rx:=aG hx hs
 simp only[vcOp]at hv
 have fin:∀(p:Option Addr) (len cap l r m:Nat),a.eval x=.slice p len cap ->
   (Instr.sliceBounds true len cap (lo.map a.eval) (hi.map a.eval) (mx.map a.eval)).run P w=.ok (l,r,m) w ->
   (execOp a.eval o).run P w=.ok (.value (.slice (if m=l then p else p.map (·.add (l*esz))) (r-l) (m-l))) w:=by
  intro p len cap l r m he hb
  simp[execOp,ho,he,Instr.sliceAt,Instr.slice,Sem.run_bind,Result.andThen,run_underlying hu,run_sizeOf ht,hb]
 generalize hgx:x'.get e=dx at hv rx
 cases dx<;>try exact hv.elim
 ·simp only at hv
  obtain⟨l,hv,l0,lr⟩:=fi (P:=P) hs hlo hv
  obtain⟨r,hv,r0,rr⟩:=fi (P:=P) hs hhi hv
  obtain⟨m,hv,m0,mr⟩:=fi (P:=P) hs hmx hv
  obtain⟨rfl,rfl,rfl,hk⟩:=hv
  have he:a.eval x=.slice none 0 0:=by
   generalize a.eval x=vx at rx
   cases rx;rfl
  have hb:(Instr.sliceBounds true 0 0 (lo.map a.eval) (hi.map a.eval) (mx.map a.eval)).run P w=.ok (0,0,0) w :=
   eh (by simpa using hmh) (fun v y cd h hy=>by simpa using lr v y cd w h (Int.le_refl _) (by simpa using hy)) (fun _=>rfl)
    (fun v y cd h hy=>by simpa using rr v y cd w h (Int.le_refl _) (by simpa using hy)) (fun _=>rfl)
    (fun v y cd h hy=>by simpa using mr v y cd w h (Int.le_refl _) (by simpa using hy)) (fun _=>rfl) (Nat.le_refl _) (Nat.le_refl _) (Nat.le_refl _) true
  exact⟨_,_,fin none 0 0 0 0 0 he hb,by simpa using aB.nil,hk⟩
 ·rename_i xs
  simp only at hv
  obtain⟨l,hv,l0,lr⟩:=fi (P:=P) hs hlo hv
  obtain⟨r,hv,r0,rr⟩:=fi (P:=P) hs hhi hv
  obtain⟨m,hv,m0,mr⟩:=fi (P:=P) hs hmx hv
  obtain⟨g1,g2,g3,g4,hsz,hk⟩:=hv
  obtain⟨p,cap,he,hcap,hmax⟩:=AV rx
  have hmn:∃m':Nat,(mx=none->m'=cap)/\(mx≠none->m'=m.toNat)/\r.toNat<=m'/\m'<=cap:=by
   by_cases hm:mx=none
   ·exact⟨cap,fun _=>rfl,fun h=>absurd hm h,by omega,Nat.le_refl _⟩
   ·exact⟨m.toNat,fun h=>absurd h hm,fun _=>rfl,by omega,by omega⟩
  obtain⟨m',q1,q2,q3,q4⟩:=hmn
  have hb:(Instr.sliceBounds true xs.length cap (lo.map a.eval) (hi.map a.eval) (mx.map a.eval)).run P w=.ok (l.toNat,r.toNat,m') w:=by
   refine eh (by simpa using hmh) (fun v y cd h hy=>lr v y cd w h g1 (by omega)) (fun h=>by have:=l0 (by simpa using h);omega)
    (fun v y cd h hy=>rr v y cd w h (by omega) (by omega)) (fun h=>by have:=r0 (by simpa using h);omega)
    (fun v y cd h hy=>?_) (fun h=>q1 (by simpa using h)) (by omega) q3 q4 true
   have hne:mx≠none:=by rintro rfl;simp at h
   rw[q2 hne]at hy ⊢
   exact mr v y cd w h (by omega) (by omega)
  refine⟨_,_,fin p _ cap _ _ _ he hb,?_,hk⟩
  have:=Ri hsz rx he (l:=l.toNat) (r:=r.toNat) (m:=m') (by omega) (by omega) q3 q4
  rw[show(r-l).toNat=r.toNat-l.toNat by omega]
  exact this
 ·rename_i n off len
  simp only at hv
  obtain⟨l,hv,l0,lr⟩:=fi (P:=P) hs hlo hv
  obtain⟨r,hv,r0,rr⟩:=fi (P:=P) hs hhi hv
  obtain⟨m,hv,m0,mr⟩:=fi (P:=P) hs hmx hv
  obtain⟨g1,g2,g3,g4,⟨els,hrow⟩,hk⟩:=hv
  have form:∃p cap,a.eval x=.slice p len cap/\len<=cap:=by
   generalize a.eval x=vx at rx
   cases rx with
   | msDead _ _ _ _ _ _ hdd=>rw[hdd]at hrow;simp[Slot.row]at hrow
   | msNil _ _ _ _ _=>exact⟨_,_,rfl,Nat.le_refl _⟩
   | msE _ _ _ p _ _=>exact⟨p,0,rfl,Nat.le_refl _⟩
   | ms _ _ _ g esz' cap els' cur ty fr hrow' hρ hl hg hsz hc hm=>exact⟨_,cap,rfl,hc⟩
  obtain⟨p,cap,he,hcap⟩:=form
  have hmn:∃m':Nat,(mx=none->m'=cap)/\(mx≠none->m'=m.toNat)/\r.toNat<=m'/\m'<=cap:=by
   by_cases hm:mx=none
   ·exact⟨cap,fun _=>rfl,fun h=>absurd hm h,by omega,Nat.le_refl _⟩
   ·exact⟨m.toNat,fun h=>absurd h hm,fun _=>rfl,by omega,by omega⟩
  obtain⟨m',q1,q2,q3,q4⟩:=hmn
  have hb:(Instr.sliceBounds true len cap (lo.map a.eval) (hi.map a.eval) (mx.map a.eval)).run P w=.ok (l.toNat,r.toNat,m') w:=by
   refine eh (by simpa using hmh) (fun v y cd h hy=>lr v y cd w h g1 (by omega)) (fun h=>by have:=l0 (by simpa using h);omega)
    (fun v y cd h hy=>rr v y cd w h (by omega) (by omega)) (fun h=>by have:=r0 (by simpa using h);omega)
    (fun v y cd h hy=>?_) (fun h=>q1 (by simpa using h)) (by omega) q3 q4 true
   have hne:mx≠none:=by rintro rfl;simp at h
   rw[q2 hne]at hy ⊢
   exact mr v y cd w h (by omega) (by omega)
  refine⟨_,_,fin p _ cap _ _ _ he hb,?_,hk⟩
  rw[show(r-l).toNat=r.toNat-l.toNat by omega]
  rw[he]at rx
  cases rx with
  | msDead _ _ _ _ _ _ hdd=>rw[hdd]at hrow;simp[Slot.row]at hrow
  | msNil _ _ _ _ _ =>
   have e1:l.toNat=0:=by omega
   have e2:r.toNat=0:=by omega
   have e3:m'=0:=by omega
   rw[e1,e2,e3]
   exact .msE _ _ esz _ els hrow
  | msE _ _ _ _ _ _ =>
   have e1:l.toNat=0:=by omega
   have e2:r.toNat=0:=by omega
   have e3:m'=0:=by omega
   rw[e1,e2,e3]
   exact .msE _ _ esz _ els hrow
  | ms _ _ _ g esz' _ els' cur ty fr hrow' hρ hl hg hsz hc hm =>
   rw[hrow]at hrow'
   simp at hrow'
   obtain⟨rfl,rfl⟩:=hrow'
   by_cases hml:m'=l.toNat
   ·rw[show r.toNat-l.toNat=0 by omega,show m'-l.toNat=0 by omega]
    exact .msE _ _ esz _ els hrow
   ·rw[if_neg hml]
    have hadd:(some (⟨g,off*esz,none⟩:Addr)).map (·.add (l.toNat*esz))=some ⟨g,(off+l.toNat)*esz,none⟩:=by simp[Addr.add_lit,Nat.add_mul]
    rw[hadd]
    have hs2:(off+l.toNat+(m'-l.toNat))*esz<=cur.size:=Nat.le_trans (Nat.mul_le_mul_right _ (by omega)) hsz
    exact .ms n (off+l.toNat) (r.toNat-l.toNat) g esz (m'-l.toNat) els cur ty fr hrow hρ (by omega) hg hs2 (by omega) (by omega)
theorem Rk {o:Oper}{t:TypeId}{x:Operand}{x':Arg}{lo hi:Option Operand}{lo' hi':Option Arg}(ho:o.op=.slice t x lo hi none) (hx:cArg x=some x')
  (hlo:cOpt lo=some lo') (hhi:cOpt hi=some hi')
  (hd:∀i,o.dst=some i->i<nt) (hu:P.underlying t=some .string):fv P nt o (.sslc x' lo' hi'):=by
 refine fv.pure hd fun K e c w a hv hp hr hs=>?_
 have rx:=aG hx hs
 simp only[vcOp]at hv
 generalize hgx:x'.get e=dx at hv rx
 cases dx<;>try exact hv.elim
 rename_i s
 simp only at hv
 have he:=x5 rx
 obtain⟨l,hv,l0,lr⟩:=fi (P:=P) hs hlo hv
 obtain⟨r,hv,r0,rr⟩:=fi (P:=P) hs hhi hv
 obtain⟨g1,g2,g3,hk⟩:=hv
 have hb:(Instr.sliceBounds false s.size s.size (lo.map a.eval) (hi.map a.eval) none).run P w=.ok (l.toNat,r.toNat,s.size) w:=by
  refine eh (by simp) (fun v y cd h hy=>lr v y cd w h g1 (by omega)) (fun h=>by have:=l0 (by simpa using h);omega)
   (fun v y cd h hy=>rr v y cd w h (by omega) (by omega)) (fun h=>by have:=r0 (by simpa using h);omega)
   (fun v y cd h hy=>by simp at h) (fun _=>rfl) (by omega) (by omega) (Nat.le_refl _) false
 refine⟨_,_,?_,.str _,hk⟩
 simp[execOp,ho,he,Instr.sliceAt,Instr.slice,Sem.run_bind,Result.andThen,run_underlying hu,hb]
end Go.Am
namespace Go.Am
open Go
variable [bW]
variable {P:Program}{nt:Nat}
def cPlace (P:Program) (t:TypeId) (i:Nat):Option (Nat×Nat) :=
 match P.underlying t with
 | some (.struct fields)=>match fields.toList.mapM (fun f=>(P.info? f.type).map fun i=>(f.offset,i.size)) with
  | some places=>places.toArray[i]?
  | none=>none
 | some (.array _ e)=>match P.info? e with
  | some ie=>some (i*ie.size,ie.size)
  | none=>none
 | _=>none
def dP (P:Program) (t:TypeId):Option D:=((P.info? t).bind (·.zero)).bind D.ofV
def cParts (P:Program) (t:TypeId):List (Nat×Operand)->Option (List (Nat×Nat×Arg))
 | []=>some []
 | (i,x)::r=>match cPlace P t i,cArg x,cParts P t r with
  | some (off,size),some y,some s=>some ((off,size,y)::s)
  | _,_,_=>none
theorem A9 {t:TypeId}:∀{ps:List (Nat×Operand)}{qs:List (Nat×Nat×Arg)},cParts P t ps=some qs ->
  ps.length=qs.length/\∀(k:Nat) (p:Nat×Operand) (q:Nat×Nat×Arg),ps[k]?=some p->qs[k]?=some q->cPlace P t p.1=some (q.1,q.2.1)/\cArg p.2=some q.2.2
 | [],qs,h=>by simp[cParts]at h;subst h;simp
 | (i,x)::r,qs,h=>by
  simp only[cParts]at h
  cases h1:cPlace P t i with
  | none=>simp[h1]at h
  | some os =>
   cases h2:cArg x with
   | none=>simp[h1,h2]at h
   | some y =>
    cases h3:cParts P t r with
    | none=>simp[h1,h2,h3]at h
    | some s =>
     simp[h1,h2,h3]at h
     subst h
     obtain⟨l,hh⟩:=A9 h3
     refine⟨by simp[l],fun k p q hp hq=>?_⟩
     cases k with
     | zero=>simp at hp hq;subst hp hq;exact⟨h1,h2⟩
     | succ k=>exact hh k p q (by simpa using hp) (by simpa using hq)
theorem N4 {t:TypeId}{z:Value}{i:TypeInfo}(hi:P.info? t=some i) (hz:i.zero=some z){ps:List (Nat×Value)}{cells:Array Value}
  (hf:Instr.fill (cPlace P t) z.cells ps=some cells) (hu:(∃fs,P.underlying t=some (.struct fs))\/∃n e,P.underlying t=some (.array n e)) (hne:ps≠[]):P.built t ps=some cells:=by
 unfold Program.built
 rcases hu with⟨fs,hu⟩|⟨n,e,hu⟩
 ·simp only[hi,hu,hz]
  cases hp:fs.toList.mapM (fun f=>(P.info? f.type).map fun i=>(f.offset,i.size)) with
  | none =>
   have hc:∀i,cPlace P t i=none:=fun i=>by simp[cPlace,hu,hp]
   cases ps with
   | nil=>exact absurd rfl hne
   | cons p r=>obtain⟨i,v⟩:=p;simp[Instr.fill,hc]at hf
  | some places =>
   have hc:(fun i=>cPlace P t i)=fun i=>places.toArray[i]?:=by funext i;simp[cPlace,hu,hp]
   simp only
   rw[<- hc]
   exact hf
 ·simp only[hi,hu,hz]
  cases hp:P.info? e with
  | none =>
   have hc:∀i,cPlace P t i=none:=fun i=>by simp[cPlace,hu,hp]
   cases ps with
   | nil=>exact absurd rfl hne
   | cons p r=>obtain⟨i,v⟩:=p;simp[Instr.fill,hc]at hf
  | some ie =>
   have hc:(fun i=>cPlace P t i)=fun i=>some (i*ie.size,ie.size):=by funext i;simp[cPlace,hu,hp]
   simp only
   rw[<- hc]
   exact hf
theorem Lx {t:TypeId}{z:Value}{i:TypeInfo}(hi:P.info? t=some i) (hz:i.zero=some z) (hp:cPlace P t 0≠none):P.built t []=some z.cells:=by
 unfold Program.built
 unfold cPlace at hp
 cases hu:P.underlying t with
 | none=>simp[hu]at hp
 | some d =>
  cases d<;>simp only[hu]at hp<;>try (exact absurd rfl hp)
  ·rename_i n e
   cases hie:P.info? e with
   | none=>simp[hie]at hp
   | some ie=>simp[hi,hz,hie,Instr.fill]
  ·rename_i fs
   cases hpl:fs.toList.mapM (fun f=>(P.info? f.type).map fun i=>(f.offset,i.size)) with
   | none=>simp[hpl]at hp
   | some places=>simp[hi,hz,hpl,Instr.fill]
theorem Tp {o:Oper}{t:TypeId}{ps:Array (Nat×Operand)}{zd:D}{qs:List (Nat×Nat×Arg)}(ho:o.op=.build t ps) (hz:dP P t=some zd) (hq:cParts P t ps.toList=some qs)
  (hp0:cPlace P t 0≠none) (hd:∀i,o.dst=some i->i<nt):fv P nt o (.bld zd.cells qs):=by
 refine fv.pure hd fun K e c w a hv hp hr hs=>?_
 simp only[vcOp,A4]at hv
 obtain⟨hok,hk⟩:=hv
 cases hi:P.info? t with
 | none=>simp[dP,hi]at hz
 | some i =>
  cases hzz:i.zero with
  | none=>simp[dP,hi,hzz]at hz
  | some z =>
   have hz':D.ofV z=some zd:=by simpa[dP,hi,hzz] using hz
   have hzr:=cW (gC hz' c) (fG hz')
   obtain⟨hlen,hspec⟩:=A9 hq
   let vs:List (Nat×Value):=ps.toList.map fun p=>(p.1,a.eval p.2)
   let parts:List (Nat×Nat×List D):=qs.map fun q=>(q.1,q.2.1,(q.2.2.get e).cells)
   obtain⟨cells',g1,g2,g3⟩:=DB (c:=c) (cPlace P t) vs parts z.cells zd.cells hzr (by simp[vs,parts,hlen]) (by
    intro k p q hpk hqk
    simp only[vs,parts,List.getElem?_map,Option.map_eq_some_iff]at hpk hqk
    obtain⟨p',hp',rfl⟩:=hpk
    obtain⟨q',hq',rfl⟩:=hqk
    obtain⟨s1,s2⟩:=hspec k p' q' hp' hq'
    obtain⟨o1,o2,o3⟩:=hok q' (ak hq')
    exact⟨s1,cW (aG s2 hs) o3,o1,o2⟩)
   have hb:P.built t vs=some cells':=by
    by_cases hne:vs=[]
    ·have hqn:qs=[]:=by
      have:vs.length=qs.length:=by simp[vs,hlen]
      rw[hne]at this
      exact List.eq_nil_of_length_eq_zero this.symm
     rw[hne]at g1 ⊢
     simp[Instr.fill]at g1
     subst g1
     exact Lx hi hzz hp0
    ·refine N4 hi hzz g1 ?_ hne
     unfold cPlace at hp0
     cases hu:P.underlying t with
     | none=>simp[hu]at hp0
     | some d=>cases d<;>simp[hu]at hp0 ⊢
   have hrun:=run_build (P:=P) w t (vs.toArray) cells' (by simpa using hb)
   refine⟨.agg cells',_,?_,?_,hk⟩
   ·have hvs:ps.map (fun(i,x)=>(i,a.eval x))=vs.toArray:=by apply Array.ext';simp[vs]
    simp only[execOp,ho,hvs]
    simp[hrun]
   ·refine .agg _ _ (by simpa using g2.len) (fun i d hdd=>(g2.rel i d hdd).1) (fun i d hdd=>by rw[<- aH];exact(g2.rel i d hdd).2)
def eqTy (P:Program):Nat->TypeId->Option (List CK)
 | 0,_=>none
 | d+1,t=>match P.underlying t with
  | some (.int _)=>some [.i]
  | some .bool=>some [.b]
  | some .string=>some [.s]
  | some (.struct fs)=>if P.stoodInHeld t then none else
   fs.toList.foldl (fun acc f=>acc.bind fun ks=>if f.name ≠ "_" /\f.offset=ks.length then
    (match eqTy P d f.type,(P.info? f.type).map (·.size) with
     | some n,some m=>if n.length=m then some (ks++n) else none
     | _,_=>none) else none) (some [])
  | _=>none
theorem Hs:∀(ks:List CK) (a c:List D) (r:Bool),eqCells ks a c=some r->a.length=ks.length/\c.length=ks.length:=by
 intro ks
 induction ks with
 | nil=>intro a c r h;cases a<;>cases c<;>simp[eqCells]at h ⊢
 | cons k ks ih =>
  intro a c r h
  have step:∀(p:Bool) (xs ys:List D),(eqCells ks xs ys).map (fun t=>p&&t)=some r->xs.length=ks.length/\ys.length=ks.length:=by
   intro p xs ys hp
   cases hq:eqCells ks xs ys with
   | none=>simp[hq]at hp
   | some q=>exact ih xs ys q hq
  cases a with
  | nil=>cases k<;>simp[eqCells]at h
  | cons x xs =>
   cases c with
   | nil=>cases k<;>cases x<;>simp[eqCells]at h
   | cons y ys =>
    have hh:xs.length=ks.length/\ys.length=ks.length:=by
     cases k<;>cases x<;>cases y<;>simp only[eqCells]at h<;>try (cases h;done)
     ·split at h
      ·exact step _ _ _ h
      ·cases h
     ·exact step _ _ _ h
     ·exact step _ _ _ h
    simp[hh.1,hh.2]
theorem DC:∀(ks ls:List CK) (a c b d:List D) (r:Bool),a.length=ks.length->c.length=ks.length->eqCells (ks++ls) (a++b) (c++d)=some r ->
  ∃r1 r2,eqCells ks a c=some r1/\eqCells ls b d=some r2/\r=(r1&&r2):=by
 intro ks
 induction ks with
 | nil =>
  intro ls a c b d r hl hl' h
  cases a<;>cases c<;>simp at hl hl'
  exact⟨true,r,rfl,h,by simp⟩
 | cons k ks ih =>
  intro ls a c b d r hl hl' h
  cases a with
  | nil=>simp at hl
  | cons x xs =>
   cases c with
   | nil=>simp at hl'
   | cons y ys =>
    simp only[List.cons_append]at h
    have step:∀(p:Bool),(eqCells (ks++ls) (xs++b) (ys++d)).map (fun t=>p&&t)=some r ->
      ∃r1 r2,(eqCells ks xs ys).map (fun t=>p&&t)=some r1/\eqCells ls b d=some r2/\r=(r1&&r2):=by
     intro p hp
     cases hq:eqCells (ks++ls) (xs++b) (ys++d) with
     | none=>simp[hq]at hp
     | some q =>
      simp[hq]at hp
      obtain⟨r1,r2,e1,e2,e3⟩:=ih ls xs ys b d q (by simpa using hl) (by simpa using hl') hq
      exact⟨p&&r1,r2,by simp[e1],e2,by rw[<- hp,e3,Bool.and_assoc]⟩
    cases k<;>cases x<;>cases y<;>simp only[eqCells]at h ⊢<;>try (cases h;done)
    ·split at h
     ·rename_i hk
      rw[if_pos hk]
      exact step _ h
     ·cases h
    ·exact step _ h
    ·exact step _ h
def Fx (c:Ctx) (agg:Bool) (ds:List D) (x:Value):Prop :=
 if agg then ∃xs,x=.agg xs/\fV c ds xs.toList else ∃d,ds=[d]/\aB c d x
theorem G0 {c:Ctx}{w:World}{ds:List D}{xs:Array Value}(h:fV c ds xs.toList){t:TypeId}{off n:Nat}{agg:Bool}(ht:D6 P t n agg) (hl:off+n<=ds.length) (h1:agg=false->n=1) :
  ∃v,(part t xs off).run P w=.ok v w/\Fx c agg ((ds.drop off).take n) v:=by
 have hsz:xs.size=ds.length:=by simpa using h.len
 have hone:∀(i:Nat) (d:D),ds[i]?=some d->d.one=true:=fun i d hd=>(h.rel i d hd).1
 have hrel:∀(i:Nat) (d:D),ds[i]?=some d->aB c d (xs.getD i Go.undef):=fun i d hd=>by rw[<- aH];exact(h.rel i d hd).2
 unfold Fx
 cases agg with
 | true =>
  obtain⟨v,d,g1,g2,g3⟩:=x0 (P:=P) (w:=w) (off:=off) (K:=fun d=>d=.agg ((ds.drop off).take n)) hsz hone hrel ht (by simp[vpart,hl])
  subst g3
  refine⟨v,g1,?_⟩
  simp only[if_true]
  cases g2 with
  | agg _ vs hsz' hone' hrel'=>exact⟨vs,rfl,by simpa using hsz',fun i d hd=>⟨hone' i d hd,by rw[aH];exact hrel' i d hd⟩⟩
 | false =>
  have hn:=h1 rfl
  subst hn
  have hlt:off<ds.length:=by omega
  obtain⟨v,d,g1,g2,g3⟩:=x0 (P:=P) (w:=w) (off:=off) (K:=fun d=>d=ds[off]) hsz hone hrel ht (by simp[vpart,hlt])
  subst g3
  refine⟨v,g1,?_⟩
  simp only[aE,if_false]
  refine⟨_,?_,g2⟩
  rw[List.drop_eq_getElem_cons hlt]
  rfl
theorem cF (f:Option (List CK)->Field->Option (List CK)) (hf:∀x,f none x=none):∀l:List Field,l.foldl f none=none
 | []=>rfl
 | x::r=>by rw[List.foldl_cons,hf,cF f hf r]
theorem AT {c:Ctx}{w:World}:∀(d:Nat) (t:TypeId) (ks:List CK),eqTy P d t=some ks->∀(agg:Bool),D6 P t ks.length agg->∀(ds es:List D) (x y:Value) (b:Bool),Fx c agg ds x->Fx c agg es y ->
  eqCells ks ds es=some b->∀k,d<=k->(Op.equalIn k t x y).run P w=.ok b w:=by
 intro d
 induction d with
 | zero=>intro t n h;simp[eqTy]at h
 | succ d ih =>
  intro t ks h agg ht ds es x y b hx hy hb k hk
  obtain⟨k',rfl⟩:∃k',k=k'+1:=⟨k-1,by omega⟩
  obtain⟨dsc,hu,hagg⟩:=ht.und
  unfold eqTy at h
  rw[hu]at h
  cases dsc<;>simp only at h hagg<;>try (cases h;done)
  ·cases h
   subst hagg
   obtain⟨p,rfl,rp⟩:=hx
   obtain⟨q,rfl,rq⟩:=hy
   cases p<;>cases q<;>simp only[eqCells]at hb<;>try (cases hb;done)
   simp at hb
   rw[sO rp,sO rq,run_equalIn_bool' w k' t _ _ hu,hb]
  ·cases h
   subst hagg
   obtain⟨p,rfl,rp⟩:=hx
   obtain⟨q,rfl,rq⟩:=hy
   cases p<;>cases q<;>simp only[eqCells]at hb<;>try (cases hb;done)
   split at hb
   ·rename_i hkk
    subst hkk
    simp at hb
    rw[eY rp,eY rq,run_equalIn_int w k' t _ _ _ _ hu, <- hb]
    congr 1
   ·cases hb
  ·cases h
   subst hagg
   obtain⟨p,rfl,rp⟩:=hx
   obtain⟨q,rfl,rq⟩:=hy
   cases p<;>cases q<;>simp only[eqCells]at hb<;>try (cases hb;done)
   simp at hb
   rw[x5 rp,x5 rq,run_equalIn_string w k' t _ _ hu, <- hb]
  ·rename_i fs
   split at h
   ·cases h
   ·rename_i hst
    subst hagg
    obtain⟨xs,rfl,rx⟩:=hx
    obtain⟨ys,rfl,ry⟩:=hy
    have hst':P.stoodInHeld t=false:=by simpa using hst
    have hfo:P.fieldsOf t=fs:=by simp[Program.fieldsOf,hu]
    rw[run_equalIn_struct w k' t xs ys (by rw[hfo];exact hu) hst',hfo]
    obtain⟨hl1,hl2⟩:=Hs _ _ _ _ hb
    have key:∀(l:List Field) (ks0:List CK),l.foldl (fun acc f=>acc.bind fun ks=>if f.name ≠ "_" /\f.offset=ks.length then
      (match eqTy P d f.type,(P.info? f.type).map (·.size) with
       | some n,some m=>if n.length=m then some (ks++n) else none
       | _,_=>none) else none) (some ks0)=some ks->ks0.length<=ks.length ->
      ∀b',(∃ks1,ks=ks0++ks1/\eqCells ks1 (ds.drop ks0.length) (es.drop ks0.length)=some b')->(Op.eqFields k' xs ys l).run P w=.ok b' w:=by
     intro l
     induction l with
     | nil =>
      intro ks0 h0 hle b' hb'
      obtain⟨ks1,rfl,hb'⟩:=hb'
      simp at h0
      subst h0
      have e1:ds.drop ks0.length=[]:=by simp;simp at hl1;omega
      have e2:es.drop ks0.length=[]:=by simp;simp at hl2;omega
      rw[e1,e2]at hb'
      simp[eqCells]at hb'
      subst hb'
      simp[Op.eqFields]
     | cons f r ihl =>
      intro ks0 h0 hle b' hb'
      obtain⟨ks1,hks,hb'⟩:=hb'
      rw[List.foldl_cons]at h0
      simp only[Option.bind_some]at h0
      split at h0
      ·rename_i hc
       obtain⟨hname,hoff⟩:=hc
       cases hq:eqTy P d f.type with
       | none=>simp only[hq]at h0;rw[cF _ (fun _=>rfl)]at h0;cases h0
       | some n =>
        cases hs:(P.info? f.type).map (·.size) with
        | none=>simp only[hq,hs]at h0;rw[cF _ (fun _=>rfl)]at h0;cases h0
        | some m =>
         simp only[hq,hs]at h0
         split at h0
         ·rename_i hnm
          subst hnm
          have hpre:∀(l:List Field) (ka kb:List CK),l.foldl (fun acc f=>acc.bind fun ks=>if f.name ≠ "_" /\f.offset=ks.length then
            (match eqTy P d f.type,(P.info? f.type).map (·.size) with
             | some n,some m=>if n.length=m then some (ks++n) else none
             | _,_=>none) else none) (some ka)=some kb->∃kc,kb=ka++kc:=by
           intro l
           induction l with
           | nil=>intro ka kb hh;simp at hh;exact⟨[],by simp[hh]⟩
           | cons g s ihs =>
            intro ka kb hh
            rw[List.foldl_cons]at hh
            simp only[Option.bind_some]at hh
            split at hh
            ·split at hh
             ·split at hh
              ·obtain⟨kc,hkc⟩:=ihs _ _ hh
               exact⟨_,by rw[hkc,List.append_assoc]⟩
              ·rw[cF _ (fun _=>rfl)]at hh;cases hh
             ·rw[cF _ (fun _=>rfl)]at hh;cases hh
            ·rw[cF _ (fun _=>rfl)]at hh;cases hh
          obtain⟨kc,hkc⟩:=hpre r _ _ h0
          have hk1:ks1=n++kc:=by
           rw[hks,List.append_assoc]at hkc
           exact List.append_cancel_left hkc
          rw[hk1]at hb'
          have hlen:ks.length=ks0.length+n.length+kc.length:=by rw[hkc];simp;omega
          have sd:ds.drop ks0.length=(ds.drop ks0.length).take n.length++ds.drop (ks0.length+n.length):=by
           rw[<- List.drop_drop];exact(List.take_append_drop _ _).symm
          have se:es.drop ks0.length=(es.drop ks0.length).take n.length++es.drop (ks0.length+n.length):=by
           rw[<- List.drop_drop];exact(List.take_append_drop _ _).symm
          rw[sd,se]at hb'
          obtain⟨r1,r2,e1,e2,rfl⟩:=DC n kc _ _ _ _ _ (by simp;omega) (by simp;omega) hb'
          have hty:∃agg,D6 P f.type n.length agg/\(agg=false->n.length=1):=by
           cases d with
           | zero=>simp[eqTy]at hq
           | succ d =>
            unfold eqTy at hq
            cases huf:P.underlying f.type with
            | none=>simp[huf]at hq
            | some dd =>
             refine⟨_,⟨hs,dd,huf,rfl⟩,?_⟩
             rw[huf]at hq
             cases dd<;>simp only at hq ⊢<;>first
              | (cases hq;done)
              | (cases hq;simp;done)
              | (intro hh;cases hh)
          obtain⟨agg',hty,h1⟩:=hty
          obtain⟨vx,px,qx⟩:=G0 (P:=P) (w:=w) rx hty (off:=ks0.length) (by omega) h1
          obtain⟨vy,py,qy⟩:=G0 (P:=P) (w:=w) ry hty (off:=ks0.length) (by omega) h1
          have heq:=ih f.type n hq agg' hty _ _ vx vy r1 qx qy e1 k' (by omega)
          have hrest:=ihl (ks0++n) h0 (by simp;omega) r2 ⟨kc,hkc,by rw[List.length_append];exact e2⟩
          simp only[Op.eqFields,if_pos hname,Sem.run_bind,hoff,px,py,Result.andThen_ok,heq]
          cases r1
          ·simp
          ·simpa using hrest
         ·rw[cF _ (fun _=>rfl)]at h0;cases h0
      ·rw[cF _ (fun _=>rfl)]at h0;cases h0
    exact key fs.toList [] h (by simp) b ⟨ks,by simp,by simpa using hb⟩
theorem JB {o:Oper}{t t':TypeId}{x y:Operand}{x' y':Arg}{ks:List CK}{agg:Bool}(neg:Bool) (ho:o.op=.binOp (if neg then .neq else .eql) t x y t') (hx:cArg x=some x') (hy:cArg y=some y')
  (hd:∀i,o.dst=some i->i<nt) (ht:eqTy P 100 t=some ks) (hty:D6 P t ks.length agg) (hg:P.eqGuardType P.depth t=false) (hsc:agg=false->ks=[.b]):fv P nt o (.eqv neg agg ks x' y'):=by
 refine fv.pure hd fun K e c w a hv hp hr hs=>?_
 have rx:=aG hx hs
 have ry:=aG hy hs
 simp only[vcOp]at hv
 obtain⟨ax,ay,hv⟩:=hv
 unfold veqv at hv
 cases hb:eqCells ks (x'.get e).cells (y'.get e).cells with
 | none=>simp[hb]at hv
 | some b =>
  simp only[hb]at hv
  refine⟨_,_,?_,.bool _,hv⟩
  cases agg with
  | false =>
   have:=hsc rfl
   subst this
   generalize x'.get e=dx at *
   generalize y'.get e=dy at *
   have hvx:Fx c false dx.cells (a.eval x)/\Fx c false dy.cells (a.eval y):=by
    constructor
    ·cases dx<;>simp[D.isAgg]at ax<;>exact⟨_,rfl,rx⟩
    ·cases dy<;>simp[D.isAgg]at ay<;>exact⟨_,rfl,ry⟩
   have heq:=AT (P:=P) (w:=w) 100 t _ ht false hty _ _ _ _ b hvx.1 hvx.2 hb 10000 (by omega)
   cases dx<;>simp[D.isAgg]at ax<;>cases dy<;>simp[D.isAgg]at ay<;>simp only[D.cells,eqCells]at hb<;>try (cases hb;done)
   have ex:=sO rx
   have ey:=sO ry
   rw[ex,ey]at heq
   cases neg
   ·simp only[execOp,ho,ex,ey,if_false,aE,eqGuard,binOp,Op.equal,Op.maxDepth]
    simp[heq]
   ·simp only[execOp,ho,ex,ey,if_true,eqGuard,binOp,Op.equal,Op.maxDepth]
    simp[heq]
  | true =>
   generalize x'.get e=dx at *
   generalize y'.get e=dy at *
   cases dx<;>simp[D.isAgg]at ax
   cases dy<;>simp[D.isAgg]at ay
   generalize hex:a.eval x=vx at rx
   generalize hey:a.eval y=vy at ry
   rename_i cs cs'
   cases rx with
   | agg _ xs hsz hone hrel =>
    cases ry with
    | agg _ ys hsz' hone' hrel' =>
     have heq:=AT (P:=P) (w:=w) 100 t ks ht true hty cs cs' (.agg xs) (.agg ys) b ⟨xs,rfl,by simpa using hsz,fun i d hd=>⟨hone i d hd,by rw[aH];exact hrel i d hd⟩⟩
      ⟨ys,rfl,by simpa using hsz',fun i d hd=>⟨hone' i d hd,by rw[aH];exact hrel' i d hd⟩⟩ hb 10000 (by omega)
     cases neg
     ·simp only[execOp,ho,hex,hey,if_false,aE]
      simp[run_eqGuard_agg w _ t x y xs ys hg,run_eql_struct,heq]
     ·simp only[execOp,ho,hex,hey,if_true]
      simp[run_eqGuard_agg w _ t x y xs ys hg,run_neq_struct,heq]
end Go.Am
namespace Go.Am
open Go
variable [bW]
variable {P:Program}{nt:Nat}
theorem kO {c:Ctx}(hr:av c){n g:Nat}(hm:(c.h n).mine) (hρ:c.ρ n=some g):g<c.hp.size:=by
 have hs:=hr.slot n
 cases hx:c.h n with
 | box v =>
  rw[hx]at hs
  obtain⟨g',cur,ty,h1,h2,_⟩:=hs
  rw[hρ]at h1;cases h1
  exact(Array.getElem?_eq_some_iff.1 h2).1
 | arr e l =>
  rw[hx]at hs
  obtain⟨_,_,_,⟨h1,_⟩|⟨g',cur,ty,h1,h2,_⟩⟩:=hs
  ·rw[hρ]at h1;cases h1
  ·rw[hρ]at h1;cases h1
   exact(Array.getElem?_eq_some_iff.1 h2).1
 | lp st B =>
  rw[hx]at hs
  obtain⟨g',tmps,dfs,h1,h2,_⟩:=hs
  rw[hρ]at h1;cases h1
  exact(Array.getElem?_eq_some_iff.1 h2).1
 | map kt l =>
  rw[hx]at hs
  obtain⟨g',es,clock,h1,h2,_⟩:=hs
  rw[hρ]at h1;cases h1
  exact(Array.getElem?_eq_some_iff.1 h2).1
 | _=>rw[hx]at hm;cases hm
theorem iW {c c':Ctx}(hle:c.le c'){n:Nat}{s:Slot}(hs:cM c n s) (hρ:s≠.free->s≠.dead->c'.ρ n=c.ρ n) (hb:∀g,s.mine->c.ρ n=some g->c'.hp[g]?=c.hp[g]?):cM c' n s:=by
 cases s with
 | free=>trivial
 | dead=>trivial
 | box v =>
  obtain⟨g,cur,ty,h1,h2,h3,h4⟩:=hs
  exact⟨g,cur,ty,(hρ (by simp) (by simp)).trans h1,(hb g trivial h1).trans h2,h3,fun i d hd=>⟨(h4 i d hd).1,(h4 i d hd).2.mono hle⟩⟩
 | arr e l =>
  obtain⟨h1,h2,h3,h4⟩:=hs
  refine⟨h1,h2,h3,?_⟩
  rcases h4 with⟨q1,q2⟩|⟨g,cur,ty,q1,q2,q3,q4⟩
  ·exact Or.inl ⟨(hρ (by simp) (by simp)).trans q1,q2⟩
  ·exact Or.inr ⟨g,cur,ty,(hρ (by simp) (by simp)).trans q1,(hb g trivial q1).trans q2,q3,fun i j d hd=>(q4 i j d hd).mono hle⟩
 | frz e l =>
  obtain⟨h1,h2,h3,h4⟩:=hs
  refine⟨h1,h2,h3,?_⟩
  rcases h4 with⟨q1,q2⟩|⟨g,cur,ty,fr,q1,q2,q3,q4,q5⟩
  ·exact Or.inl ⟨(hρ (by simp) (by simp)).trans q1,q2⟩
  ·have hg:=(Array.getElem?_eq_some_iff.1 q2).1
   exact Or.inr ⟨g,cur,ty,fr,(hρ (by simp) (by simp)).trans q1,(hle.same hg q4).trans q2,q3,hle.Dh hg q4,fun i j d hd=>(q5 i j d hd).mono hle⟩
 | lp st B =>
  obtain⟨g,tmps,dfs,h1,h2,h3,h4⟩:=hs
  exact⟨g,tmps,dfs,(hρ (by simp) (by simp)).trans h1,(hb g trivial h1).trans h2,h3,fun i=>(h4 i).mono hle⟩
 | map kt l =>
  obtain⟨g,es,clock,h1,h2,h3,hst,h4⟩:=hs
  refine⟨g,es,clock,(hρ (by simp) (by simp)).trans h1,(hb g trivial h1).trans h2,h3,hst,fun i p hp=>?_⟩
  obtain⟨q1,q2,e,q3,q4,q5⟩:=h4 i p hp
  exact⟨q1,q2,e,q3,q4.mono hle,q5.mono hle⟩
structure iu (c c':Ctx) (m n g:Nat):Prop where
 X:c'.X=c.X
 hother:∀k,k≠n->k≠m->c'.h k=c.h k
 ρother:∀k,k≠n->c'.ρ k=c.ρ k
 hn:n=m\/c.h n=.free
 hm:n≠m->c'.h m=.dead/\Trans (c.h m) .dead
 mine:(c'.h n).mine
 ρn:c'.ρ n=some g
 tn:Trans (c.h n) (c'.h n)
 Ox:c.h n≠.free->c.ρ n=some g
 size:c.hp.size<=c'.hp.size
 hp:∀k,k<c.hp.size->k≠g->c'.hp[k]?=c.hp[k]?
 shape:∀(cur:Array Value) (ty:TypeId) (fr:Nat×Nat),c.hp[g]?=some (Obj.cells cur ty fr)->∃cur':Array Value,c'.hp[g]?=some (Obj.cells cur' ty fr)/\cur'.size=cur.size
 loop:∀(r:Loop),c.hp[g]?=some (.loop r)->∃r':Loop,c'.hp[g]?=some (.loop r')/\r'.defers=r.defers
 from':c.hp.size<=g\/((c.h m).mine/\c.ρ m=some g)
theorem iu.le {c c':Ctx}{m n g:Nat}(s:iu c c' m n g):c.le c' where
 size:=s.size
 X:=s.X
 keep k hk hno:=by
  refine s.hp k hk ?_
  rintro rfl
  rcases s.from' with h|⟨h1,h2⟩
  ·omega
  ·exact hno m h1 h2
 shape k cur ty fr hk:=by
  by_cases hkg:k=g
  ·subst hkg;exact s.shape cur ty fr hk
  ·exact⟨cur,(s.hp k (Array.getElem?_eq_some_iff.1 hk).1 hkg).trans hk,rfl⟩
 loop k r hk:=by
  by_cases hkg:k=g
  ·subst hkg;exact s.loop r hk
  ·exact⟨r,(s.hp k (Array.getElem?_eq_some_iff.1 hk).1 hkg).trans hk,rfl⟩
 names k hk:=by
  by_cases hkn:k=n
  ·subst hkn;rw[s.ρn,s.Ox hk]
  ·exact s.ρother k hkn
 tr k:=by
  by_cases hkn:k=n
  ·subst hkn;exact s.tn
  ·by_cases hkm:k=m
   ·subst hkm
    obtain⟨h1,h2⟩:=s.hm (fun e=>hkn e.symm)
    rw[h1];exact h2
   ·rw[s.hother k hkn hkm];exact Trans.refl _
 born k g' hm hρ hg:=by
  by_cases hkn:k=n
  ·subst hkn
   rw[s.ρn]at hρ;cases hρ
   rcases s.from' with h|⟨h1,h2⟩
   ·omega
   ·exact⟨m,h1,h2⟩
  ·by_cases hkm:k=m
   ·subst hkm
    rw[(s.hm (fun e=>hkn e.symm)).1]at hm
    cases hm
   ·rw[s.hother k hkn hkm]at hm
    rw[s.ρother k hkn]at hρ
    exact⟨k,hm,hρ⟩
theorem iu.heap {c c':Ctx}{m n g:Nat}(s:iu c c' m n g) (hr:av c) (hs:cM c' n (c'.h n)):av c' where
 slot k:=by
  by_cases hkn:k=n
  ·subst hkn;exact hs
  ·by_cases hkm:k=m
   ·subst hkm;rw[(s.hm (fun e=>hkn e.symm)).1];trivial
   ·rw[s.hother k hkn hkm]
    refine iW s.le (hr.slot k) (fun _ _=>s.ρother k hkn) (fun g' hm' hρ=>?_)
    refine s.hp g' (kO hr hm' hρ) ?_
    rintro rfl
    rcases s.from' with h|⟨h1,h2⟩
    ·have:=kO hr hm' hρ;omega
    ·exact hkm (hr.inj k m g' hm' h1 hρ h2)
 inj k1 k2 g' m1 m2 r1 r2:=by
  have key:∀k,k≠n->(c'.h k).mine->c'.ρ k=some g->False:=by
   intro k hkn hm hρ
   by_cases hkm:k=m
   ·subst hkm
    rw[(s.hm (fun e=>hkn e.symm)).1]at hm
    cases hm
   ·rw[s.hother k hkn hkm]at hm
    rw[s.ρother k hkn]at hρ
    rcases s.from' with h|⟨h1,h2⟩
    ·have:=kO hr hm hρ;omega
    ·exact hkm (hr.inj k m g hm h1 hρ h2)
  by_cases h1:k1=n
  ·by_cases h2:k2=n
   ·rw[h1,h2]
   ·subst h1
    rw[s.ρn]at r1;cases r1
    exact(key k2 h2 m2 r2).elim
  ·by_cases h2:k2=n
   ·subst h2
    rw[s.ρn]at r2;cases r2
    exact(key k1 h1 m1 r1).elim
   ·have g1:k1≠m:=by
     rintro rfl
     rw[(s.hm (fun e=>h1 e.symm)).1]at m1
     cases m1
    have g2:k2≠m:=by
     rintro rfl
     rw[(s.hm (fun e=>h2 e.symm)).1]at m2
     cases m2
    rw[s.hother k1 h1 g1]at m1
    rw[s.hother k2 h2 g2]at m2
    rw[s.ρother k1 h1]at r1
    rw[s.ρother k2 h2]at r2
    exact hr.inj k1 k2 g' m1 m2 r1 r2
 apart k g' hm hρ hX:=by
  rw[s.X]at hX
  by_cases hkn:k=n
  ·subst hkn
   rw[s.ρn]at hρ;cases hρ
   rcases s.from' with h|⟨h1,h2⟩
   ·have:=hr.xlt g hX;omega
   ·exact hr.apart m g h1 h2 hX
  ·by_cases hkm:k=m
   ·subst hkm
    rw[(s.hm (fun e=>hkn e.symm)).1]at hm
    cases hm
   ·rw[s.hother k hkn hkm]at hm
    rw[s.ρother k hkn]at hρ
    exact hr.apart k g' hm hρ hX
 xlt g' hX:=by
  rw[s.X]at hX
  exact Nat.lt_of_lt_of_le (hr.xlt g' hX) s.size
 fin:=by
  obtain⟨N,hN⟩:=hr.fin
  refine⟨N+n+m+1,fun k hk=>?_⟩
  rw[s.hother k (by omega) (by omega)]
  exact hN k (by omega)
 glob:=hr.glob.mono s.le
 lo:=by rw[s.X];exact Nat.le_trans hr.lo s.size
theorem dL {c:Ctx}(hr:av c):∃n,pc c.h n:=by
 obtain⟨N,hN⟩:=hr.fin
 induction N with
 | zero=>exact⟨0,hN,fun k h=>by omega⟩
 | succ N ih =>
  by_cases h:c.h N=.free
  ·refine ih fun m hm=>?_
   rcases Nat.lt_or_ge N m with h1|h1
   ·exact hN m h1
   ·have:m=N:=by omega
    rw[this];exact h
  ·refine⟨N+1,hN,fun k hk=>?_⟩
   have:k=N:=by omega
   rw[this];exact h
theorem iu.new {c:Ctx}{n:Nat}(hn:c.h n=.free){s:Slot}(hm:s.mine) (o:Obj){hp':Array Obj}(hhp:hp'=c.hp.push o) :
  iu c ⟨aD c.ρ n (some c.hp.size),c.X,aD c.h n s,hp'⟩ n n c.hp.size where
 X:=rfl
 hother k h1 _:=by simp[aD,h1]
 ρother k h1:=by simp[aD,h1]
 hn:=Or.inl rfl
 hm h:=absurd rfl h
 mine:=by simpa[aD] using hm
 ρn:=by simp[aD]
 tn:=by rw[hn];exact .free _
 Ox h:=absurd hn h
 size:=by subst hhp;simp
 hp k h1 _:=by subst hhp;simp only[Array.getElem?_push];rw[if_neg (by omega)]
 shape cur ty fr h:=by
  have:=(Array.getElem?_eq_some_iff.1 h).1
  omega
 loop r h:=by
  have:=(Array.getElem?_eq_some_iff.1 h).1
  omega
 from':=Or.inl (Nat.le_refl _)
theorem hQ (hp:Array Obj) (o:Obj):(hp.push o)[hp.size]?=some o:=by simp
theorem ME {o:Oper}{op:AOp}(hd:∀i,o.dst=some i->i<nt)
  (hx:∀(K:HKq) (e:LEnv) (c:Ctx) (w:World) (a:Act),vcOp P op K e c.h->c.hp=w.heap->av c->ot c nt e.get a ->
   ∃(n:Nat) (s:Slot) (d:D) (cells:Array Value) (ty:TypeId) (v:Value),c.h n=.free/\s.mine/\(execOp a.eval o).run P w=.ok (.value v) (w.alloc (.cells cells ty)) /\
    (∀c',c.le c'->c'.hp=w.heap.push (.cells cells ty)->c'.h=aD c.h n s->c'.ρ=aD c.ρ n (some w.heap.size)->cM c' n s/\aB c' d v)/\K d (aD c.h n s)):fv P nt o op:=by
 refine fv.unit fun K e c w a hv hp hr hs=>?_
 obtain⟨n,s,d,cells,ty,v,gM,hmine,hrun,hrel,hk⟩:=hx K e c w a hv hp hr hs
 have hst:=iu.new gM hmine (.cells cells ty) (hp':=(w.alloc (.cells cells ty)).heap) (by rw[hp];rfl)
 obtain⟨h1,h2⟩:=hrel _ hst.le rfl rfl (by rw[hp])
 refine⟨.value v,w.alloc (.cells cells ty),aD c.ρ n (some c.hp.size),aD c.h n s,d,hrun,Or.inr ⟨v,rfl,hd,h2⟩,hst.le,hst.heap hr (by simpa[aD] using h1),⟨rfl,rfl,rfl⟩,hk⟩
theorem DL {c':Ctx}{hp:Array Obj}{n:Nat}{d:D}{vs:Array Value}{ty:TypeId}(hhp:c'.hp=hp.push (.cells vs ty)) (hρ:c'.ρ n=some hp.size) (h:fV c' d.cells vs.toList):cM c' n (.box d):=by
 refine⟨hp.size,vs,ty,hρ,by rw[hhp];exact hQ _ _,by simpa using h.len,fun i x hx=>?_⟩
 obtain⟨h1,h2⟩:=h.rel i x hx
 rw[aH]at h2
 exact⟨h1,h2⟩
theorem bG {t:TypeId}{z:Value}(h:(P.info? t).bind (·.zero)=some z) (w:World):(zeroValue t).run P w=.ok z w:=by
 cases hi:P.info? t with
 | none=>simp[hi]at h
 | some i =>
  simp[hi]at h
  unfold zeroValue
  simp[run_typeInfo hi,h]
theorem cf (ty:TypeId) (vs:Array Value) (w:World):(newRow ty vs).run P w=.ok ⟨w.heap.size,0,none⟩ (w.alloc (.cells vs ty)):=by
 simp[newRow,run_newObj]
theorem fJ {t:TypeId}{zd:D}(h:dP P t=some zd):∃z,(P.info? t).bind (·.zero)=some z/\D.ofV z=some zd:=by
 unfold dP at h
 cases hz:(P.info? t).bind (·.zero) with
 | none=>simp[hz]at h
 | some z=>exact⟨z,rfl,by simpa[hz] using h⟩
theorem OS {o:Oper}{t:TypeId}{zd:D}(ho:o.op=.alloc t) (hz:dP P t=some zd) (hd:∀i,o.dst=some i->i<nt):fv P nt o (.alloc zd):=by
 obtain⟨z,hz1,hz2⟩:=fJ hz
 refine ME hd fun K e c w a hv hp hr hs=>?_
 simp only[vcOp]at hv
 obtain⟨n,ht⟩:=dL hr
 have hn:=ht.free
 refine⟨n,.box zd,.ptr n 0 0,z.cells,t,.pointer (some ⟨w.heap.size,0,none⟩),hn,trivial,?_,?_,hv n ht⟩
 ·simp[execOp,ho,Instr.alloc,bG hz1,newVar,cf]
 ·intro c' hle h1 h2 h3
  refine⟨DL h1 (by rw[h3];simp[aD]) (cW (gC hz2 c') (fG hz2)),.ptrBox n 0 _ zd (by rw[h2];simp[aD]) (by rw[h3];simp[aD])⟩
theorem To {o:Oper}{t:TypeId}{x:Operand}{x':Arg}(ho:o.op=.box t x) (hx:cArg x=some x') (hd:∀i,o.dst=some i->i<nt):fv P nt o (.box x'):=by
 refine ME hd fun K e c w a hv hp hr hs=>?_
 simp only[vcOp]at hv
 obtain⟨hone,hv⟩:=hv
 have rx:=aG hx hs
 obtain⟨n,ht⟩:=dL hr
 have hn:=ht.free
 refine⟨n,.box (x'.get e),.ptr n 0 0,(a.eval x).cells,t,.pointer (some ⟨w.heap.size,0,none⟩),hn,trivial,?_,?_,hv n ht⟩
 ·simp[execOp,ho,Instr.box,newVar,cf]
 ·intro c' hle h1 h2 h3
  refine⟨DL h1 (by rw[h3];simp[aD]) ((cW rx hone).mono hle),.ptrBox n 0 _ (x'.get e) (by rw[h2];simp[aD]) (by rw[h3];simp[aD])⟩
theorem DP {c':Ctx}{hp:Array Obj}{n esz:Nat}{els:List D}{vs:Array Value}{ty:TypeId}(hhp:c'.hp=hp.push (.cells vs ty)) (hρ:c'.ρ n=some hp.size) (he:0<esz)
  (hlen:∀e∈els,e.cells.length=esz) (hsz:els.length*esz<=vs.size) (h:∀i j d,aM els i j=some d->d.one=true/\aB c' d (vs.getD (i*esz+j) Go.undef)):cM c' n (.arr esz els) :=
 ⟨he,hlen,fun i j d hd=>(h i j d hd).1,Or.inr ⟨hp.size,vs,ty,hρ,by rw[hhp];exact hQ _ _,hsz,fun i j d hd=>(h i j d hd).2⟩⟩
theorem gG {n i j:Nat}{z d:D}(h:aM (List.replicate n z) i j=some d):i<n/\z.cells[j]?=some d:=by
 unfold aM at h
 cases hi:(List.replicate n z)[i]? with
 | none=>simp[hi]at h
 | some e =>
  rw[hi]at h
  rw[List.getElem?_replicate]at hi
  split at hi
  ·simp at hi;subst hi;exact⟨by assumption,by simpa using h⟩
  ·cases hi
theorem ye (z:Array Value) (hz:0<z.size) (n k:Nat) (hk:k<n):((Array.range n).map (fun i=>z[i % z.size]!)).getD k Go.undef=z.getD (k % z.size) Go.undef:=by
 have hlt:=Nat.mod_lt k hz
 simp[Array.getD,hk,hlt]
theorem UY {o:Oper}{t elem:TypeId}{x y:Operand}{x' y':Arg}{i:TypeInfo}{zd:D}(ho:o.op=.makeSlice t x y) (hx:cArg x=some x') (hy:cArg y=some y') (hd:∀i,o.dst=some i->i<nt)
  (hu:P.underlying t=some (.slice elem)) (hi:P.info? elem=some i) (hz:dP P elem=some zd) (hsz:zd.cells.length=i.size) (hpos:0<i.size):fv P nt o (.mk i.size i.bytes zd x' y'):=by
 obtain⟨z,hz1,hz2⟩:=fJ hz
 refine ME hd fun K e c w a hv hp hr hs=>?_
 simp only[vcOp]at hv
 have rx:=aG hx hs
 have ry:=aG hy hs
 generalize hgx:x'.get e=dx at hv rx
 generalize hgy:y'.get e=dy at hv ry
 unfold vint at hv
 split at hv
 case h_2=>exact hv.elim
 rename_i k l
 split at hv
 case h_2=>exact hv.elim
 rename_i k' m
 obtain⟨h0,h1,h2,h3,hv⟩:=hv
 have ex:=eY rx
 have ey:=eY ry
 obtain⟨n,ht⟩:=dL hr
 have hn:=ht.free
 have hzr:=cW (gC hz2 c) (fG hz2)
 have hzs:z.cells.size=i.size:=by rw[<- hsz, <- hzr.len];simp
 have wl:IntKind.i64.wrap l=l:=by unfold IntKind.wrap IntKind.bits IntKind.signed;simp;omega
 have wm:IntKind.i64.wrap m=m:=by unfold IntKind.wrap IntKind.bits IntKind.signed;simp;omega
 have hb0:¬(m<0):=by omega
 have hb1:¬((i.bytes:Int)*m>281474976710656):=by rw[Int.mul_comm];omega
 have hb2:¬(l<0):=by omega
 have hb3:¬(l>m):=by omega
 have hroom:¬(m.toNat*i.bytes>140737488355328):=by
  have:((m.toNat*i.bytes:Nat):Int)=m*i.bytes:=by simp[Int.toNat_of_nonneg (by omega:0<=m)]
  omega
 let vs:=(Array.range (m.toNat*i.size)).map (fun k=>z.cells[k % z.cells.size]!)
 have hcells:(do let zero <- (if m.toNat*i.size=0 then pure #[] else do pure (<- zeroValue elem).cells:Sem (Array Value));pure ((Array.range (m.toNat*i.size)).map (fun k=>zero[k % zero.size]!)):Sem (Array Value)).run P w=.ok vs w:=by
  by_cases h:m.toNat*i.size=0
  ·simp[h,vs]
  ·simp[h,vs,bG hz1]
 have hvs:vs.size=m.toNat*i.size:=by simp[vs]
 refine⟨n,.arr i.size (List.replicate l.toNat zd),.ms n 0 l.toNat,vs,elem,.slice (some ⟨w.heap.size,0,none⟩) l.toNat m.toNat,hn,trivial,?_,?_,hv n ht⟩
 ·have hs2:(P.info? elem).map (·.size)=some i.size:=by simp[hi]
  by_cases h:m.toNat*i.size=0
  ·have hv0:vs = #[]:=by apply Array.eq_empty_of_size_eq_zero;omega
   rw[hv0]
   simp[execOp,ho,ex,ey,Instr.makeSlice,run_underlying hu,asInt,asIntOf,run_typeInfo hi,wl,wm,hb0,hb1,hb2,hb3,askRoom,hroom,run_sizeOf hs2,h,cf,Array.range_zero']
  ·simp[execOp,ho,ex,ey,Instr.makeSlice,run_underlying hu,asInt,asIntOf,run_typeInfo hi,wl,wm,hb0,hb1,hb2,hb3,askRoom,hroom,run_sizeOf hs2,h,bG hz1,cf,vs]
 ·intro c' hle g1 g2 g3
  have hρ:c'.ρ n=some w.heap.size:=by rw[g3];simp[aD]
  have hh:(c'.h n).row=some (i.size,List.replicate l.toNat zd):=by rw[g2];simp[aD,Slot.row]
  have hle2:l.toNat*i.size<=m.toNat*i.size:=Nat.mul_le_mul_right _ (by omega)
  refine⟨DP g1 hρ hpos (fun e he=>by rw[List.eq_of_mem_replicate he];exact hsz) (by simp;omega) (fun a b d hd=>?_),?_⟩
  ·obtain⟨q1,q2⟩:=gG hd
   have hb:b<i.size:=by rw[<- hsz];exact(ah.1 q2).1
   obtain⟨p1,p2⟩:=hzr.rel b d q2
   refine⟨p1,?_⟩
   have hlt:a*i.size+b<m.toNat*i.size:=by
    have:(a+1)*i.size<=m.toNat*i.size:=Nat.mul_le_mul_right _ (by omega)
    rw[Nat.add_mul]at this
    omega
   rw[ye z.cells (by omega) _ _ hlt,hzs]
   have:(a*i.size+b) % i.size=b:=by
    rw[Nat.mul_comm,Nat.mul_add_mod]
    exact Nat.mod_eq_of_lt hb
   rw[this, <- aH]
   exact p2.mono hle
  ·have:=aB.ms (c:=c') n 0 l.toNat w.heap.size i.size m.toNat _ vs elem (0,0) hh hρ (by simp) (by rw[g1];exact hQ _ _) (by rw[hvs];simp) (by omega) (by unfold maxLen;omega)
   simpa using this
end Go.Am
namespace Go.Am
open Go
variable [bW]
variable {P:Program}{nt:Nat}
theorem sK {α:Type}(cur vs:List α) (p k:Nat) (z:α) (h:p+vs.length<=cur.length) :
  (cur.take p++vs++cur.drop (p+vs.length)).getD k z=if k<p then cur.getD k z else if k<p+vs.length then vs.getD (k-p) z else cur.getD k z:=by
 simp only[List.getD]
 by_cases h1:k<p
 ·rw[if_pos h1,List.append_assoc,List.getElem?_append_left (by simp;omega),List.getElem?_take,if_pos h1]
 ·rw[if_neg h1]
  by_cases h2:k<p+vs.length
  ·rw[if_pos h2,List.append_assoc,List.getElem?_append_right (by simp;omega),List.getElem?_append_left (by simp;omega)]
   congr 2
   simp;omega
  ·rw[if_neg h2,List.getElem?_append_right (by simp;omega),List.getElem?_drop]
   congr 2
   simp;omega
theorem tg {d:D}{j:Nat}{new:List D}(hd:d.isAgg=true\/d.one=true) (h:j+new.length<=d.cells.length) (hpos:0<new.length) (hone:∀x∈new,x.one=true) :
  (setCells d j new).cells=d.cells.take j++new++d.cells.drop (j+new.length):=by
 cases d with
 | agg cs=>rfl
 | tup ds=>simp[D.isAgg,D.one]at hd
 | undef=>simp[D.isAgg,D.one]at hd
 | _ =>
  simp only[D.cells,List.length_singleton]at h
  have h0:j=0:=by omega
  have h1:new.length=1:=by omega
  obtain⟨x,rfl⟩:=List.length_eq_one_iff.1 h1
  subst h0
  have hx:x.cells=[x]:=by
   have:=hone x (by simp)
   cases x<;>simp_all [D.one,D.cells]
  simp[setCells,D.cells]at hx ⊢
  exact hx
theorem DR {d:D}(h:∀(i:Nat) (x:D),d.cells[i]?=some x->x.one=true):d.isAgg=true\/d.one=true:=by
 by_cases ha:d.isAgg=true
 ·exact Or.inl ha
 ·refine Or.inr (h 0 d ?_)
  cases d<;>simp_all [D.cells,D.isAgg]
theorem setRow_size (w:World) (g:Nat) (cs:Array Value):(w.setRow g cs).heap.size=w.heap.size:=by simp[World.setRow]
theorem iu.write {c:Ctx}{n g:Nat}{w:World}{cur vs:Array Value}{ty:TypeId}{s:Slot}(hp:c.hp=w.heap) (hg:w.heap[g]?=some (.cells cur ty (0,0))) (hsz:vs.size=cur.size)
  (hm:(c.h n).mine) (hρ:c.ρ n=some g) (ht:Trans (c.h n) s) (hs:s.mine):iu c ⟨c.ρ,c.X,aD c.h n s,(w.setRow g vs).heap⟩ n n g where
 X:=rfl
 hother k h1 _:=by simp[aD,h1]
 ρother k h1:=rfl
 hn:=Or.inl rfl
 hm h:=absurd rfl h
 mine:=by simpa[aD] using hs
 ρn:=hρ
 tn:=by simpa[aD] using ht
 Ox _:=hρ
 size:=by rw[setRow_size,hp];exact Nat.le_refl _
 hp k h1 h2:=by rw[hp];exact setRow_other w g k vs h2
 shape cur' ty' fr h:=by
  rw[hp,hg]at h
  cases h
  exact⟨vs,setRow_heap w g cur vs ty (0,0) hg,hsz⟩
 loop r h:=by rw[hp,hg]at h;cases h
 from':=Or.inr ⟨hm,hρ⟩
theorem BG {w:World}{g o:Nat}{cur:Array Value}{t ty:TypeId}{v:Value}{size:Nat}(hg:w.heap[g]?=some (.cells cur ty (0,0))) (ht:(P.info? t).map (·.size)=some size)
  (hsz:v.cells.size=size) (hl:o+size<=cur.size) (h1:∀x∈v.cells.toList,x.oneCell'=true) :
  (storeVar t ⟨g,o,none⟩ v).run P w=.ok () (w.setRow g (cur.toList.take o++v.cells.toList++cur.toList.drop (o+v.cells.toList.length)).toArray):=by
 have hr:=run_storeCells_at P g o ty v.cells.toList 0 cur w hg (by simpa[hsz] using hl) h1
 simp only[Nat.add_zero]at hr
 unfold storeVar
 simp only[Sem.run_bind,run_sizeOf ht,Result.andThen_ok,hsz]
 rw[if_neg (by simp)]
 exact hr
theorem I0 {els:List D}{i i' j':Nat}{d' x:D}(h:aM (els.set i d') i' j'=some x):(i'=i/\d'.cells[j']?=some x/\i<els.length)\/(i'≠i/\aM els i' j'=some x):=by
 unfold aM at h
 rw[List.getElem?_set]at h
 split at h
 ·rename_i he
  subst he
  split at h
  ·exact Or.inl ⟨rfl,by simpa using h,by assumption⟩
  ·simp at h
 ·rename_i hne
  exact Or.inr ⟨fun e=>hne e.symm,h⟩
theorem UX {o:Oper}{t:TypeId}{x v:Operand}{x' v':Arg}{size:Nat}(ho:o.op=.store t x v) (hx:cArg x=some x') (hv:cArg v=some v') (ht:(P.info? t).map (·.size)=some size) (hpos:0<size)
  (hd:o.dst=none):fv P nt o (.st x' v' size):=by
 refine fv.unit fun K e c w a hvc hp hr hs=>?_
 simp only[vcOp]at hvc
 obtain⟨hlen,hone,hvc⟩:=hvc
 have rx:=aG hx hs
 have rv:=cW (aG hv hs) hone
 generalize hgx:x'.get e=dx at hvc rx
 cases dx<;>try exact hvc.elim
 rename_i n i j
 have hvsz:(a.eval v).cells.size=size:=by rw[<- hlen, <- rv.len];simp
 have exec:∀(g q:Nat) (cur:Array Value) (ty:TypeId),a.eval x=.pointer (some ⟨g,q,none⟩)->w.heap[g]?=some (.cells cur ty (0,0))->q+size<=cur.size ->
   (execOp a.eval o).run P w=.ok .skip (w.setRow g (cur.toList.take q++(a.eval v).cells.toList++cur.toList.drop (q+(a.eval v).cells.toList.length)).toArray):=by
  intro g q cur ty he hg hl
  have:=BG (P:=P) hg ht hvsz hl rv.O2
  simp[execOp,ho,he,Instr.storeAt,Instr.sureAddr,this]
 cases hn:c.h n<;>simp only[hn]at hvc<;>try exact hvc.elim
 ·
  rename_i d
  obtain⟨rfl,hl,hk⟩:=hvc
  have hs':=hr.slot n
  rw[hn]at hs'
  obtain⟨g,cur,ty,hρ,hg,hcs,hcells⟩:=hs'
  have he:a.eval x=.pointer (some ⟨g,j,none⟩):=by
   obtain⟨g',h1,_,h3,_⟩:=FN hr hn rx
   rw[hρ]at h3
   cases h3
   exact h1
  have hg':w.heap[g]?=some (.cells cur ty (0,0)):=hp ▸ hg
  have hds:fV c d.cells cur.toList:=⟨by simpa using hcs,fun k y hy=>⟨(hcells k y hy).1,by rw[aH];exact(hcells k y hy).2⟩⟩
  have hao:=DR (fun k y hy=>(hcells k y hy).1)
  have hcl:=tg (j:=j) (new:=(v'.get e).cells) hao (by omega) (by omega) hone
  let vs:=(cur.toList.take j++(a.eval v).cells.toList++cur.toList.drop (j+(a.eval v).cells.toList.length)).toArray
  have hvs:vs.size=cur.size:=by simp[vs,hvsz];omega
  have hst:=iu.write (s:=.box (setCells d j (v'.get e).cells)) hp hg' hvs (by rw[hn];trivial) hρ (by rw[hn];exact .boxBox _ _) trivial
  have hrel:fV c (setCells d j (v'.get e).cells).cells vs.toList:=by
   rw[hcl]
   have e1:(v'.get e).cells.length=(a.eval v).cells.toList.length:=rv.len.symm
   rw[e1]
   simp only[vs]
   exact((hds.take j).append rv).append (hds.drop _)
  refine⟨_,_,c.ρ,_,.undef,exec g j cur ty he hg' (by rw[hcs];omega),Or.inl ⟨rfl,hd⟩,hst.le,hst.heap hr ?_,⟨rfl,rfl,rfl⟩,hk⟩
  have hrel':=hrel.mono hst.le
  simp only[ar]
  exact⟨g,vs,ty,hρ,setRow_heap w g cur vs ty (0,0) hg',by simpa using hrel.len,fun k y hy=>⟨(hrel'.rel k y hy).1,by rw[<- aH];exact(hrel'.rel k y hy).2⟩⟩
 ·
  rename_i esz els
  obtain⟨hi,hl,hk⟩:=hvc
  have hs':=hr.slot n
  rw[hn]at hs'
  obtain⟨he0,hlens,hones,hrow⟩:=hs'
  have hdd:els[i]?=some els[i]:=by simp[hi]
  obtain⟨g,he,hρ,_⟩:=mem_row hr (by rw[hn];rfl) hdd rx
  rcases hrow with⟨h1,_⟩|⟨g',cur,ty,h1,hg,hcs,hcells⟩
  ·rw[hρ]at h1;cases h1
  ·rw[hρ]at h1
   cases h1
   have hg':w.heap[g]?=some (.cells cur ty (0,0)):=hp ▸ hg
   have hdl:els[i].cells.length=esz:=hlens _ (List.getElem_mem hi)
   have hle2:i*esz+esz<=els.length*esz:=by
    have:=Nat.mul_le_mul_right esz (show i+1<=els.length from hi)
    rw[Nat.add_mul]at this
    omega
   have hao:=DR (d:=els[i]) (fun k y hy=>hones i k y (ft hdd hy))
   have hcl:=tg (j:=j) (new:=(v'.get e).cells) hao (by omega) (by omega) hone
   let vs:=(cur.toList.take (i*esz+j)++(a.eval v).cells.toList++cur.toList.drop (i*esz+j+(a.eval v).cells.toList.length)).toArray
   have hvs:vs.size=cur.size:=by simp[vs,hvsz];omega
   have hst:=iu.write (s:=.arr esz (els.set i (setCells els[i] j (v'.get e).cells))) hp hg' hvs (by rw[hn];trivial) hρ (by rw[hn];exact .arrArr _ _ _ (by simp)) trivial
   refine⟨_,_,c.ρ,_,.undef,exec g _ cur ty he hg' (by omega),Or.inl ⟨rfl,hd⟩,hst.le,hst.heap hr ?_,⟨rfl,rfl,rfl⟩,hk _ hdd⟩
   simp only[ar]
   have hnl:(setCells els[i] j (v'.get e).cells).cells.length=esz:=by rw[hcl];simp[hlen,hdl];omega
   have hvl:(a.eval v).cells.toList.length=size:=by simpa using hvsz
   have get:∀k,vs.getD k Go.undef=if k<i*esz+j then cur.getD k Go.undef else if k<i*esz+j+size then(a.eval v).cells.toList.getD (k-(i*esz+j)) Go.undef else cur.getD k Go.undef:=by
    intro k
    rw[<- aH]
    simp only[vs]
    rw[sK _ _ _ _ _ (by simp[hvsz];omega),hvl,aH]
   have main:∀i' j' y,aM (els.set i (setCells els[i] j (v'.get e).cells)) i' j'=some y->y.one=true/\aB c y (vs.getD (i'*esz+j') Go.undef):=by
    intro i' j' y hy
    rcases I0 hy with⟨rfl,hy',_⟩|⟨hne,hy'⟩
    ·rw[hcl]at hy'
     have hj':j'<esz:=by rw[<- hnl,hcl];exact(ah.1 hy').1
     rw[get]
     by_cases c1:j'<j
     ·rw[if_pos (by omega)]
      rw[List.append_assoc,List.getElem?_append_left (by simp;omega),List.getElem?_take,if_pos c1]at hy'
      exact⟨hones _ _ _ (ft hdd hy'),hcells _ _ _ (ft hdd hy')⟩
     ·by_cases c2:j'<j+size
      ·rw[if_neg (by omega),if_pos (by omega)]
       rw[List.append_assoc,List.getElem?_append_right (by simp;omega),List.getElem?_append_left (by simp;omega)]at hy'
       have hmin:min j els[i'].cells.length=j:=by omega
       rw[List.length_take,hmin]at hy'
       obtain⟨p1,p2⟩:=rv.rel _ _ hy'
       refine⟨p1,?_⟩
       rw[show i'*esz+j'-(i'*esz+j)=j'-j by omega]
       exact p2
      ·rw[if_neg (by omega),if_neg (by omega)]
       rw[List.getElem?_append_right (by simp;omega),List.getElem?_drop]at hy'
       have:j+(v'.get e).cells.length+(j'-(els[i'].cells.take j++(v'.get e).cells).length)=j':=by simp;omega
       rw[this]at hy'
       exact⟨hones _ _ _ (ft hdd hy'),hcells _ _ _ (ft hdd hy')⟩
    ·refine⟨hones _ _ _ hy',?_⟩
     have hj':j'<esz:=by
      unfold aM at hy'
      cases hz:els[i']? with
      | none=>simp[hz]at hy'
      | some z =>
       simp only[hz,Option.bind_some]at hy'
       rw[<- hlens z (ak hz)]
       exact(ah.1 hy').1
     rw[get]
     have hcase:i'*esz+j'<i*esz+j\/i*esz+j+size<=i'*esz+j':=by
      rcases Nat.lt_or_ge i' i with hlt|hge
      ·left
       have:=Nat.mul_le_mul_right esz (show i'+1<=i from hlt)
       rw[Nat.add_mul]at this
       omega
      ·right
       have:=Nat.mul_le_mul_right esz (show i+1<=i' by omega)
       rw[Nat.add_mul]at this
       omega
     rcases hcase with h|h
     ·rw[if_pos h];exact hcells _ _ _ hy'
     ·rw[if_neg (by omega),if_neg (by omega)];exact hcells _ _ _ hy'
   refine⟨he0,?_,fun i' j' y hy=>(main i' j' y hy).1,Or.inr ⟨g,vs,ty,hρ,setRow_heap w g cur vs ty (0,0) hg',by simp[hvs];exact hcs,fun i' j' y hy=>(main i' j' y hy).2.mono hst.le⟩⟩
   intro z hz
   rcases List.mem_or_eq_of_mem_set hz with h|h
   ·exact hlens z h
   ·rw[h];exact hnl
end Go.Am
namespace Go.Am
open Go
variable [bW]
variable {P:Program}{nt:Nat}
def flat (els:List D):List D:=els.flatMap D.cells
theorem fR {esz:Nat}:∀{els:List D},(∀e∈els,e.cells.length=esz)->∀{i j:Nat}{d:D},aM els i j=some d->(flat els)[i*esz+j]?=some d
 | [],_,i,j,d,h=>by simp[aM]at h
 | e::r,hl,i,j,d,h=>by
  have he:=hl e (by simp)
  unfold flat
  rw[List.flatMap_cons]
  cases i with
  | zero =>
   have h':e.cells[j]?=some d:=by simpa[aM] using h
   have hj:=(ah.1 h').1
   rw[Nat.zero_mul,Nat.zero_add,List.getElem?_append_left hj]
   exact h'
  | succ i =>
   have h':aM r i j=some d:=by simpa[aM] using h
   rw[List.getElem?_append_right (by rw[he,Nat.add_mul];omega),he,show(i+1)*esz+j-esz=i*esz+j by rw[Nat.add_mul];omega]
   exact fR (fun e he=>hl e (by simp[he])) h'
theorem bm {esz:Nat}:∀{els:List D},(∀e∈els,e.cells.length=esz)->(flat els).length=els.length*esz
 | [],_=>by simp[flat]
 | e::r,hl=>by
  have:=bm (els:=r) (fun e he=>hl e (by simp[he]))
  unfold flat at this ⊢
  rw[List.flatMap_cons,List.length_append,this,hl e (by simp),List.length_cons,Nat.add_mul]
  omega
theorem iZ (a b:List D):flat (a++b)=flat a++flat b:=by simp[flat]
theorem s7 {esz:Nat}(he:0<esz){els:List D}(hl:∀e∈els,e.cells.length=esz){k:Nat}{d:D}(h:(flat els)[k]?=some d):aM els (k / esz) (k % esz)=some d:=by
 have hk:=(ah.1 h).1
 rw[bm hl]at hk
 have hi:k / esz<els.length:=Nat.div_lt_of_lt_mul (by rw[Nat.mul_comm];exact hk)
 have hj:k % esz<esz:=Nat.mod_lt _ he
 have hlen:=hl els[k / esz] (List.getElem_mem hi)
 have hc:aM els (k / esz) (k % esz)=some (els[k / esz].cells[k % esz]'(by omega)):=by simp[aM,hi,show k % esz<els[k / esz].cells.length by omega]
 have:=fR hl hc
 rw[Nat.mul_comm,Nat.div_add_mod]at this
 rw[hc, <- this,h]
theorem Hj {c:Ctx}(hr:av c) (n:Nat):c.le ⟨c.ρ,c.X,c.h.freeze n,c.hp⟩/\av ⟨c.ρ,c.X,c.h.freeze n,c.hp⟩:=by
 cases hn:c.h n with
 | arr e l =>
  have hf:c.h.freeze n=aD c.h n (.frz e l):=by simp[Heap.freeze,hn]
  rw[hf]
  have sub:∀k,(aD c.h n (.frz e l) k).mine->(c.h k).mine:=by
   intro k hk
   by_cases h:k=n
   ·subst h;rw[hn];trivial
   ·simpa[aD,h] using hk
  have hle:c.le ⟨c.ρ,c.X,aD c.h n (.frz e l),c.hp⟩:=by
   refine⟨Nat.le_refl _,rfl,fun _ _ _=>rfl,fun _ cur _ _ h=>⟨cur,h,rfl⟩,fun _ r h=>⟨r,h,rfl⟩,fun _ _=>rfl,fun k=>?_,fun k g hm hρ _=>⟨k,sub k hm,hρ⟩⟩
   by_cases h:k=n
   ·subst h;simp only[ar];rw[hn];exact .arrFrz _ _ _ (Nat.le_refl _)
   ·simp only[an _ _ h];exact Trans.refl _
  refine⟨hle,fun k=>?_,fun k1 k2 g m1 m2 r1 r2=>hr.inj k1 k2 g (sub k1 m1) (sub k2 m2) r1 r2,fun k g hm hρ=>hr.apart k g (sub k hm) hρ,hr.xlt,?_,hr.glob.mono hle,hr.lo⟩
  ·by_cases h:k=n
   ·subst h
    simp only[ar]
    have hs:=hr.slot k
    rw[hn]at hs
    obtain⟨h1,h2,h3,h4⟩:=hs
    refine⟨h1,h2,h3,?_⟩
    rcases h4 with q|⟨g,cur,ty,q1,q2,q3,q4⟩
    ·exact Or.inl q
    ·refine Or.inr ⟨g,cur,ty,(0,0),q1,q2,q3,?_,fun i j d hd=>(q4 i j d hd).mono hle⟩
     rintro (hX|⟨k',hm,hρ⟩)
     ·exact hr.apart k g (by rw[hn];trivial) q1 hX
     ·have:=hr.inj k' k g (sub k' hm) (by rw[hn];trivial) hρ q1
      subst this
      simp[aD,Slot.mine]at hm
   ·simp only[an _ _ h]
    exact iW hle (hr.slot k) (fun _ _=>rfl) (fun _ _ _=>rfl)
  ·obtain⟨N,hN⟩:=hr.fin
   refine⟨N+n+1,fun k hk=>?_⟩
   simp only[an _ _ (show k≠n by omega)]
   exact hN k (by omega)
 | _ =>
  have hf:c.h.freeze n=c.h:=by simp[Heap.freeze,hn]
  rw[hf]
  exact⟨Ctx.le.refl c,hr⟩
theorem fq {c:Ctx}(hr:av c) (ns:List Nat):c.le ⟨c.ρ,c.X,c.h.freezeAll ns,c.hp⟩/\av ⟨c.ρ,c.X,c.h.freezeAll ns,c.hp⟩:=by
 induction ns generalizing c with
 | nil=>exact⟨Ctx.le.refl c,hr⟩
 | cons n r ih =>
  obtain⟨h1,h2⟩:=Hj hr n
  obtain⟨h3,h4⟩:=ih h2
  exact⟨h1.trans h3,h4⟩
theorem II {h:Heap}{n m esz:Nat}{els:List D}(hr:(h n).row=some (esz,els)):(h.freeze m n).row=some (esz,els):=by
 unfold Heap.freeze
 cases hm:h m<;>simp only<;>try exact hr
 by_cases he:n=m
 ·subst he
  rw[hm]at hr
  simpa[aD,Slot.row] using hr
 ·simpa[aD,he] using hr
theorem IJ {h:Heap}{n m esz:Nat}{els:List D}(hr:h n=.frz esz els):h.freeze m n=.frz esz els:=by
 unfold Heap.freeze
 cases hm:h m<;>simp only<;>try exact hr
 by_cases he:n=m
 ·subst he;rw[hm]at hr;cases hr
 ·simpa[aD,he] using hr
theorem vr {n esz:Nat}{els:List D}:∀(ns:List Nat){h:Heap},h n=.frz esz els->h.freezeAll ns n=.frz esz els
 | [],_,hr=>hr
 | _::r,_,hr=>vr r (IJ hr)
theorem fX {n esz:Nat}{els:List D}:∀(ns:List Nat){h:Heap},(h n).row=some (esz,els)->n∈ns->h.freezeAll ns n=.frz esz els
 | [],_,_,hm=>by simp at hm
 | m::r,h,hr,hm=>by
  by_cases he:n=m
  ·subst he
   refine vr r ?_
   unfold Heap.freeze
   cases hn:h n<;>rw[hn]at hr<;>simp[Slot.row]at hr
   ·obtain⟨rfl,rfl⟩:=hr;simp[aD]
   ·obtain⟨rfl,rfl⟩:=hr;simpa using hn
  ·simp at hm
   exact fX r (II hr) (by rcases hm with h|h;exact absurd h he;exact h)
theorem Hk {h:Heap}{n m:Nat}(hn:h n=.free):h.freeze m n=.free:=by
 unfold Heap.freeze
 cases hm:h m<;>simp only<;>try exact hn
 by_cases he:n=m
 ·subst he;rw[hm]at hn;cases hn
 ·simpa[aD,he] using hn
theorem mS {n:Nat}:∀(ns:List Nat){h:Heap},h n=.free->h.freezeAll ns n=.free
 | [],_,hn=>hn
 | _::r,_,hn=>mS r (Hk hn)
theorem R7 {c:Ctx}(hr:av c){n off len esz:Nat}{els:List D}{v:Value}(hn:c.h n=.frz esz els) (h:aB c (.ms n off len) v) (hl:off+len<=els.length)
  (hv:∀x,x∈(els.drop off).take len->∀y∈x.cells,y.vone=true):aB c (.sl ((els.drop off).take len)) v:=by
 have hs:=hr.slot n
 rw[hn]at hs
 obtain⟨h1,h2,h3,h4⟩:=hs
 by_cases h0:len=0
 ·subst h0
  simp only[List.take_zero]
  cases h with
  | msDead _ _ _ _ _ _ hd=>rw[hn]at hd;cases hd
  | msNil _ _ _ _ _=>exact .lD _ _ (by simp[maxLen])
  | msE _ _ _ p _ _=>exact .lD _ _ (by simp[maxLen])
  | ms _ _ _ g esz' cap els' cur ty fr hrow hρ hl' hg hsz hc hm=>exact .lD _ _ hm
 ·have hlen:((els.drop off).take len).length=len:=by simp;omega
  cases h with
  | msDead _ _ _ _ _ _ hd=>rw[hn]at hd;cases hd
  | msNil _ _ _ _ _=>exact absurd rfl h0
  | msE _ _ _ p _ _=>exact absurd rfl h0
  | ms _ _ _ g esz' cap els' cur ty fr hrow hρ hl' hg hsz hc hm =>
   rw[hn]at hrow
   simp[Slot.row]at hrow
   obtain⟨rfl,rfl⟩:=hrow
   rcases h4 with⟨q,_⟩|⟨g',cur',ty',fr',q1,q2,q3,q4,q5⟩
   ·rw[hρ]at q;cases q
   ·rw[hρ]at q1
    cases q1
    have hci:∀i j d,aM ((els.drop off).take len) i j=some d->aM els (off+i) j=some d:=by
     intro i j d hd
     unfold aM at hd ⊢
     rw[eH]at hd
     split at hd
     ·exact hd
     ·simp at hd
    have:=aB.sl (c:=c) ((els.drop off).take len) g (off*esz) cap esz (fun i j=>cur'.getD ((off+i)*esz+j) Go.undef) (by intro e0;rw[e0]at hlen;simp at hlen;omega) (by omega) hm h1
     (fun e he=>h2 e (List.mem_of_mem_drop (List.mem_of_mem_take he)))
     (fun i j d hd=>by
      unfold aM at hd
      cases hz:((els.drop off).take len)[i]? with
      | none=>simp[hz]at hd
      | some z =>
       simp only[hz,Option.bind_some]at hd
       exact hv z (ak hz) d (ak hd))
     (fun i j d hd=>by
      have hd':=hci i j d hd
      have hlt:(off+i)*esz+j<cur'.size:=by
       have:=fR h2 hd'
       have:=(ah.1 this).1
       rw[bm h2]at this
       omega
      rw[show off*esz+(i*esz+j)=(off+i)*esz+j by rw[Nat.add_mul];omega]
      exact fy q2 hlt) q4 (fun i j d hd=>q5 _ _ _ (hci i j d hd))
    rw[hlen]at this
    exact this
theorem Kb {c c':Ctx}(hle:c.le c') (hr':av c'){d:D}{v:Value}(h:aB c d v) (hok:oE c.h d) (hfr:∀n esz els,n∈d.jV->(c.h n).row=some (esz,els)->c'.h n=.frz esz els) :
  aB c' (d.fzc c.h) v/\(d.one=true->(d.fzc c.h).one=true):=by
 cases d with
 | ms n off len =>
  obtain⟨esz,els,hrow,hl,hv⟩:=hok
  have hfz:D.fzc c.h (.ms n off len)=.sl ((els.drop off).take len):=by simp[D.fzc,hrow]
  rw[hfz]
  exact⟨R7 hr' (hfr n esz els (by simp[D.jV]) hrow) (h.mono hle) hl hv,fun _=>rfl⟩
 | _=>exact⟨h.mono hle,fun h=>h⟩
theorem DA {c c':Ctx}(hle:c.le c') (hr':av c'){d:D}{v:Value}(h:aB c d v) (h1:aN d) (hok:mB c.h d) (hfr:∀n esz els,n∈d.nm->(c.h n).row=some (esz,els)->c'.h n=.frz esz els) :
  aB c' (d.fz c.h) v/\aN (d.fz c.h)/\(d.fz c.h).cells.length=d.cells.length:=by
 by_cases ha:∃cs,d=.agg cs
 ·obtain⟨cs,rfl⟩:=ha
  have hfz:D.fz c.h (.agg cs)=.agg (cs.map (D.fzc c.h)):=rfl
  rw[hfz]
  cases h with
  | agg _ vs hsz hone hrel =>
   have key:∀(i:Nat) (d:D),(cs.map (D.fzc c.h))[i]?=some d->d.one=true/\aB c' d (vs.getD i Go.undef):=by
    intro i d hd
    rw[List.getElem?_map]at hd
    cases hi:cs[i]? with
    | none=>simp[hi]at hd
    | some x =>
     simp[hi]at hd
     subst hd
     have hx:=ak hi
     obtain⟨p1,p2⟩:=Kb hle hr' (hrel i x hi) (hok x (by simpa[D.cells] using hx)) (fun n esz els hn hrow=>hfr n esz els (by simp only[D.nm,List.mem_flatMap];exact⟨x,hx,hn⟩) hrow)
     exact⟨p2 (hone i x hi),p1⟩
   refine⟨.agg _ vs (by simpa using hsz) (fun i d hd=>(key i d hd).1) (fun i d hd=>(key i d hd).2),?_,by simp[D.cells]⟩
   intro x hx
   obtain⟨i,hi⟩:=aO (show x∈cs.map (D.fzc c.h) from hx)
   exact(key i x hi).1
 ·have hone:d.one=true:=by
   have:=h1 d (by cases d<;>simp_all [D.cells])
   exact this
  have hfz:D.fz c.h d=D.fzc c.h d:=by cases d<;>simp_all [D.fz]
  have hnm:d.nm=d.jV:=by cases d<;>simp_all [D.nm]
  rw[hfz]
  obtain⟨p1,p2⟩:=Kb hle hr' h (hok d (by cases d<;>simp_all [D.cells])) (by rw[<- hnm];exact hfr)
  have hc1:∀x:D,x.one=true->x.cells=[x]:=by intro x hx;cases x<;>simp_all [D.one,D.cells]
  refine⟨p1,?_,by rw[hc1 _ (p2 hone),hc1 _ hone];rfl⟩
  intro x hx
  rw[hc1 _ (p2 hone)]at hx
  simp at hx
  subst hx
  exact p2 hone
end Go.Am
namespace Go.Am
open Go
variable [bW]
variable {P:Program}{nt:Nat}
theorem Ao {esz:Nat}{els:List D}(hl:∀e∈els,e.cells.length=esz){i:Nat}(hi:i<=els.length):(flat els).take (i*esz)=flat (els.take i):=by
 have h1:flat els=flat (els.take i)++flat (els.drop i):=by rw[<- iZ,List.take_append_drop]
 have h2:(flat (els.take i)).length=i*esz:=by
  rw[bm (fun e he=>hl e (List.mem_of_mem_take he))]
  rw[List.length_take,Nat.min_eq_left hi]
 rw[h1, <- h2,List.take_left]
theorem E7 {esz:Nat}{els:List D}(hl:∀e∈els,e.cells.length=esz){i:Nat}(hi:i<=els.length):(flat els).drop (i*esz)=flat (els.drop i):=by
 have h1:flat els=flat (els.take i)++flat (els.drop i):=by rw[<- iZ,List.take_append_drop]
 have h2:(flat (els.take i)).length=i*esz:=by
  rw[bm (fun e he=>hl e (List.mem_of_mem_take he))]
  rw[List.length_take,Nat.min_eq_left hi]
 rw[h1, <- h2,List.drop_left]
theorem Ns {esz:Nat}{els:List D}(hl:∀e∈els,e.cells.length=esz){i:Nat}(hi:i<els.length) (d:D) :
  flat (els.set i d)=(flat els).take (i*esz)++d.cells++(flat els).drop (i*esz+esz):=by
 rw[List.set_eq_take_append_cons_drop,if_pos hi,iZ,Ao hl (by omega),show i*esz+esz=(i+1)*esz by rw[Nat.add_mul];omega,E7 hl (by omega),List.append_assoc]
 simp[flat]
theorem wO (els:List D):∀(ps:List (Nat×D)),(setEls els ps).length=els.length
 | []=>rfl
 | (i,d)::r=>by rw[setEls,wO _ r,List.length_set]
theorem wN {esz:Nat}:∀(ps:List (Nat×D)){els:List D},(∀e∈els,e.cells.length=esz)->(∀p∈ps,p.2.cells.length=esz)->∀e,e∈setEls els ps->e.cells.length=esz
 | [],_,hl,_=>hl
 | (i,d)::r,els,hl,hp=>by
  refine wN r (fun e he=>?_) (fun p h=>hp p (by simp[h]))
  rcases List.mem_or_eq_of_mem_set he with h|h
  ·exact hl e h
  ·rw[h];exact hp (i,d) (by simp)
theorem xk {esz:Nat}:∀(ps:List (Nat×D)){els:List D},(∀e∈els,e.cells.length=esz)->(∀p∈ps,p.2.cells.length=esz/\p.1<els.length) ->
  fillD (flat els) (ps.map fun p=>(p.1*esz,esz,p.2.cells))=flat (setEls els ps)
 | [],_,_,_=>rfl
 | (i,d)::r,els,hl,hp=>by
  obtain⟨h1,h2⟩:=hp (i,d) (by simp)
  rw[List.map_cons,fillD,setEls, <- Ns hl h2]
  refine xk r (fun e he=>?_) (fun p h=>?_)
  ·rcases List.mem_or_eq_of_mem_set he with h|h
   ·exact hl e h
   ·rw[h];exact h1
  ·obtain⟨q1,q2⟩:=hp p (by simp[h])
   exact⟨q1,by rw[List.length_set];exact q2⟩
def cPartsS (len:Nat):List (Nat×Operand)->Option (List (Nat×Arg))
 | []=>some []
 | (i,x)::r=>if i<len then match cArg x,cPartsS len r with
  | some y,some s=>some ((i,y)::s)
  | _,_=>none else none
theorem qH {len:Nat}:∀{ps:List (Nat×Operand)}{qs:List (Nat×Arg)},cPartsS len ps=some qs ->
  ps.length=qs.length/\∀(k:Nat) (p:Nat×Operand) (q:Nat×Arg),ps[k]?=some p->qs[k]?=some q->p.1=q.1/\cArg p.2=some q.2/\q.1<len
 | [],qs,h=>by simp[cPartsS]at h;subst h;simp
 | (i,x)::r,qs,h=>by
  simp only[cPartsS]at h
  split at h
  ·rename_i hi
   cases h2:cArg x with
   | none=>simp[h2]at h
   | some y =>
    cases h3:cPartsS len r with
    | none=>simp[h2,h3]at h
    | some s =>
     simp[h2,h3]at h
     subst h
     obtain⟨l,hh⟩:=qH h3
     refine⟨by simp[l],fun k p q hp hq=>?_⟩
     cases k with
     | zero=>simp at hp hq;subst hp hq;exact⟨rfl,h2,hi⟩
     | succ k=>exact hh k p q (by simpa using hp) (by simpa using hq)
  ·cases h
theorem EO {c:Ctx}{zd:D}{z:Value}(hz:fV c zd.cells z.cells.toList){esz len:Nat}(hsz:zd.cells.length=esz) (hpos:0<esz) :
  fV c (flat (List.replicate len zd)) ((Array.range (len*esz)).map (fun k=>z.cells[k % z.cells.size]!)).toList:=by
 have huni:∀e,e∈List.replicate len zd->e.cells.length=esz:=fun e he=>by rw[List.eq_of_mem_replicate he];exact hsz
 have hzs:z.cells.size=esz:=by rw[<- hsz, <- hz.len];simp
 refine⟨by rw[bm huni];simp,fun k d hd=>?_⟩
 have hk:=(ah.1 hd).1
 rw[bm huni]at hk
 simp at hk
 obtain⟨_,h2⟩:=gG (s7 hpos huni hd)
 obtain⟨p1,p2⟩:=hz.rel _ d h2
 refine⟨p1,?_⟩
 rw[aH,ye z.cells (by omega) _ _ hk,hzs, <- aH]
 exact p2
theorem Rt {o:Oper}{t elem:TypeId}{len esz:Nat}{ps:Array (Nat×Operand)}{qs:List (Nat×Arg)}{zd:D}(fz:Bool) (ho:o.op=.buildSlice t len ps) (hu:P.underlying t=some (.slice elem))
  (ht:(P.info? elem).map (·.size)=some esz) (hpos:0<esz) (hz:dP P elem=some zd) (hsz:zd.cells.length=esz) (hq:cPartsS len ps.toList=some qs) (hmax:len*esz<=16777216)
  (hd:∀i,o.dst=some i->i<nt):fv P nt o (.bldS fz esz len zd qs):=by
 obtain⟨z,hz1,hz2⟩:=fJ hz
 refine fv.unit fun K e c w a hv hp hr hs=>?_
 simp only[vcOp,uz,Fo]at hv
 obtain⟨hparts,hfz,hk⟩:=hv
 obtain⟨n,htop⟩:=dL hr
 have hn:=htop.free
 obtain⟨hlen,hspec⟩:=qH hq
 let ns:List Nat:=if fz then qs.flatMap fun p=>(p.2.get e).nm else []
 let h1:Heap:=c.h.freezeAll ns
 let c1:Ctx:=⟨c.ρ,c.X,h1,c.hp⟩
 obtain⟨hle1,hr1⟩:=fq hr ns
 have hn1:h1 n=.free:=mS ns hn
 let D':Nat×Arg->D:=fun p=>if fz then(p.2.get e).fz c.h else p.2.get e
 have hpart:∀(k:Nat) (p:Nat×Operand) (q:Nat×Arg),ps.toList[k]?=some p->qs[k]?=some q->aB c1 (D' q) (a.eval p.2)/\aN (D' q)/\(D' q).cells.length=esz:=by
  intro k p q hpk hqk
  obtain⟨_,s2,_⟩:=hspec k p q hpk hqk
  have hmem:=ak hqk
  obtain⟨_,q2,q3⟩:=hparts q hmem
  have rel:=aG s2 hs
  by_cases hf:fz=true
  ·have hD:D' q=(q.2.get e).fz c.h:=by simp[D',hf]
   rw[hD]
   obtain⟨f1,f2,f3⟩:=DA (c':=c1) hle1 hr1 rel q3 (hfz hf q hmem) (fun m es els hm hrow=>fX ns hrow (by
    simp only[ns,hf,if_true,List.mem_flatMap]
    exact⟨q,hmem,hm⟩))
   exact⟨f1,f2,f3.trans q2⟩
  ·have hD:D' q=q.2.get e:=by simp[D',hf]
   rw[hD]
   exact⟨rel.mono hle1,q3,q2⟩
 let els:=setEls (List.replicate len zd) (qs.map fun p=>(p.1,D' p))
 have huni0:∀e,e∈List.replicate len zd->e.cells.length=esz:=fun e he=>by rw[List.eq_of_mem_replicate he];exact hsz
 have hDlen:∀p,p∈qs.map (fun p=>(p.1,D' p))->p.2.cells.length=esz/\p.1<(List.replicate len zd).length:=by
  intro p hpm
  simp only[List.mem_map]at hpm
  obtain⟨q,hqm,rfl⟩:=hpm
  obtain⟨k,hk'⟩:=aO hqm
  have hkl:k<ps.toList.length:=by rw[hlen];exact(ah.1 hk').1
  have:=hpart k ps.toList[k] q (by simp) hk'
  exact⟨this.2.2,by simp;exact(hparts q hqm).1⟩
 have huni:∀e∈els,e.cells.length=esz:=wN _ huni0 (fun p hp=>(hDlen p hp).1)
 have hels:els.length=len:=by simp only[els];rw[wO];simp
 have hzr:=cW (gC hz2 c1) (fG hz2)
 let vs0:=(Array.range (len*esz)).map (fun k=>z.cells[k % z.cells.size]!)
 let vals:List (Nat×Value):=ps.toList.map fun p=>(p.1,a.eval p.2)
 obtain⟨cells',g1,g2,g3⟩:=DB (c:=c1) (fun i=>some (i*esz,esz)) vals ((qs.map fun p=>(p.1,D' p)).map fun p=>(p.1*esz,esz,p.2.cells)) vs0 (flat (List.replicate len zd)) (EO hzr hsz hpos)
  (by simp[vals,hlen]) (by
   intro k p q hpk hqk
   simp only[vals,List.getElem?_map,Option.map_eq_some_iff]at hpk hqk
   obtain⟨p',hp',rfl⟩:=hpk
   obtain⟨q'',⟨q',hq',rfl⟩,rfl⟩:=hqk
   obtain⟨s1,s2,s3⟩:=hspec k p' q' hp' hq'
   obtain⟨f1,f2,f3⟩:=hpart k p' q' hp' hq'
   refine⟨by simp[s1],cW f1 f2,f3,?_⟩
   rw[bm huni0]
   simp only[List.length_replicate]
   have:=Nat.mul_le_mul_right esz (show q'.1+1<=len from s3)
   rw[Nat.add_mul]at this
   omega)
 rw[xk _ huni0 hDlen]at g2
 have hc':cells'.size=len*esz:=by
  have:=g2.len
  rw[bm huni,hels]at this
  simpa using this
 have hst:=iu.new (c:=c1) (s:=.arr esz els) hn1 trivial (.cells cells' elem) (hp':=(w.alloc (.cells cells' elem)).heap) (by simp only[c1];rw[hp];rfl)
 have hrun:(execOp a.eval o).run P w=.ok (.value (.slice (some ⟨w.heap.size,0,none⟩) len len)) (w.alloc (.cells cells' elem)):=by
  have hvs:ps.map (fun(i,x)=>(i,a.eval x))=vals.toArray:=by apply Array.ext';simp[vals]
  by_cases h0:len*esz=0
  ·have hv0:vs0 = #[]:=by apply Array.eq_empty_of_size_eq_zero;simp[vs0,h0]
   rw[hv0]at g1
   simp[execOp,ho,hvs,Instr.buildSlice,run_underlying hu,run_sizeOf ht,h0,Array.range_zero',g1,cf]
  ·simp[execOp,ho,hvs,Instr.buildSlice,run_underlying hu,run_sizeOf ht,h0,show ¬(16777216<len*esz) by omega,bG hz1,vs0]at g1 ⊢
   simp[g1,cf]
 have hps:c1.hp.size=w.heap.size:=by simp only[c1];rw[hp]
 refine⟨_,_,aD c.ρ n (some c1.hp.size),aD h1 n (.arr esz els),.ms n 0 len,hrun,Or.inr ⟨_,rfl,hd,?_⟩,hle1.trans hst.le,hst.heap hr1 ?_,⟨rfl,rfl,rfl⟩,?_⟩
 ·have:=aB.ms (c:=⟨aD c.ρ n (some c1.hp.size),c.X,aD h1 n (.arr esz els),(w.alloc (.cells cells' elem)).heap⟩) n 0 len w.heap.size esz len els cells' elem (0,0) (by simp[aD,Slot.row]) (by simp[aD,hps])
   (by omega) (hQ _ _) (by rw[hc'];simp) (Nat.le_refl _) (by unfold maxLen;have:=Nat.le_mul_of_pos_right len hpos;omega)
  simpa using this
 ·simp only[ar]
  refine DP (hp:=w.heap) rfl (by simp[aD,hps]) hpos huni (by rw[hels,hc'];exact Nat.le_refl _) (fun i j d hd'=>?_)
  obtain⟨p1,p2⟩:=g2.rel _ d (fR huni hd')
  rw[aH]at p2
  exact⟨p1,p2.mono hst.le⟩
 ·have:=hk n htop
  cases fz
  ·simpa[els,D',h1,ns,Heap.freezeAll] using this
  ·simpa[els,D',h1,ns] using this
end Go.Am
namespace Go.Am
open Go
variable [bW]
variable {P:Program}{nt:Nat}
structure Src (P:Program) (c:Ctx) (w:World) (esz:Nat) (ys:List D) (v:Value):Prop where
 uni:∀e∈ys,e.cells.length=esz
 row:∃(p:Option Addr) (cap:Nat) (news:List Value),v=.slice p ys.length cap/\ys.length<=maxLen/\fV c (flat ys) news /\
  ∀(k:Nat) (w':World),k<=ys.length->w'.heap=w.heap->(Builtin.firstCells esz k v).run P w'=.ok (news.take (k*esz)).toArray w'
theorem Jz {c:Ctx}{w:World}(hp:c.hp=w.heap){esz:Nat}(hpos:0<esz){ys:List D}(huni:∀e∈ys,e.cells.length=esz) (hone:∀y∈ys,aN y){b o cap:Nat}
  (hcell:∀i j d,aM ys i j=some d->∃v,cellOf c.hp b (o+(i*esz+j))=some v/\aB c d v) (hm:ys.length<=maxLen):Src P c w esz ys (.slice (some ⟨b,o,none⟩) ys.length cap):=by
 let news:List Value:=(List.range (ys.length*esz)).map fun k=>(cellOf c.hp b (o+k)).getD Go.undef
 have hnl:news.length=ys.length*esz:=by simp[news]
 have hget:∀(k:Nat) (d:D),(flat ys)[k]?=some d->cellOf c.hp b (o+k)=some (news.getD k Go.undef)/\aB c d (news.getD k Go.undef):=by
  intro k d hd
  have hk:=(ah.1 hd).1
  rw[bm huni]at hk
  obtain⟨v,h1,h2⟩:=hcell _ _ _ (s7 hpos huni hd)
  rw[Nat.mul_comm,Nat.div_add_mod]at h1
  have:news.getD k Go.undef=v:=by simp[news,List.getD,hk,h1]
  rw[this]
  exact⟨h1,h2⟩
 refine⟨huni,some ⟨b,o,none⟩,cap,news,rfl,hm,⟨by rw[hnl,bm huni],fun k d hd=>⟨?_,(hget k d hd).2⟩⟩,fun k w' hk hw=>?_⟩
 ·have hmem:=ak hd
  simp only[flat,List.mem_flatMap]at hmem
  obtain⟨y,hy,hdy⟩:=hmem
  exact hone y hy d hdy
 ·have hl:(news.take (k*esz)).length=k*esz:=by
   rw[List.length_take,hnl]
   have:=Nat.mul_le_mul_right esz hk
   omega
  have:=run_loadCells_list (P:=P) (w:=w') ⟨b,o,none⟩ (news.take (k*esz)) (fun j v hj=>by
   rw[List.getElem?_take]at hj
   split at hj
   ·rename_i hjk
    have hjl:j<(flat ys).length:=by
     rw[bm huni]
     have:=Nat.mul_le_mul_right esz hk
     omega
    obtain⟨h1,_⟩:=hget j (flat ys)[j] (by simp[hjl])
    rw[Addr.add_lit,pC,hw, <- hp,h1]
    simp[List.getD,hj]
   ·cases hj)
  rw[hl]at this
  simpa[Builtin.firstCells] using this
theorem Cq {c:Ctx}{w:World}{esz:Nat}(p:Option Addr) (cap:Nat):Src P c w esz [] (.slice p 0 cap):=by
 refine⟨by simp,p,cap,[],rfl,by simp[maxLen],⟨rfl,by simp[flat]⟩,fun k w' hk _=>?_⟩
 have hk0:k=0:=by simpa using hk
 subst hk0
 cases p with
 | none=>simp[Builtin.firstCells]
 | some a=>simp[Builtin.firstCells,loadCells,loadCellsFrom]
theorem wG {c:Ctx}{w:World}(hr:av c) (hp:c.hp=w.heap){esz:Nat}(hpos:0<esz){d:D}{v:Value}(h:aB c d v){K:List D->Prop}(hv:velems esz d c.h fun ys=>(∀y∈ys,aN y)/\K ys) :
  ∃ys,K ys/\(∀y∈ys,aN y)/\Src P c w esz ys v:=by
 unfold velems at hv
 split at hv
 ·cases h
  exact⟨[],hv.2,hv.1,Cq _ _⟩
 ·rename_i xs
  obtain⟨huni,hone,hk⟩:=hv
  refine⟨xs,hk,hone,?_⟩
  cases h with
  | lD p cap hm=>exact Cq _ _
  | sl _ b o cap esz' f hne hc hm he hlen hone' hcell hown hrel =>
   have hesz:esz'=esz:=by
    cases xs with
    | nil=>exact absurd rfl hne
    | cons x r=>rw[<- hlen x (by simp),huni x (by simp)]
   subst hesz
   exact Jz hp hpos huni hone (fun i j d hd=>⟨_,hcell i j d hd,hrel i j d hd⟩) (by omega)
 ·rename_i n off len
  obtain⟨els,hrow,hl,hone,hk⟩:=hv
  obtain⟨_,hlens,hones,hm⟩:=JE hr hrow
  have hlen:((els.drop off).take len).length=len:=by simp;omega
  refine⟨_,hk,hone,?_⟩
  cases h with
  | msDead _ _ _ _ _ _ hd=>rw[hd]at hrow;simp[Slot.row]at hrow
  | msNil _ _ _ _ _=>simp only[List.take_zero];exact Cq _ _
  | msE _ _ _ p _ _=>simp only[List.take_zero];exact Cq _ _
  | ms _ _ _ g esz' cap els' cur ty fr hrow' hρ hl' hg hsz hc hmax =>
   rw[hrow]at hrow'
   simp at hrow'
   obtain⟨rfl,rfl⟩:=hrow'
   rcases hm with⟨q,_⟩|⟨g',cur',ty',fr',q1,q2,q3,q4⟩
   ·rw[hρ]at q;cases q
   ·rw[hρ]at q1
    cases q1
    have:=Jz (P:=P) (cap:=cap) (b:=g) (o:=off*esz) hp hpos (ys:=(els.drop off).take len) (fun e he=>hlens e (List.mem_of_mem_drop (List.mem_of_mem_take he))) hone (fun i j d hd=>by
     have hd':aM els (off+i) j=some d:=by
      unfold aM at hd ⊢
      rw[eH]at hd
      split at hd
      ·exact hd
      ·simp at hd
     have hlt:(off+i)*esz+j<cur'.size:=by
      have:=(ah.1 (fR hlens hd')).1
      rw[bm hlens]at this
      omega
     refine⟨_,?_,q4 _ _ _ hd'⟩
     rw[show off*esz+(i*esz+j)=(off+i)*esz+j by rw[Nat.add_mul];omega]
     exact fy q2 hlt) (by rw[hlen];omega)
    rw[hlen]at this
    exact this
 ·exact hv.elim
def Heap.killO (h:Heap):Option Nat->Heap
 | some k=>aD h k .dead
 | none=>h
theorem Dx {c:Ctx}(hr:av c){n:Nat}(hn:c.h n=.free) (m:Option Nat) (hm:∀k,m=some k->∃e l,c.h k=.arr e l){esz:Nat}(hpos:0<esz) :
  c.le ⟨aD c.ρ n none,c.X,aD (c.h.killO m) n (.arr esz []),c.hp⟩ /\
  av ⟨aD c.ρ n none,c.X,aD (c.h.killO m) n (.arr esz []),c.hp⟩:=by
 let h1:Heap:=c.h.killO m
 have hh1:∀k,h1 k=c.h k\/(h1 k=.dead/\∃e l,c.h k=.arr e l):=by
  intro k
  simp only[h1]
  cases m with
  | none=>exact Or.inl rfl
  | some j =>
   by_cases hk:k=j
   ·subst hk;exact Or.inr ⟨by simp[Heap.killO,aD],hm k rfl⟩
   ·exact Or.inl (by simp[Heap.killO,aD,hk])
 have sub:∀k,k≠n->(aD h1 n (.arr esz []) k).mine->(c.h k).mine:=by
  intro k hk hmine
  rw[an _ _ hk]at hmine
  rcases hh1 k with h|⟨h,_⟩
  ·rw[h]at hmine;exact hmine
  ·rw[h]at hmine;cases hmine
 have hle:c.le ⟨aD c.ρ n none,c.X,aD h1 n (.arr esz []),c.hp⟩:=by
  refine⟨Nat.le_refl _,rfl,fun _ _ _=>rfl,fun _ cur _ _ h=>⟨cur,h,rfl⟩,fun _ r h=>⟨r,h,rfl⟩,fun k hk=>?_,fun k=>?_,fun k g hmine hρ _=>?_⟩
  ·have:k≠n:=by rintro rfl;exact hk hn
   simp[aD,this]
  ·by_cases hk:k=n
   ·subst hk;simp only[ar];rw[hn];exact .free _
   ·simp only[an _ _ hk]
    rcases hh1 k with h|⟨h,e,l,h'⟩
    ·rw[h];exact Trans.refl _
    ·rw[h,h'];exact .arrDead _ _
  ·by_cases hk:k=n
   ·subst hk;simp[aD]at hρ
   ·exact⟨k,sub k hk hmine,by simpa[aD,hk] using hρ⟩
 refine⟨hle,fun k=>?_,fun k1 k2 g m1 m2 r1 r2=>?_,fun k g hmine hρ=>?_,hr.xlt,?_,hr.glob.mono hle,hr.lo⟩
 ·by_cases hk:k=n
  ·subst hk
   simp only[ar]
   exact⟨hpos,by simp,fun i j d hd=>by simp[aM]at hd,Or.inl ⟨by simp[aD],rfl⟩⟩
  ·simp only[an _ _ hk]
   show cM _ k (h1 k)
   rcases hh1 k with h|⟨h,_⟩
   ·rw[h];exact iW hle (hr.slot k) (fun _ _=>by simp[aD,hk]) (fun _ _ _=>rfl)
   ·rw[h];trivial
 ·have n1:k1≠n:=by rintro rfl;simp[aD]at r1
  have n2:k2≠n:=by rintro rfl;simp[aD]at r2
  exact hr.inj k1 k2 g (sub k1 n1 m1) (sub k2 n2 m2) (by simpa[aD,n1] using r1) (by simpa[aD,n2] using r2)
 ·have n1:k≠n:=by rintro rfl;simp[aD]at hρ
  exact hr.apart k g (sub k n1 hmine) (by simpa[aD,n1] using hρ)
 ·obtain⟨N,hN⟩:=hr.fin
  refine⟨N+n+1,fun k hk=>?_⟩
  simp only[an _ _ (show k≠n by omega)]
  show h1 k=.free
  rcases hh1 k with h|⟨h,e,l,h'⟩
  ·rw[h];exact hN k (by omega)
  ·rw[hN k (by omega)]at h';cases h'
theorem mM {t t' e ty:TypeId}{i:TypeInfo}{z:Value}(ht:P.underlying t=some (.slice e)) (ht':∃e',P.underlying t'=some (.slice e')) (hi:P.info? e=some i) (hz:i.zero=some z)
  {w:World}{base p:Option Addr}{sLen sCap n cp:Nat}{olds news:List Value}
  (hnews:∀w':World,w'.heap=w.heap->(Builtin.firstCells i.size n (.slice p n cp)).run P w'=.ok news.toArray w')
  (holds:∀w':World,w'.heap=w.heap->(Builtin.firstCells i.size sLen (.slice base sLen sCap)).run P w'=.ok olds.toArray w')
  (h63:sLen+n<=9223372036854775807) (hby:(sLen+n)*i.bytes<=140737488355328) :
  (sLen+n<=sCap->∀w',(match base with|some a=>storeCells (a.add (sLen*i.size)) news|none=>(pure ():Sem Unit)).run P w=.ok () w' ->
   (Builtin.append_ #[t,t'] ty #[.slice base sLen sCap,.slice p n cp]).run P w=.ok (.slice base (sLen+n) sCap) w') /\
  (sCap<sLen+n->(Builtin.append_ #[t,t'] ty #[.slice base sLen sCap,.slice p n cp]).run P w =
   .ok (.slice (some ⟨w.heap.size,0,none⟩) (sLen+n) (grownCap w (sLen+n) sCap e))
    (w.drew.alloc (.cells (olds.toArray++news.toArray++Builtin.zeroCells z.cells (grownCap w (sLen+n) sCap e-(sLen+n))) e))):=by
 obtain⟨e',ht'⟩:=ht'
 constructor
 ·intro hle w' hst
  cases base with
  | none =>
   simp only[Sem.run_pure]at hst
   cases hst
   simp[Builtin.append_,run_underlying ht,run_underlying ht',sizeOf,typeInfo,hi,Builtin.lenOf,hle,hnews w rfl]
  | some a =>
   simp only at hst
   simp[Builtin.append_,run_underlying ht,run_underlying ht',sizeOf,typeInfo,hi,Builtin.lenOf,hle,hnews w rfl,hst]
 ·intro hgt
  have hn:¬(sLen+n<=sCap):=by omega
  have h63':¬(9223372036854775807<((sLen:Int)+(n:Int))):=by omega
  have hfit:=growslice_fits hgt hby
  have h48':¬(281474976710656<Builtin.nextslicecap (sLen+n) sCap*i.bytes):=by omega
  have hf:=hnews w.drew rfl
  have hfo:=holds w.drew rfl
  simp[Builtin.append_,run_underlying ht,run_underlying ht',sizeOf,typeInfo,zeroValue,hi,hz,Builtin.lenOf,hn,h63',h48',Question.forced,hf,hfo,newRow,grownCap]
  congr 2
  apply Array.ext'
  simp[List.append_assoc]
def isZ:Option Arg->Bool
 | some (.c (.int _ 0))=>true
 | _=>false
theorem G7 {x:Option Arg}(h:isZ x=true) (e:LEnv) (n:Nat):vopt e x n (· = 0):=by
 unfold isZ at h
 split at h
 ·exact rfl
 ·cases h
theorem E3 {c:Ctx}(hr:av c){n:Nat}(hn:Trans (c.h n) .dead) (hf:c.h n≠.free):c.le ⟨c.ρ,c.X,aD c.h n .dead,c.hp⟩/\av ⟨c.ρ,c.X,aD c.h n .dead,c.hp⟩:=by
 have sub:∀k,(aD c.h n .dead k).mine->(c.h k).mine:=by
  intro k hk
  by_cases h:k=n
  ·subst h;simp[aD,Slot.mine]at hk
  ·simpa[aD,h] using hk
 have hle:c.le ⟨c.ρ,c.X,aD c.h n .dead,c.hp⟩:=by
  refine⟨Nat.le_refl _,rfl,fun _ _ _=>rfl,fun _ cur _ _ h=>⟨cur,h,rfl⟩,fun _ r h=>⟨r,h,rfl⟩,fun _ _=>rfl,fun k=>?_,fun k g hm hρ _=>⟨k,sub k hm,hρ⟩⟩
  by_cases h:k=n
  ·subst h;simp only[ar];exact hn
  ·simp only[an _ _ h];exact Trans.refl _
 refine⟨hle,fun k=>?_,fun k1 k2 g m1 m2 r1 r2=>hr.inj k1 k2 g (sub k1 m1) (sub k2 m2) r1 r2,fun k g hm hρ=>hr.apart k g (sub k hm) hρ,hr.xlt,?_,hr.glob.mono hle,hr.lo⟩
 ·by_cases h:k=n
  ·subst h;simp only[ar];trivial
  ·simp only[an _ _ h]
   exact iW hle (hr.slot k) (fun _ _=>rfl) (fun _ _ _=>rfl)
 ·obtain⟨N,hN⟩:=hr.fin
  refine⟨N+n+1,fun k hk=>?_⟩
  simp only[an _ _ (show k≠n by omega)]
  exact hN k (by omega)
theorem Tg {o:Oper}{t elem:TypeId}{x:Operand}{x':Arg}{n:Nat}(ho:o.op=.slice t x none none none) (hx:cArg x=some x')
  (hd:∀i,o.dst=some i->i<nt) (hu:P.underlying t=some (.array n elem)) (ht:(P.info? elem).map (·.size)=some 1):fv P nt o (.L0 x' n):=by
 refine fv.unit fun K e c w a hv hp hr hs=>?_
 have rx:=aG hx hs
 simp only[vcOp]at hv
 generalize hgx:x'.get e=dx at hv rx
 cases dx<;>try exact hv.elim
 rename_i m i j
 cases hm:c.h m<;>simp only[hm]at hv<;>try exact hv.elim
 rename_i v
 cases v<;>simp only at hv<;>try exact hv.elim
 rename_i cs
 obtain⟨rfl,hn0,hnm,hj,hone,hk⟩:=hv
 have hsl:=hr.slot m
 rw[hm]at hsl
 obtain⟨g,cur,ty,h1,h2,h3,h4⟩:=hsl
 obtain⟨k1,k2⟩:=E3 hr (n:=m) (by rw[hm];exact .boxDead _) (by rw[hm];simp)
 generalize hax:a.eval x=vx at rx
 cases rx with
 | ptrDead _ _ _ _ _ hdd=>rw[hdd]at hm;cases hm
 | ptrRow _ _ _ _ _ _ hrow _ _=>rw[hm]at hrow;simp[Slot.row]at hrow
 | ptrBox _ _ g' v' hb hρ =>
  rw[h1]at hρ
  cases hρ
  have hrun:(execOp a.eval o).run P w=.ok (.value (.slice (some ⟨g,j,none⟩) n n)) w:=by
   have hb:(Instr.sliceBounds false n n none none none).run P w=.ok (0,n,n) w :=
    eh (by simp) (fun v y cd h hy=>by cases h) (fun _=>rfl) (fun v y cd h hy=>by cases h) (fun _=>rfl) (fun v y cd h hy=>by cases h) (fun _=>rfl) (Nat.zero_le _) (Nat.le_refl _) (Nat.le_refl _) false
   have hne:n≠0:=by omega
   simp[execOp,ho,hax,Instr.sliceAt,Instr.slice,Sem.run_bind,Result.andThen,run_underlying hu,run_sizeOf ht,hb,Instr.sureAddr,Addr.add_lit,hne]
  have hlen:((cs.drop j).take n).length=n:=by rw[List.length_take,List.length_drop];omega
  have hget:∀(i:Nat) (d:D),((cs.drop j).take n)[i]?=some d->cs[j+i]?=some d:=by
   intro i d hd
   rw[List.getElem?_take]at hd
   split at hd
   ·rw[List.getElem?_drop]at hd;exact hd
   ·cases hd
  have cell:∀(i k:Nat) (d:D),aM ((cs.drop j).take n) i k=some d->k=0/\((cs.drop j).take n)[i]?=some d:=by
   intro i k d hd
   simp only[aM,Option.bind_eq_some_iff]at hd
   obtain⟨y,hy,hk⟩:=hd
   have hy1:=hone y (ak hy)
   have hyc:y.cells=[y]:=by cases y<;>first|rfl|cases hy1
   rw[hyc]at hk
   cases k with
   | zero=>simp at hk;subst hk;exact⟨rfl,hy⟩
   | succ k=>simp at hk
  have hnown:¬(⟨c.ρ,c.X,aD c.h m .dead,c.hp⟩:Ctx).own g:=by
   rintro (hX|⟨q,hq,hρ⟩)
   ·exact hr.apart m g (by rw[hm];trivial) h1 hX
   ·by_cases hqm:q=m
    ·subst hqm;simp[aD,Slot.mine]at hq
    ·simp only[an _ _ hqm]at hq
     exact hqm (hr.inj q m g hq (by rw[hm];trivial) hρ h1)
  have hsz:cur.size=cs.length:=h3
  refine⟨_,w,c.ρ,aD c.h m .dead,.sl ((cs.drop j).take n),hrun,Or.inr ⟨_,rfl,hd,?_⟩,?_,?_,WS.refl w,hk⟩
  ·rw[<- hp]
   have:=aB.sl (c:=⟨c.ρ,c.X,aD c.h m .dead,c.hp⟩) ((cs.drop j).take n) g j n 1 (fun i _=>cur.getD (j+i) Go.undef) (by intro h0;rw[h0]at hlen;simp at hlen;omega) (by omega) (by unfold maxLen;omega) (by omega)
    (fun y hy=>by have hy1:=hone y hy;cases y<;>first|rfl|cases hy1)
    (fun i k d hd=>hone d (ak (cell i k d hd).2))
    (fun i k d hd=>by
     obtain⟨rfl,hd2⟩:=cell i k d hd
     have hlt:=(ah.1 (hget i d hd2)).1
     simp only[cellOf,h2,Nat.mul_one,Nat.add_zero]
     have:j+i<cur.size:=by rw[hsz];exact hlt
     simp[this])
    hnown
    (fun i k d hd=>by
     obtain⟨rfl,hd2⟩:=cell i k d hd
     exact((h4 (j+i) d (hget i d hd2)).2).mono k1)
   rw[hlen]at this
   exact this
  ·rw[<- hp];exact k1
  ·rw[<- hp];exact k2
theorem Te {o:Oper}{t elem:TypeId}{x hi mx:Operand}{x':Arg}{hi' mx':Option Arg}{esz:Nat}(ho:o.op=.slice t x none (some hi) (some mx)) (hx:cArg x=some x')
  (hhi:cOpt (some hi)=some hi') (hmx:cOpt (some mx)=some mx') (hz1:isZ hi'=true) (hz2:isZ mx'=true)
  (hd:∀i,o.dst=some i->i<nt) (hu:P.underlying t=some (.slice elem)) (ht:(P.info? elem).map (·.size)=some esz) (hpos:0<esz):fv P nt o (.slz x' esz):=by
 refine fv.unit fun K e c w a hv hp hr hs=>?_
 have rx:=aG hx hs
 simp only[vcOp]at hv
 have form:∃p len cap,a.eval x=.slice p len cap/\∀n,pc c.h n->K (.ms n 0 0) (aD c.h n (.arr esz [])):=by
  generalize hgx:x'.get e=dx at hv rx
  cases dx<;>try exact hv.elim
  ·generalize a.eval x=vx at rx
   cases rx with
   | nil=>exact⟨_,_,_,rfl,hv⟩
  ·obtain⟨p,cap,he,hcap,hmax⟩:=AV rx
   exact⟨_,_,_,he,hv⟩
  ·obtain⟨⟨els,hrow⟩,hk⟩:=hv
   generalize a.eval x=vx at rx
   cases rx with
   | msDead _ _ _ _ _ _ hdd=>rw[hdd]at hrow;simp[Slot.row]at hrow
   | msNil _ _ _ _ _=>exact⟨_,_,_,rfl,hk⟩
   | msE _ _ _ p _ _=>exact⟨_,_,_,rfl,hk⟩
   | ms _ _ _ g esz' cap els' cur ty fr hrow' hρ hl hg hsz hc hm=>exact⟨_,_,_,rfl,hk⟩
 obtain⟨p,len,cap,he,hk⟩:=form
 obtain⟨r,r1,-,rr⟩:=fi (P:=P) (dflt:=0) hs hhi (G7 hz1 e 0)
 obtain⟨m,m1,-,mr⟩:=fi (P:=P) (dflt:=0) hs hmx (G7 hz2 e 0)
 subst r1 m1
 have hb:(Instr.sliceBounds true len cap none (some (a.eval hi)) (some (a.eval mx))).run P w=.ok (0,0,0) w :=
  eh (by simp) (fun v y cd h hy=>by cases h) (fun _=>rfl) (fun v y cd h hy=>by simpa using rr v y cd w (by simpa using h) (Int.le_refl _) (by simpa using hy)) (fun h=>by cases h)
   (fun v y cd h hy=>by simpa using mr v y cd w (by simpa using h) (Int.le_refl _) (by simpa using hy)) (fun h=>by cases h) (Nat.le_refl _) (Nat.le_refl _) (Nat.zero_le _) true
 obtain⟨n,htp⟩:=dL hr
 obtain⟨g1,g2⟩:=Dx hr htp.free none (fun k hk=>by cases hk) hpos
 rw[hp]at g1 g2
 have hrun:(execOp a.eval o).run P w=.ok (.value (.slice p 0 0)) w:=by
  simp[execOp,ho,he,Instr.sliceAt,Instr.slice,Sem.run_bind,Result.andThen,run_underlying hu,run_sizeOf ht,hb]
 exact⟨_,_,_,_,.ms n 0 0,hrun,Or.inr ⟨_,rfl,hd,.msE n 0 esz p [] (by simp[aD,Slot.row])⟩,g1,g2,WS.refl w,hk n htp⟩
end Go.Am
namespace Go.Am
open Go
variable [bW]
variable {P:Program}{nt:Nat}
theorem IW (z:Array Value) (n:Nat):(Builtin.zeroCells z n).size=n*z.size:=by simp[Builtin.zeroCells]
theorem Km {c:Ctx}{w:World}{K:HKq}(hr:av c) (hp:c.hp=w.heap){esz:Nat}(hpos:0<esz){els ys:List D}(hlens:∀e∈els,e.cells.length=esz) (hones:lA els)
  (huni:∀e∈ys,e.cells.length=esz) {olds news:List Value}(ro:fV c (flat els) olds) (rn:fV c (flat ys) news) (m:Option Nat) (hm:∀k,m=some k->∃l,c.h k=.arr esz l)
  (hk:∀n,pc c.h n->K (.ms n 0 (els.length+ys.length)) (aD (c.h.killO m) n (.arr esz (els++ys)))) (hmax:els.length+ys.length<=maxLen) :
  (∀(vs:Array Value) (ty:TypeId) (cap:Nat) (w':World),w'.heap=w.heap.push (.cells vs ty)->WS w w'->(olds++news) <+: vs.toList->cap*esz<=vs.size->els.length+ys.length<=cap->cap<=maxLen ->
   ∃ρ h' d,aB ⟨ρ,c.X,h',w'.heap⟩ d (.slice (some ⟨w.heap.size,0,none⟩) (els.length+ys.length) cap)/\c.le ⟨ρ,c.X,h',w'.heap⟩/\av ⟨ρ,c.X,h',w'.heap⟩/\K d h') /\
  (∀(p:Option Addr),els.length+ys.length=0 ->
   ∃ρ h' d,aB ⟨ρ,c.X,h',w.heap⟩ d (.slice p 0 0)/\c.le ⟨ρ,c.X,h',w.heap⟩/\av ⟨ρ,c.X,h',w.heap⟩/\K d h'):=by
 obtain⟨n,ht⟩:=dL hr
 have hn:=ht.free
 have hall:∀e,e∈els++ys->e.cells.length=esz:=by
  intro e he
  rcases List.mem_append.1 he with h|h
  ·exact hlens e h
  ·exact huni e h
 constructor
 ·intro vs ty cap w' hw' hws hpre hcap hle hcm
  let hk1:Heap:=c.h.killO m
  have hne:∀k,m=some k->k≠n:=by
   rintro k hmk rfl
   obtain⟨l,hl⟩:=hm k hmk
   rw[hn]at hl;cases hl
  have hst:iu c ⟨aD c.ρ n (some w.heap.size),c.X,aD hk1 n (.arr esz (els++ys)),w'.heap⟩ (m.getD n) n w.heap.size:=by
   refine⟨rfl,fun k h1 h2=>?_,fun k h1=>by simp[aD,h1],Or.inr hn,fun h=>?_,by simp[aD,Slot.mine],by simp[aD],by rw[hn];exact .free _,fun h=>absurd hn h,by rw[hw',hp];simp,fun k h1 h2=>?_,fun cur ty' fr h=>?_,fun r h=>?_,Or.inl (by rw[hp];exact Nat.le_refl _)⟩
   ·simp only[an _ _ h1]
    show hk1 k=c.h k
    simp only[hk1]
    cases m with
    | none=>rfl
    | some j=>simp only[Option.getD_some]at h2;simp[Heap.killO,aD,h2]
   ·cases m with
    | none=>exact absurd rfl h
    | some j =>
     simp only[Option.getD_some]at h ⊢
     obtain⟨l,hl⟩:=hm j rfl
     refine⟨?_,by rw[hl];exact .arrDead _ _⟩
     simp only[an _ _ (show j≠n from fun e=>h e.symm)]
     show hk1 j=.dead
     simp[hk1,Heap.killO,aD]
   ·simp only;rw[hw',hp,Array.getElem?_push,if_neg (by rw[hp]at h1;omega)]
   ·rw[hp]at h
    have:=(Array.getElem?_eq_some_iff.1 h).1
    omega
   ·rw[hp]at h
    have:=(Array.getElem?_eq_some_iff.1 h).1
    omega
  have hval:∀k,k<(olds++news).length->vs.getD k Go.undef=(olds++news).getD k Go.undef:=by
   intro k hk'
   obtain⟨t,ht⟩:=hpre
   rw[<- aH, <- ht]
   simp only[List.getD]
   rw[List.getElem?_append_left hk']
  have rall:fV c (flat (els++ys)) (olds++news):=by rw[iZ];exact ro.append rn
  have hsz:(els++ys).length*esz<=vs.size:=Nat.le_trans (Nat.mul_le_mul_right _ (by simpa using hle)) hcap
  have hslot:cM ⟨aD c.ρ n (some w.heap.size),c.X,aD hk1 n (.arr esz (els++ys)),w'.heap⟩ n (.arr esz (els++ys)):=by
   refine DP (hp:=w.heap) hw' (by simp[aD]) hpos hall hsz (fun i j d hd=>?_)
   have hfg:=fR hall hd
   obtain⟨p1,p2⟩:=rall.rel _ d hfg
   refine⟨p1,?_⟩
   rw[hval _ (by rw[rall.len];exact(ah.1 hfg).1)]
   exact p2.mono hst.le
  refine⟨aD c.ρ n (some w.heap.size),aD hk1 n (.arr esz (els++ys)),.ms n 0 (els.length+ys.length),?_,hst.le,hst.heap hr (by simp only[ar];exact hslot),hk n ht⟩
  have:=aB.ms (c:=⟨aD c.ρ n (some w.heap.size),c.X,aD hk1 n (.arr esz (els++ys)),w'.heap⟩) n 0 (els.length+ys.length) w.heap.size esz cap (els++ys) vs ty (0,0) (by simp[aD,Slot.row]) (by simp[aD])
   (by simp) (by simp only;rw[hw'];exact hQ _ _) (by simpa using hcap) hle hcm
  simpa using this
 ·intro p h0
  have e1:els=[]:=List.eq_nil_of_length_eq_zero (by omega)
  have e2:ys=[]:=List.eq_nil_of_length_eq_zero (by omega)
  subst e1 e2
  obtain⟨g1,g2⟩:=Dx hr hn m (fun k hmk=>by obtain⟨l,hl⟩:=hm k hmk;exact⟨esz,l,hl⟩) hpos
  rw[hp]at g1 g2
  refine⟨_,_,.ms n 0 0,?_,g1,g2,by simpa using hk n ht⟩
  exact .msE n 0 esz p [] (by simp[aD,Slot.row])
theorem Tt {o:Oper}{t t' elem:TypeId}{s x:Operand}{s' x':Arg}{i:TypeInfo}{zd:D}(ho:o.op=.call { callee:=.builtin .append,args:= #[s,x],argTypes:= #[t,t'] })
  (hs':cArg s=some s') (hx:cArg x=some x') (hd:∀i,o.dst=some i->i<nt) (hu:P.underlying t=some (.slice elem)) (hu':∃e',P.underlying t'=some (.slice e')) (hi:P.info? elem=some i) (hz:dP P elem=some zd)
  (hsz:zd.cells.length=i.size) (hpos:0<i.size):fv P nt o (.app s' x' i.size i.bytes zd):=by
 obtain⟨z,hz1,hz2⟩:=fJ hz
 have hiz:i.zero=some z:=by simpa[hi] using hz1
 refine fv.unit fun K e c w a hv hp hr hs=>?_
 simp only[vcOp]at hv
 have rs:=aG hs' hs
 have rx:=aG hx hs
 obtain⟨ys,hv,hyone,hsrc⟩:=wG (P:=P) (w:=w) hr hp hpos rx hv
 obtain⟨p,cp,news,hxv,hymax,rn,hnews⟩:=hsrc.row
 have hzs:z.cells.size=i.size:=by
  have:=(cW (gC hz2 c) (fG hz2)).len
  rw[<- hsz, <- this];simp
 have hn1:∀w':World,w'.heap=w.heap->(Builtin.firstCells i.size ys.length (.slice p ys.length cp)).run P w'=.ok news.toArray w':=by
  intro w' hw'
  have:=hnews ys.length w' (Nat.le_refl _) hw'
  rw[hxv]at this
  have hnl:news.take (ys.length*i.size)=news:=by
   rw[List.take_of_length_le]
   rw[rn.len,bm hsrc.uni];exact Nat.le_refl _
  rw[hnl]at this
  exact this
 have hexec:∀v w',(Builtin.append_ #[t,t'] o.type #[a.eval s,a.eval x]).run P w=.ok v w'->(execOp a.eval o).run P w=.ok (.value v) w':=by
  intro v w' h
  rw[exec_builtin ho]
  simp[builtin,h]
 have grow:∀(els:List D) (olds:List Value) (base:Option Addr) (sLen sCap:Nat) (m:Option Nat),a.eval s=.slice base sLen sCap->sLen=els.length->(∀e∈els,e.cells.length=i.size)->lA els->fV c (flat els) olds ->
   (∀w':World,w'.heap=w.heap->(Builtin.firstCells i.size sLen (.slice base sLen sCap)).run P w'=.ok olds.toArray w')->(∀k,m=some k->∃l,c.h k=.arr i.size l) ->
   (sLen+ys.length)*i.bytes<=140737488355328->sLen+ys.length<=9223372036854775807 ->
   (∀n,pc c.h n->K (.ms n 0 (els.length+ys.length)) (aD (c.h.killO m) n (.arr i.size (els++ys))))->sCap<sLen+ys.length ->
   ∃v w' ρ h' d,(execOp a.eval o).run P w=.ok v w'/\(v=.skip/\o.dst=none\/∃x,v=.value x/\(∀i,o.dst=some i->i<nt)/\aB ⟨ρ,c.X,h',w'.heap⟩ d x) /\
    c.le ⟨ρ,c.X,h',w'.heap⟩/\av ⟨ρ,c.X,h',w'.heap⟩/\WS w w'/\K d h':=by
  intro els olds base sLen sCap m hse hsl hlens hones ro holds hm hby h63 hk hgt
  subst hsl
  have hrun:=(mM (P:=P) (ty:=o.type) hu hu' hi hiz (w:=w) hn1 holds h63 hby).2 hgt
  rw[<- hse, <- hxv]at hrun
  have hge:=grownCap_ge w (els.length+ys.length) sCap elem
  have hcm:=grownCap_le_maxLen w (els.length+ys.length) sCap elem (by unfold maxLen;omega)
  have hol:olds.length=els.length*i.size:=by rw[ro.len,bm hlens]
  have hnl:news.length=ys.length*i.size:=by rw[rn.len,bm hsrc.uni]
  obtain⟨ρ,h',d,q1,q2,q3,q4⟩:=(Km hr hp hpos hlens hones hsrc.uni ro rn m hm hk (by unfold maxLen;omega)).1 _ elem (grownCap w (els.length+ys.length) sCap elem)
   (w.drew.alloc (.cells (olds.toArray++news.toArray++Builtin.zeroCells z.cells (grownCap w (els.length+ys.length) sCap elem-(els.length+ys.length))) elem)) rfl ⟨rfl,rfl,rfl⟩
   ⟨(Builtin.zeroCells z.cells (grownCap w (els.length+ys.length) sCap elem-(els.length+ys.length))).toList,by simp⟩
   (by simp only[Array.size_append,List.size_toArray,IW,hzs,hol,hnl, <- Nat.add_mul];exact Nat.mul_le_mul_right _ (by omega)) hge hcm
  exact⟨_,_,ρ,h',d,hexec _ _ hrun,Or.inr ⟨_,rfl,hd,q1⟩,q2,q3,⟨rfl,rfl,rfl⟩,q4⟩
 have none':∀(els:List D) (base:Option Addr) (m:Option Nat),a.eval s=.slice base 0 0->els=[]->(∀k,m=some k->∃l,c.h k=.arr i.size l) ->
   (ys.length*i.bytes<=140737488355328)->ys.length<=9223372036854775807 ->
   (∀n,pc c.h n->K (.ms n 0 ys.length) (aD (c.h.killO m) n (.arr i.size ys))) ->
   ∃v w' ρ h' d,(execOp a.eval o).run P w=.ok v w'/\(v=.skip/\o.dst=none\/∃x,v=.value x/\(∀i,o.dst=some i->i<nt)/\aB ⟨ρ,c.X,h',w'.heap⟩ d x) /\
    c.le ⟨ρ,c.X,h',w'.heap⟩/\av ⟨ρ,c.X,h',w'.heap⟩/\WS w w'/\K d h':=by
  intro els base m hse he hm hby h63 hk
  subst he
  have holds:∀w':World,w'.heap=w.heap->(Builtin.firstCells i.size 0 (.slice base 0 0)).run P w'=.ok ([]:List Value).toArray w':=by
   intro w' _
   cases base with
   | none=>simp[Builtin.firstCells]
   | some a=>simp[Builtin.firstCells,loadCells,loadCellsFrom]
  by_cases hy:ys.length=0
  ·have hrun:=(mM (P:=P) (ty:=o.type) hu hu' hi hiz (w:=w) hn1 holds (by omega) (by simpa using hby)).1 (by omega) w (by
    have hnn:news=[]:=List.eq_nil_of_length_eq_zero (by rw[rn.len,bm hsrc.uni,hy,Nat.zero_mul])
    rw[hnn]
    cases base<;>simp[storeCells])
   rw[<- hse, <- hxv,hy]at hrun
   obtain⟨ρ,h',d,q1,q2,q3,q4⟩:=(Km (els:=[]) hr hp hpos (by simp) (fun i j d hd=>by simp[aM]at hd) hsrc.uni (olds:=[]) ⟨rfl,by simp[flat]⟩ rn m hm (by simpa using hk) (by unfold maxLen;simp;omega)).2 base (by simpa using hy)
   exact⟨_,_,ρ,h',d,hexec _ _ hrun,Or.inr ⟨_,rfl,hd,q1⟩,q2,q3,WS.refl w,q4⟩
  ·exact grow [] [] base 0 0 m hse rfl (by simp) (fun i j d hd=>by simp[aM]at hd) ⟨rfl,by simp[flat]⟩ holds hm (by simpa using hby) (by omega) (by simpa using hk) (by omega)
 generalize hgs:s'.get e=ds at hv rs
 cases ds<;>try exact hv.elim
 ·
  obtain⟨⟨hby,h63⟩,hk⟩:=hv
  generalize hse:a.eval s=vs at rs
  cases rs
  exact none' [] none none hse rfl (by simp) hby h63 hk
 ·
  rename_i m off len
  obtain⟨els,⟨rest,hm⟩,hlen,⟨hby,h63⟩,hkk⟩:=hv
  have hk1:∀n,pc c.h n->K (.ms n 0 (len+ys.length)) (aD (aD c.h m .dead) n (.arr i.size (els.drop off++ys))):=fun n t=>(hkk n t).1
  have hk:∀n,pc c.h n->K (.ms n off (len+ys.length)) (aD (aD c.h m .dead) n (.arr i.size (els++ys))):=fun n t=>by
   by_cases h0:off=0
   ·have:=(hkk n t).1
    rw[h0]at this ⊢
    exact this
   ·exact(hkk n t).2 h0
  have hdl:(els.drop off).length=len:=by rw[List.length_drop];omega
  have hslot:=hr.slot m
  rw[hm]at hslot
  obtain⟨_,hlens0,hones0,hrow0⟩:=hslot
  have hlens:∀e∈els,e.cells.length=i.size:=fun e he=>hlens0 e (List.mem_append_left _ he)
  have hcin:∀i j (d:D),aM els i j=some d->aM (els++rest) i j=some d:=by
   intro i j d h
   simp only[aM,Option.bind_eq_some_iff]at h ⊢
   obtain⟨y,hy,hd⟩:=h
   exact⟨y,by rw[List.getElem?_append_left (ah.1 hy).1];exact hy,hd⟩
  have hones:lA els:=fun i j d h=>hones0 i j d (hcin i j d h)
  have hrow:(c.ρ m=none/\els=[])\/∃(g:Nat) (cur:Array Value) (ty:TypeId),c.ρ m=some g/\c.hp[g]?=some (.cells cur ty (0,0)) /\
    els.length*i.size<=cur.size/\∀i' j d,aM els i' j=some d->aB c d (cur.getD (i'*i.size+j) Go.undef):=by
   rcases hrow0 with⟨h1,h2⟩|⟨g,cur,ty,h1,h2,h3,h4⟩
   ·exact Or.inl ⟨h1,(List.append_eq_nil_iff.1 h2).1⟩
   ·refine Or.inr ⟨g,cur,ty,h1,h2,Nat.le_trans (Nat.mul_le_mul_right _ (by simp)) h3,fun i' j d h=>h4 i' j d (hcin i' j d h)⟩
  generalize hse:a.eval s=vs at rs
  have hlens1:∀e,e∈els.drop off->e.cells.length=i.size:=fun e he=>hlens e (List.mem_of_mem_drop he)
  have hci1:∀k j (d:D),aM (els.drop off) k j=some d->aM els (off+k) j=some d:=fun k j d h=>by
   simp only[aM,List.getElem?_drop]at h ⊢;exact h
  have hones1:lA (els.drop off):=fun i j d h=>hones _ _ _ (hci1 _ _ _ h)
  cases rs with
  | msDead _ _ _ _ _ _ hdd=>rw[hm]at hdd;cases hdd
  | msNil _ _ els' hrow' hρ =>
   have h0:els=[]:=by
    rcases hrow with⟨_,h⟩|⟨g,cur,ty,h1,_⟩
    ·exact h
    ·rw[hρ]at h1;cases h1
   exact none' els none (some m) hse h0 (fun k hk=>by cases hk;exact⟨_,hm⟩) (by simpa[h0] using hby) (by simpa[h0] using h63) (by simpa[h0,Heap.killO] using hk1)
  | msE _ _ _ p' els' hrow' =>
   have h0:els.drop off=[]:=List.eq_nil_of_length_eq_zero hdl
   exact none' (els.drop off) p' (some m) hse h0 (fun k hk=>by cases hk;exact⟨_,hm⟩) (by simpa using hby) (by simpa using h63) (by simpa[h0,Heap.killO] using hk1)
  | ms _ _ _ g esz' cap els' cur ty fr hrow' hρ hl hg hcap hc hmax =>
   rw[hm]at hrow'
   simp[Slot.row]at hrow'
   obtain⟨rfl,rfl⟩:=hrow'
   rcases hrow with⟨q,_⟩|⟨g',cur',ty',q1,q2,q3,q4⟩
   ·rw[hρ]at q;cases q
   ·rw[hρ]at q1
    cases q1
    rw[q2]at hg
    cases hg
    have hg':w.heap[g]?=some (.cells cur ty (0,0)):=hp ▸ q2
    have hoc:off*i.size+len*i.size<=cur.size:=by
     refine Nat.le_trans ?_ hcap
     rw[<- Nat.add_mul]
     exact Nat.mul_le_mul_right _ (by omega)
    let olds1:=(cur.toList.drop (off*i.size)).take (len*i.size)
    have hol1:olds1.length=len*i.size:=by simp[olds1];omega
    have ro1:fV c (flat (els.drop off)) olds1:=by
     refine⟨by rw[hol1,bm hlens1,hdl],fun k d hd=>?_⟩
     have hk':=(ah.1 hd).1
     rw[bm hlens1,hdl]at hk'
     have hci:=hci1 _ _ _ (s7 hpos hlens1 hd)
     refine⟨hones _ _ _ hci,?_⟩
     have:=q4 _ _ _ hci
     rw[Nat.add_mul,Nat.add_assoc,Nat.mul_comm (k / i.size),Nat.div_add_mod, <- aH]at this
     have e1:olds1.getD k Go.undef=cur.toList.getD (off*i.size+k) Go.undef:=by simp[olds1,List.getD,hk']
     rw[e1]
     exact this
    have holds1:∀w':World,w'.heap=w.heap->(Builtin.firstCells i.size len (.slice (some ⟨g,off*i.size,none⟩) len cap)).run P w'=.ok olds1.toArray w':=by
     intro w' hw'
     have:=run_loadCells_list (P:=P) (w:=w') ⟨g,off*i.size,none⟩ olds1 (fun j v hj=>by
      rw[Addr.add_lit,pC,hw']
      have hjl2:j<len*i.size:=by rw[<- hol1];exact(ah.1 hj).1
      have hjl:off*i.size+j<cur.size:=by omega
      rw[fy hg' hjl]
      simp only[olds1,List.getElem?_take,if_pos hjl2,List.getElem?_drop]at hj
      rw[<- aH]
      simp[List.getD,hj])
     rw[hol1]at this
     simpa[Builtin.firstCells] using this
    let olds:=cur.toList.take (els.length*i.size)
    have hol:olds.length=els.length*i.size:=by simp[olds];omega
    have ro:fV c (flat els) olds:=by
     refine⟨by rw[hol,bm hlens],fun k d hd=>?_⟩
     have hk':=(ah.1 hd).1
     rw[bm hlens]at hk'
     have hci:=s7 hpos hlens hd
     refine⟨hones _ _ _ hci,?_⟩
     have:=q4 _ _ _ hci
     rw[Nat.mul_comm,Nat.div_add_mod, <- aH]at this
     have e1:olds.getD k Go.undef=cur.toList.getD k Go.undef:=by simp[olds,List.getD,hk']
     rw[e1]
     exact this
    by_cases hroom:len+ys.length<=cap
    ·
     have hnl:news.length=ys.length*i.size:=by rw[rn.len,bm hsrc.uni]
     have hfit:els.length*i.size+news.length<=cur.size:=by
      rw[hnl, <- Nat.add_mul]
      exact Nat.le_trans (Nat.mul_le_mul_right _ (by omega)) hcap
     have hones':=rn.O2
     have hst0:=run_storeCells_at P g (els.length*i.size) ty news 0 cur w hg' (by simpa using hfit) hones'
     simp only[Nat.add_zero]at hst0
     let vs:=(cur.toList.take (els.length*i.size)++news++cur.toList.drop (els.length*i.size+news.length)).toArray
     have hrun:=(mM (P:=P) (ty:=o.type) hu hu' hi hiz (w:=w) hn1 holds1 h63 hby).1 hroom (w.setRow g vs) (by simp only[Addr.add_lit, <- Nat.add_mul,hlen];exact hst0)
     rw[<- hse, <- hxv]at hrun
     obtain⟨n,ht⟩:=dL hr
     have hn:=ht.free
     have hnm:n≠m:=by rintro rfl;rw[hn]at hm;cases hm
     have hvs:vs.size=cur.size:=by simp[vs];omega
     have hstep:iu c ⟨aD c.ρ n (some g),c.X,aD (aD c.h m .dead) n (.arr i.size (els++ys)),(w.setRow g vs).heap⟩ m n g:=by
      refine⟨rfl,fun k h1 h2=>by simp[aD,h1,h2],fun k h1=>by simp[aD,h1],Or.inr hn,fun h=>⟨by simp[aD,hnm.symm],by rw[hm];exact .arrDead _ _⟩,by simp[aD,Slot.mine],by simp[aD],by rw[hn];exact .free _,fun h=>absurd hn h,
       by rw[setRow_size,hp];exact Nat.le_refl _,fun k h1 h2=>by rw[hp];exact setRow_other w g k vs h2,fun cur' ty' fr h=>?_,fun r h=>?_,Or.inr ⟨by rw[hm];trivial,hρ⟩⟩
      ·rw[q2]at h
       cases h
       exact⟨vs,setRow_heap w g cur vs ty (0,0) hg',hvs⟩
      ·rw[q2]at h;cases h
     have hall:∀e,e∈els++ys->e.cells.length=i.size:=by
      intro e he
      rcases List.mem_append.1 he with h|h
      ·exact hlens e h
      ·exact hsrc.uni e h
     have rall:fV c (flat (els++ys)) (olds++news):=by rw[iZ];exact ro.append rn
     refine⟨_,_,aD c.ρ n (some g),aD (aD c.h m .dead) n (.arr i.size (els++ys)),.ms n off (len+ys.length),hexec _ _ hrun,Or.inr ⟨_,rfl,hd,?_⟩,hstep.le,hstep.heap hr ?_,⟨rfl,rfl,rfl⟩,hk n ht⟩
     ·have:=aB.ms (c:=⟨aD c.ρ n (some g),c.X,aD (aD c.h m .dead) n (.arr i.size (els++ys)),(w.setRow g vs).heap⟩) n off (len+ys.length) g i.size cap (els++ys) vs ty (0,0) (by simp[aD,Slot.row]) (by simp[aD])
       (by simp;omega) (setRow_heap w g cur vs ty (0,0) hg') (by rw[hvs];exact hcap) hroom hmax
      exact this
     ·simp only[ar]
      refine⟨hpos,hall,?_,Or.inr ⟨g,vs,ty,by simp[aD],setRow_heap w g cur vs ty (0,0) hg',?_,?_⟩⟩
      ·intro i' j' d hd'
       exact(rall.rel _ d (fR hall hd')).1
      ·rw[hvs]
       exact Nat.le_trans (Nat.mul_le_mul_right _ (show(els++ys).length<=off+cap by simp;omega)) hcap
      ·intro i' j' d hd'
       have hfg:=fR hall hd'
       obtain⟨_,p2⟩:=rall.rel _ d hfg
       have hlt:i'*i.size+j'<(olds++news).length:=by rw[rall.len];exact(ah.1 hfg).1
       have:vs.getD (i'*i.size+j') Go.undef=(olds++news).getD (i'*i.size+j') Go.undef:=by
        rw[<- aH]
        simp only[vs,List.getD]
        show((olds++news)++_)[_]?.getD _=_
        rw[List.getElem?_append_left hlt]
       rw[this]
       exact p2.mono hstep.le
    ·exact grow (els.drop off) olds1 _ _ cap (some m) hse hdl.symm hlens1 hones1 ro1 holds1 (fun k hk=>by cases hk;exact⟨_,hm⟩) hby h63 (by rw[hdl];exact hk1) (by omega)
end Go.Am
namespace Go.Am
open Go
variable [bW]
variable {P:Program}{nt:Nat}
theorem Tn {o:Oper}{t t' elem:TypeId}{s x:Operand}{s' x':Arg}{esz:Nat}(ho:o.op=.call { callee:=.builtin .copy,args:= #[s,x],argTypes:= #[t,t'] })
  (hs':cArg s=some s') (hx:cArg x=some x') (hd:∀i,o.dst=some i->i<nt) (hu:P.underlying t=some (.slice elem)) (ht:(P.info? elem).map (·.size)=some esz) (hpos:0<esz):fv P nt o (.Fi s' x' esz):=by
 refine fv.unit fun K e c w a hv hp hr hs=>?_
 simp only[vcOp]at hv
 have rs:=aG hs' hs
 have rx:=aG hx hs
 obtain⟨ys,hv,hyone,hsrc⟩:=wG (P:=P) (w:=w) hr hp hpos rx hv
 obtain⟨p,cp,news,hxv,hymax,rn,hnews⟩:=hsrc.row
 generalize hgs:s'.get e=ds at hv rs
 cases ds<;>try exact hv.elim
 rename_i m off len
 obtain⟨els,hm,hol,hk⟩:=hv
 have hslot:=hr.slot m
 rw[hm]at hslot
 obtain⟨_,hlens,hones,hrow⟩:=hslot
 have hexec:∀v w',(Builtin.copy_ #[t,t'] o.type #[a.eval s,a.eval x]).run P w=.ok v w'->(execOp a.eval o).run P w=.ok (.value v) w':=by
  intro v w' h
  rw[exec_builtin ho]
  simp[builtin,h]
 have hfirst:∀k,k<=ys.length->(Builtin.firstCells esz k (.slice p ys.length cp)).run P w=.ok (news.take (k*esz)).toArray w:=by
  intro k hk'
  have:=hnews k w hk' rfl
  rw[hxv]at this
  exact this
 have hmin:Nat.min ys.length len=min ys.length len:=rfl
 have zero:∀(base:Option Addr) (cap:Nat),a.eval s=.slice base 0 cap->len=0 ->
   ∃v w' ρ h' d,(execOp a.eval o).run P w=.ok v w'/\(v=.skip/\o.dst=none\/∃x,v=.value x/\(∀i,o.dst=some i->i<nt)/\aB ⟨ρ,c.X,h',w'.heap⟩ d x) /\
    c.le ⟨ρ,c.X,h',w'.heap⟩/\av ⟨ρ,c.X,h',w'.heap⟩/\WS w w'/\K d h':=by
  intro base cap hse h0
  subst h0
  have hrun:(Builtin.copy_ #[t,t'] o.type #[a.eval s,a.eval x]).run P w=.ok (goInt (0:Nat)) w:=by
   have hf:=hfirst 0 (Nat.zero_le _)
   simp at hf
   cases base<;>simp[Builtin.copy_,hse,hxv,run_underlying hu,Builtin.lenOf,run_sizeOf ht,hf,storeCells]
  have hh:aD c.h m (.arr esz (els.take off++ys.take 0++els.drop (off+min ys.length 0)))=c.h:=by
   funext k
   by_cases hkm:k=m
   ·subst hkm;simp[aD,hm]
   ·simp[aD,hkm]
  rw[hh]at hk
  have hce:(⟨c.ρ,c.X,c.h,w.heap⟩:Ctx)=c:=by rw[<- hp]
  refine⟨_,_,c.ρ,c.h,_,hexec _ _ hrun,Or.inr ⟨_,rfl,hd,?_⟩,by rw[hce];exact Ctx.le.refl c,by rw[hce];exact hr,WS.refl w,hk⟩
  rw[hce]
  simp only[Nat.min_zero,goInt]
  exact .int _ _
 generalize hse:a.eval s=vs at rs
 cases rs with
 | msDead _ _ _ _ _ _ hdd=>rw[hm]at hdd;cases hdd
 | msNil _ _ els' hrow' hρ=>exact zero none 0 hse rfl
 | msE _ _ _ p' els' hrow'=>exact zero p' 0 hse rfl
 | ms _ _ _ g esz' cap els' cur ty fr hrow' hρ hl hg hcap hc hmax =>
  rw[hm]at hrow'
  simp[Slot.row]at hrow'
  obtain⟨rfl,rfl⟩:=hrow'
  rcases hrow with⟨q,_⟩|⟨g',cur',ty',q1,q2,q3,q4⟩
  ·rw[hρ]at q;cases q
  ·rw[hρ]at q1
   cases q1
   rw[q2]at hg
   cases hg
   have hg':w.heap[g]?=some (.cells cur ty (0,0)):=hp ▸ q2
   let k:=min ys.length len
   let new:=news.take (k*esz)
   have hnl:news.length=ys.length*esz:=by rw[rn.len,bm hsrc.uni]
   have hkl:new.length=k*esz:=by
    simp only[new,List.length_take,hnl]
    have:=Nat.mul_le_mul_right esz (show k<=ys.length by omega)
    omega
   have hyk:∀e,e∈ys.take k->e.cells.length=esz:=fun e he=>hsrc.uni e (List.mem_of_mem_take he)
   have rnew:fV c (flat (ys.take k)) new:=by
    rw[<- Ao hsrc.uni (show k<=ys.length by omega)]
    exact rn.take _
   have hfit:off*esz+new.length<=cur.size:=by
    rw[hkl, <- Nat.add_mul]
    exact Nat.le_trans (Nat.mul_le_mul_right _ (show off+k<=els.length by omega)) q3
   have hst:=run_storeCells_at P g (off*esz) ty new 0 cur w hg' (by simpa using hfit) rnew.O2
   simp only[Nat.add_zero]at hst
   let vs:=(cur.toList.take (off*esz)++new++cur.toList.drop (off*esz+new.length)).toArray
   have hvs:vs.size=cur.size:=by simp[vs];omega
   have hrun:(Builtin.copy_ #[t,t'] o.type #[a.eval s,a.eval x]).run P w=.ok (goInt k) (w.setRow g vs):=by
    have hf:=hfirst k (by omega)
    have hk2:Nat.min ys.length len=k:=rfl
    simp[Builtin.copy_,hse,hxv,run_underlying hu,Builtin.lenOf,run_sizeOf ht,hk2,hf]
    rw[hst]
    simp[vs]
   let els2:=els.take off++ys.take k++els.drop (off+k)
   have hels2:els2=els.take off++ys.take len++els.drop (off+min ys.length len):=by
    simp only[els2,k]
    congr 2
    by_cases h:ys.length<=len
    ·rw[Nat.min_eq_left h,List.take_of_length_le (Nat.le_refl _),List.take_of_length_le h]
    ·rw[Nat.min_eq_right (by omega)]
   have hl2:els2.length=els.length:=by simp[els2];omega
   have huni2:∀e∈els2,e.cells.length=esz:=by
    intro e he
    simp only[els2,List.append_assoc,List.mem_append]at he
    rcases he with h|h|h
    ·exact hlens e (List.mem_of_mem_take h)
    ·exact hyk e h
    ·exact hlens e (List.mem_of_mem_drop h)
   have hstep:=iu.write (s:=.arr esz els2) hp hg' hvs (by rw[hm];trivial) hρ (by rw[hm];exact .arrArr _ _ _ (by omega)) trivial
   let olds:=cur.toList.take (els.length*esz)
   have ro:fV c (flat els) olds:=by
    refine⟨by rw[bm hlens];simp[olds];omega,fun j d hd=>?_⟩
    have hj:=(ah.1 hd).1
    rw[bm hlens]at hj
    have hci:=s7 hpos hlens hd
    refine⟨hones _ _ _ hci,?_⟩
    have:=q4 _ _ _ hci
    rw[Nat.mul_comm,Nat.div_add_mod, <- aH]at this
    have e1:olds.getD j Go.undef=cur.toList.getD j Go.undef:=by simp[olds,List.getD,hj]
    rw[e1]
    exact this
   have r2:fV c (flat els2) (olds.take (off*esz)++new++olds.drop ((off+k)*esz)):=by
    have:flat els2=(flat els).take (off*esz)++flat (ys.take k)++(flat els).drop ((off+k)*esz):=by
     rw[Ao hlens (by omega),E7 hlens (by omega)]
     simp[els2,iZ]
    rw[this]
    exact((ro.take _).append rnew).append (ro.drop _)
   have hget:∀j,j<els.length*esz->vs.getD j Go.undef=(olds.take (off*esz)++new++olds.drop ((off+k)*esz)).getD j Go.undef:=by
    intro j hj
    have hol2:olds.length=els.length*esz:=by simp[olds];omega
    have e1:(off+k)*esz=off*esz+new.length:=by rw[hkl,Nat.add_mul]
    rw[e1, <- aH]
    simp only[vs]
    have h3:off*esz+new.length<=els.length*esz:=by
     rw[hkl, <- Nat.add_mul]
     exact Nat.mul_le_mul_right _ (by omega)
    rw[sK _ _ _ _ _ (by simpa using hfit),sK _ _ _ _ _ (by rw[hol2];exact h3)]
    have e2:olds.getD j Go.undef=cur.toList.getD j Go.undef:=by simp[olds,List.getD,hj]
    rw[e2]
   refine⟨_,_,c.ρ,aD c.h m (.arr esz els2),.int .i64 k,hexec _ _ hrun,Or.inr ⟨_,rfl,hd,.int _ _⟩,hstep.le,hstep.heap hr ?_,⟨rfl,rfl,rfl⟩,by rw[hels2];exact hk⟩
   simp only[ar]
   refine⟨hpos,huni2,?_,Or.inr ⟨g,vs,ty,hρ,setRow_heap w g cur vs ty (0,0) hg',by rw[hvs,hl2];exact q3,?_⟩⟩
   ·intro i j d hd'
    exact(r2.rel _ d (fR huni2 hd')).1
   ·intro i j d hd'
    have hfg:=fR huni2 hd'
    have hlt:=(ah.1 hfg).1
    rw[bm huni2,hl2]at hlt
    rw[hget _ hlt]
    exact(r2.rel _ d hfg).2.mono hstep.le
theorem jn {f:FuncId}(h:fc P f=true) (args:Array Value) (w:World):(callFunc f args).run P w=.ok (.enter f args) w:=by
 unfold fc at h
 cases hf:P.funcs[f]? with
 | none=>simp[hf]at h
 | some fn =>
  simp only[hf,Bool.and_eq_true,Bool.not_eq_true']at h
  obtain⟨h1,h2⟩:=h
  have h3:fn.body≠none:=by intro hb;simp[hb]at h2
  have h4:fn.name ≠ "runtime.NumGoroutine" :=by simpa using h1
  simp[callFunc,program,Sem.run,hf,h4,h3]
theorem HE {o:Oper}{f:FuncId}{ds:List D}{K:HKq}{e:LEnv}{h:Heap}{c:Ctx}{w:World}{a:Act}{Q:Exit->Act->World->Prop}{vals:Array Value}{r:Option Nat}(hnd:∀c,o.op≠.defer c) (hd:∀i,o.dst=some i->i<nt)
  (hv:ai P f ds h K) (hh:c.h=h) (hp:c.hp=w.heap) (hr:av c) (hs:ot c nt e.get a) (hsz:vals.size=ds.length) (hrel:∀(i:Nat) (d:D),ds[i]?=some d->aB c d (vals.getD i Go.undef))
  (hrun:(execOp a.eval o).run P w=.ok (.enter f vals) w):o.wpIn (rF r) 0 P a w (Fin c w nt fun t' h'=>∃d,t'=(e.put o.dst d).get/\K d h') Q:=by
 refine iC hnd hrun ?_
 refine⟨fun h=>by(cases h),?_⟩
 refine(show CallsIn (rF r) 0 P f vals w _ from callsIn_wide.2 (hv c w vals hh hp hr hsz hrel)).mono ?_
 rintro e' w' ⟨v,r,ρ,h',rfl,h1,h2,h3,h4,h5⟩
 exact⟨ρ,(e.put o.dst r).get,h',h1,h2,h3,by rw[LEnv.bf];exact(hs.mono h1).put hd h4,r,rfl,h5⟩
theorem MG {o:Oper}{f:FuncId}{args:Array Operand}{ats:Array TypeId}{args':List Arg}(ho:o.op=.call { callee:=.value (.func f),args:=args,argTypes:=ats }) (ha:args.toList.mapM cArg=some args')
  (hd:∀i,o.dst=some i->i<nt) (hf:fc P f=true):fv P nt o (.call f args'):=by
 intro K e h hv hnd r c w a Q hh hp hr hs
 simp only[vcOp]at hv
 obtain⟨a1,a2⟩:=mW ha hs
 refine HE hnd hd hv hh hp hr hs a1 a2 ?_
 have:(execOp a.eval o).run P w=(callFunc f (args.map a.eval ++ #[])).run P w:=by
  simp[execOp,ho,resolve,Deferred.ofValue,Act.eval,invoke]
 rw[this,Array.append_empty]
 exact jn hf _ w
theorem vq (a b:Array Value) (i:Nat) (h:i<a.size):(a++b).getD i Go.undef=a.getD i Go.undef:=by
 simp[Array.getD,h,show i<a.size+b.size by omega,Array.getElem_append_left h]
theorem vo (a b:Array Value) (i:Nat) (h:a.size<=i):(a++b).getD i Go.undef=b.getD (i-a.size) Go.undef:=by
 by_cases hb:i-a.size<b.size
 ·simp[Array.getD,hb,show i<a.size+b.size by omega,Array.getElem_append_right h]
 ·simp[Array.getD,hb,show ¬i<a.size+b.size by omega]
theorem C9 {c:Ctx}{ds es:List D}{va vb:Array Value}(ha:va.size=ds.length) (hra:∀(i:Nat) (d:D),ds[i]?=some d->aB c d (va.getD i Go.undef))
  (hrb:∀(i:Nat) (d:D),es[i]?=some d->aB c d (vb.getD i Go.undef)):∀(i:Nat) (d:D),(ds++es)[i]?=some d->aB c d ((va++vb).getD i Go.undef):=by
 intro i d hd
 by_cases h:i<ds.length
 ·rw[List.getElem?_append_left h]at hd
  rw[vq _ _ _ (by omega)]
  exact hra i d hd
 ·rw[List.getElem?_append_right (by omega)]at hd
  rw[vo _ _ _ (by omega),ha]
  exact hrb _ d hd
theorem OR {o:Oper}{x:Operand}{x':Arg}{args:Array Operand}{ats:Array TypeId}{args':List Arg}(ho:o.op=.call { callee:=.value x,args:=args,argTypes:=ats }) (hx:cArg x=some x') (ha:args.toList.mapM cArg=some args')
  (hd:∀i,o.dst=some i->i<nt):fv P nt o (.callv x' args'):=by
 intro K e h hv hnd r c w a Q hh hp hr hs
 simp only[vcOp]at hv
 have rx:=aG hx hs
 obtain⟨a1,a2⟩:=mW ha hs
 generalize hgx:x'.get e=dx at hv rx
 cases dx<;>try exact hv.elim
 ·rename_i f fa fb
  obtain⟨hf,hv⟩:=hv
  generalize hvx:a.eval x=vx at rx
  cases rx with
  | fn _ _ _ va vb hsa hsb hra hrb =>
   refine HE (vals:=va++args.map a.eval++vb) hnd hd hv hh hp hr hs (by simp[hsa,hsb,a1]) ?_ ?_
   ·exact C9 (by simp[hsa,a1]) (C9 hsa hra a2) hrb
   ·have:(execOp a.eval o).run P w=(callFunc f (va++args.map a.eval++vb)).run P w:=by
     simp[execOp,ho,resolve,Deferred.ofValue,hvx,invoke]
    rw[this]
    exact jn hf _ w
 ·rename_i n
  obtain⟨⟨st,B,hl⟩,hv⟩:=hv
  generalize hvx:a.eval x=vx at rx
  cases rx with
  | yldDead _ _ hd=>rw[hh]at hd;rw[hl]at hd;cases hd
  | yld _ g st' B' h1 hρ =>
   obtain⟨fn,tmps,assign,body,hy,hround⟩:=hv c w (args.map a.eval) g hh hp hr a1 a2 hρ
   have hrun:(execOp a.eval o).run P w=.ok (.round g fn tmps assign body) w:=by
    simp[execOp,ho,resolve,Deferred.ofValue,hvx,invoke,hy]
   refine iC hnd hrun ?_
   rw[Oper.uponIn_round]
   refine⟨fun h=>by(cases h),?_⟩
   refine(show RoundIn (rF r) 0 P g fn tmps assign body w _ from hround).mono ?_
   rintro e' w' ⟨v,r',ρ,h',rfl,k1,k2,k3,k4,k5⟩
   exact⟨ρ,(e.put o.dst r').get,h',k1,k2,k3,by rw[LEnv.bf];exact(hs.mono k1).put hd k4,r',rfl,k5⟩
theorem GQ:∀{ys:List D}{ns:List Int},u8L ys=some ns->ys=ns.map (.int .u8)
 | [],ns,h=>by simp[u8L]at h;subst h;rfl
 | .int .u8 n::r,ns,h=>by
  simp only[u8L,Option.map_eq_some_iff]at h
  obtain⟨ms,h1,rfl⟩:=h
  rw[GQ h1];rfl
theorem Ts {o:Oper}{src dst elem:TypeId}{x:Operand}{x':Arg}(ho:o.op=.convert src dst x) (hx:cArg x=some x') (hd:∀i,o.dst=some i->i<nt)
  (hu:P.underlying src=some (.slice elem)) (he:P.underlying elem=some (.int .u8)) (hdst:P.underlying dst=some .string):fv P nt o (.b2s x'):=by
 refine fv.pure hd fun K e c w a hv hp hr hs=>?_
 have rx:=aG hx hs
 simp only[vcOp]at hv
 obtain⟨ys,hk,hone,src'⟩:=wG (P:=P) (w:=w) hr hp (by omega) rx hv
 cases hu8:u8L ys with
 | none=>simp only[hu8]at hk
 | some ns =>
  simp only[hu8]at hk
  have hys:=GQ hu8
  obtain⟨p,cap,news,hvx,hmax,hrel,hfirst⟩:=src'.row
  have hflat:flat ys=ys:=by
   rw[hys]
   clear hk hone hv hu8 hys hrel hfirst hvx src' hmax
   induction ns with
   | nil=>rfl
   | cons n r ih =>
    simp only[flat]at ih
    simp only[flat,List.map_cons,List.flatMap_cons,D.cells]
    rw[ih];rfl
  have hnews:news=ns.map (Value.int .u8):=by
   have hl:=hrel.len
   rw[hflat,hys,aw]at hl
   apply List.ext_getElem
   ·rw[hl,aw]
   ·intro i h1 h2
    have hi:i<ns.length:=by rw[<- hl];exact h1
    have:=(hrel.rel i (.int .u8 ns[i]) (by rw[hflat,hys];simp[hi])).2
    have hg:news.getD i Go.undef=news[i]:=by simp[List.getD,h1]
    rw[hg]at this
    cases hn:news[i]<;>rw[hn]at this<;>cases this
    simp
  refine⟨.string (strOf ns),.str (strOf ns),?_,.str _,hk⟩
  have h0:=hfirst ys.length w (Nat.le_refl _) rfl
  have hlen:ys.length=ns.length:=by rw[hys,aw]
  have htake:news.take (ys.length*1)=news:=by rw[Nat.mul_one];exact List.take_of_length_le (by rw[hnews,aw,hlen];exact Nat.le_refl _)
  rw[hvx]at h0
  have hconv:(convert src dst (a.eval x)).run P w=.ok (.string (strOf ns)) w:=by
   rw[hvx,run_convert_bytes_string w src dst elem p ys.length cap hu he hdst]
   cases p with
   | none =>
    have hz:ys.length=0:=by
     rcases Nat.eq_zero_or_pos ys.length with h|h
     ·exact h
     ·exfalso
      have h1:(pure #[]:Sem (Array Value)).run P w=.ok (ns.map (Value.int .u8)).toArray w:=by
       have h2:=h0
       simp only[Builtin.firstCells]at h2
       rw[htake,hnews]at h2
       exact h2
      rw[Sem.run_pure]at h1
      injection h1 with h2 _
      have h3:=congrArg Array.size h2
      simp only[List.size_toArray,aw,List.length_nil]at h3
      omega
    have:ns=[]:=by cases ns with|nil=>rfl|cons _ _=>rw[hlen]at hz;simp at hz
    subst this
    simp[Conv.bytesToString,strOf]
   | some ad =>
    refine run_bytesToString w ad ys.length cap ns ?_
    simp only[Builtin.firstCells]at h0
    rw[htake,hnews,Nat.mul_one]at h0
    exact h0
  simp[execOp,ho,hconv]
end Go.Am
namespace Go.Am
open Go
variable [bW]
variable {P:Program}{nt:Nat}
def kv:D->Value
 | .int k n=>.int k n
 | .agg [.int k a,.int k' b]=>.agg #[.int k a,.int k' b]
 | _=>Go.undef
theorem mj {k:IntKind}{d:D}(h:(KeyT.int k).okB d=true):∃n,d=.int k n:=by
 cases d<;>simp only[KeyT.okB,decide_eq_true_eq]at h<;>try (cases h;done)
 subst h;exact⟨_,rfl⟩
theorem jo {k:IntKind}{d:D}(h:(KeyT.pair k).okB d=true):∃a b,d=.agg [.int k a,.int k b]:=by
 cases d<;>try (cases h;done)
 rename_i cs
 match cs,h with
 | [.int k1 a,.int k2 b],h =>
  simp only[KeyT.okB,Bool.and_eq_true,decide_eq_true_eq]at h
  obtain⟨rfl,rfl⟩:=h
  exact⟨_,_,rfl⟩
theorem Du {c:Ctx}{kt:KeyT}{d:D}{v:Value}(h:kt.okB d=true) (r:aB c d v):v=kv d:=by
 cases kt with
 | int k =>
  obtain⟨n,rfl⟩:=mj h
  cases r;rfl
 | pair k =>
  obtain⟨a,b,rfl⟩:=jo h
  cases r with
  | agg _ vs hsz hone hrel =>
   have h0:=hrel 0 _ rfl
   have h1:=hrel 1 _ rfl
   obtain⟨l⟩:=vs
   match l,hsz with
   | [x,y],_ =>
    have e0:(#[x,y]:Array Value).getD 0 Go.undef=x:=rfl
    have e1:(#[x,y]:Array Value).getD 1 Go.undef=y:=rfl
    rw[e0]at h0
    rw[e1]at h1
    cases h0;cases h1;rfl
def keyT (P:Program) (t:TypeId):Option KeyT :=
 match P.underlying t with
 | some (.int k)=>some (.int k)
 | some (.array 2 e)=>match P.underlying e,(P.info? e).map (·.size) with
  | some (.int k),some 1=>some (.pair k)
  | _,_=>none
 | _=>none
structure Oq (P:Program) (t:TypeId) (kt:KeyT):Prop where
 i:∀k,kt=.int k->P.underlying t=some (.int k)
 p:∀k,kt=.pair k->∃e,P.underlying t=some (.array 2 e)/\P.underlying e=some (.int k)/\(P.info? e).map (·.size)=some 1
theorem E4 {t:TypeId}{kt:KeyT}(h:keyT P t=some kt):Oq P t kt:=by
 unfold keyT at h
 split at h
 ·rename_i k hu
  cases h
  exact⟨fun k' e=>by cases e;exact hu,fun k' e=>by cases e⟩
 ·rename_i e hu
  split at h
  ·rename_i k h1 h2
   cases h
   exact⟨fun k' e=>by(cases e),fun k' e'=>by cases e';exact⟨e,hu,h1,h2⟩⟩
  ·cases h
 ·cases h
theorem x3 {w:World}{t e:TypeId}{k:IntKind}(hu:P.underlying t=some (.array 2 e)) (he:P.underlying e=some (.int k)) (hs:(P.info? e).map (·.size)=some 1) (em:Bool) (n:Nat) (a b:Int) :
  (Instr.checkKey em (n+2) t (.agg #[.int k a,.int k b])).run P w=.ok () w:=by
 have hp0:(part e #[.int k a,.int k b] 0).run P w=.ok (.int k a) w:=by
  simp[part,isAgg,run_underlying he,Sem.run_bind,Result.andThen]
 have hp1:(part e #[.int k a,.int k b] 1).run P w=.ok (.int k b) w:=by
  simp[part,isAgg,run_underlying he,Sem.run_bind,Result.andThen]
 have c:∀x:Int,(Instr.checkKey em (n+1) e (.int k x)).run P w=.ok () w:=fun x=>by
  unfold Instr.checkKey
  simp[Sem.run_bind,run_underlying he,Result.andThen]
 unfold Instr.checkKey
 simp[Sem.run_bind,run_underlying hu,Result.andThen,List.range',run_sizeOf hs,hp0,hp1,c]
theorem C4 {w:World}{t e:TypeId}{k:IntKind}(hu:P.underlying t=some (.array 2 e)) (he:P.underlying e=some (.int k)) (hs:(P.info? e).map (·.size)=some 1) (a b c d:Int) :
  (Op.equal t (.agg #[.int k a,.int k b]) (.agg #[.int k c,.int k d])).run P w=.ok (decide (a=c)&&decide (b=d)) w:=by
 have hp0:∀x y:Int,(part e #[.int k x,.int k y] 0).run P w=.ok (.int k x) w:=fun x y=>by
  simp[part,isAgg,run_underlying he,Sem.run_bind,Result.andThen]
 have hp1:∀x y:Int,(part e #[.int k x,.int k y] 1).run P w=.ok (.int k y) w:=fun x y=>by
  simp[part,isAgg,run_underlying he,Sem.run_bind,Result.andThen]
 have q:∀x y:Int,(Op.equalIn 9999 e (.int k x) (.int k y)).run P w=.ok (decide (x=y)) w:=fun x y=>by
  rw[Op.equalIn]
  simp[Sem.run_bind,run_underlying he,Result.andThen]
  rfl
 unfold Op.equal Op.maxDepth
 rw[Op.equalIn]
 by_cases h1:a=c
 ·by_cases h2:b=d
  ·simp[Sem.run_bind,run_underlying hu,Result.andThen,List.range',run_sizeOf hs,hp0,hp1,q,h1,h2]
  ·simp[Sem.run_bind,run_underlying hu,Result.andThen,List.range',run_sizeOf hs,hp0,hp1,q,h1,h2]
 ·simp[Sem.run_bind,run_underlying hu,Result.andThen,List.range',run_sizeOf hs,hp0,hp1,q,h1]
inductive Found (key:D) (ents:List (D×D)) (l:List MapEntry):Option (Nat×Value)->Prop
 | no (h:∀p∈ents,keySame key p.1=false):Found key ents l none
 | yes (j:Nat) (e:MapEntry) (p:D×D) (hl:l[j]?=some e) (he:ents[j]?=some p) (hs:keySame key p.1=true) (h:∀(i:Nat) (q:D×D),i<j->ents[i]?=some q->keySame key q.1=false):Found key ents l (some (j,e.val))
theorem Found.cons {key:D}{p:D×D}{ents:List (D×D)}{e:MapEntry}{l:List MapEntry}{r:Option (Nat×Value)}(hp:keySame key p.1=false) (h:Found key ents l r):Found key (p::ents) (e::l) (r.map fun q=>(q.1+1,q.2)):=by
 cases h with
 | no h=>exact .no fun q hq=>by rcases List.mem_cons.1 hq with rfl|hq;exact hp;exact h q hq
 | yes j x y h1 h2 h3 h4 =>
  refine .yes (j+1) x y (by simpa using h1) (by simpa using h2) h3 fun i q hi hq=>?_
  cases i with
  | zero=>simp at hq;subst hq;exact hp
  | succ i=>exact h4 i q (by omega) (by simpa using hq)
theorem Found.get {key:D}{ents:List (D×D)}{l:List MapEntry}{r:Option (Nat×Value)}(h:Found key ents l r):(r=none/\mget ents key=none)\/∃(j:Nat) (e:MapEntry) (p:D×D),r=some (j,e.val)/\l[j]?=some e/\ents[j]?=some p/\keySame key p.1=true/\mget ents key=some p.2:=by
 cases h with
 | no h =>
  refine Or.inl ⟨rfl,?_⟩
  clear l
  induction ents with
  | nil=>rfl
  | cons p r ih=>rw[mget,if_neg (by rw[h p (by simp)];simp)];exact ih fun q hq=>h q (by simp[hq])
 | yes j e p hl he hs h =>
  refine Or.inr ⟨j,e,p,rfl,hl,he,hs,?_⟩
  clear hl l
  induction j generalizing ents with
  | zero =>
   cases ents with
   | nil=>simp at he
   | cons q r=>simp at he;subst he;rw[mget,if_pos hs]
  | succ j ih =>
   cases ents with
   | nil=>simp at he
   | cons q r =>
    rw[mget,if_neg (by rw[h 0 q (by omega) rfl];simp)]
    exact ih (by simpa using he) fun i x hi hx=>h (i+1) x (by omega) (by simpa using hx)
structure Gx (c:Ctx) (kt:KeyT) (ents:List (D×D)) (l:List MapEntry):Prop where
 len:l.length=ents.length
 el:∀(i:Nat) (p:D×D),ents[i]?=some p->kt.okB p.1=true/\p.2.one=true/\∃e:MapEntry,l[i]?=some e/\aB c p.1 e.key/\aB c p.2 e.val
theorem Gx.tail {c:Ctx}{kt:KeyT}{p:D×D}{ents:List (D×D)}{e:MapEntry}{l:List MapEntry}(h:Gx c kt (p::ents) (e::l)):kt.okB p.1=true/\p.2.one=true/\e.key=kv p.1/\aB c p.2 e.val/\Gx c kt ents l:=by
 obtain⟨h1,h2,x,h3,h4,h5⟩:=h.el 0 p rfl
 simp at h3;subst h3
 exact⟨h1,h2,Du h1 h4,h5,by simpa using h.len,fun i q hq=>by obtain⟨a,b,x,y⟩:=h.el (i+1) q (by simpa using hq);exact⟨a,b,x,by simpa using y⟩⟩
theorem Nu {c:Ctx}{w:World}{t:TypeId}{k:IntKind}(hu:P.underlying t=some (.int k)) (n:Int):∀(ents:List (D×D)) (l:List MapEntry),Gx c (.int k) ents l->∀i,∃r,Instr.findNow (.int k) (.int k n) l i=some (r.map fun q=>(q.1+i,q.2))/\Found (.int k n) ents l r:=by
 intro ents
 induction ents with
 | nil =>
  intro l h i
  have:l=[]:=List.length_eq_zero_iff.1 h.len
  subst this
  exact⟨none,rfl,.no fun p hp=>by cases hp⟩
 | cons p ents ih =>
  intro l h i
  cases l with
  | nil=>have:=h.len;simp at this
  | cons e l =>
   obtain⟨h1,h2,h3,h4,h5⟩:=h.tail
   obtain⟨m,hm⟩:=mj h1
   rw[hm]at h3
   by_cases hnm:n=m
   ·refine⟨some (0,e.val),?_,.yes 0 e p rfl rfl (by rw[hm];simp[keySame,hnm]) fun i q hi=>by omega⟩
    simp[Instr.findNow,Instr.sameNow,h3,kv,hnm]
   ·obtain⟨r,hr,hf⟩:=ih l h5 (i+1)
    refine⟨r.map fun q=>(q.1+1,q.2),?_,hf.cons (by rw[hm];simp[keySame,hnm])⟩
    simp only[Instr.findNow,Instr.sameNow,h3,kv,if_true]
    have:(n == m)=false:=by simpa using hnm
    rw[this]
    simp only[hr,Option.map_map,Option.some.injEq]
    congr 1
    funext q
    simp only[Function.comp]
    congr 1
    omega
theorem K9 {c:Ctx}{w:World}{t e:TypeId}{k:IntKind}(hu:P.underlying t=some (.array 2 e)) (he:P.underlying e=some (.int k)) (hs:(P.info? e).map (·.size)=some 1) (n m:Int):∀(ents:List (D×D)) (l:List MapEntry),Gx c (.pair k) ents l->∀i,
  ∃r,(Instr.findAsking t (.agg #[.int k n,.int k m]) l i).run P w=.ok (r.map fun q=>(q.1+i,q.2)) w/\Found (.agg [.int k n,.int k m]) ents l r:=by
 intro ents
 induction ents with
 | nil =>
  intro l h i
  have:l=[]:=List.length_eq_zero_iff.1 h.len
  subst this
  exact⟨none,by simp[Instr.findAsking],.no fun p hp=>by cases hp⟩
 | cons p ents ih =>
  intro l h i
  cases l with
  | nil=>have:=h.len;simp at this
  | cons x l =>
   obtain⟨h1,h2,h3,h4,h5⟩:=h.tail
   obtain⟨a,b,hm⟩:=jo h1
   rw[hm]at h3
   have q:=C4 (w:=w) hu he hs n m a b
   by_cases hnm:n=a/\m=b
   ·refine⟨some (0,x.val),?_,.yes 0 x p rfl rfl (by rw[hm];simp[keySame,hnm]) fun i q hi=>by omega⟩
    rw[Instr.findAsking,h3]
    simp only[kv,Sem.run_bind,q,Result.andThen]
    simp[hnm]
   ·obtain⟨r,hr,hf⟩:=ih l h5 (i+1)
    have hf0:(decide (n=a)&&decide (m=b))=false:=by
     by_cases ha:n=a
     ·have:¬m=b:=fun hb=>hnm ⟨ha,hb⟩
      simp[this]
     ·simp[ha]
    refine⟨r.map fun q=>(q.1+1,q.2),?_,hf.cons (by rw[hm];simpa[keySame] using hf0)⟩
    rw[Instr.findAsking,h3]
    simp only[kv,Sem.run_bind,q,Result.andThen,hf0,aE,if_false,hr,Option.map_map]
    congr 2
    funext q
    simp only[Function.comp]
    congr 1
    omega
theorem Hn {c:Ctx}{w:World}{t:TypeId}{kt:KeyT}(ht:Oq P t kt){key:D}(hk:kt.okB key=true){ents:List (D×D)}{l:List MapEntry}(h:Gx c kt ents l):∃r,(Instr.findKey t (kv key) l).run P w=.ok r w/\Found key ents l r:=by
 cases kt with
 | int k =>
  obtain⟨n,rfl⟩:=mj hk
  obtain⟨r,h1,h2⟩:=Nu (w:=w) (ht.i k rfl) n ents l h 0
  refine⟨r,?_,h2⟩
  have:(r.map fun q=>(q.1+0,q.2))=r:=by cases r<;>rfl
  rw[this]at h1
  exact MapKept.run_findKey (ht.i k rfl) h1
 | pair k =>
  obtain⟨a,b,rfl⟩:=jo hk
  obtain⟨e,h1,h2,h3⟩:=ht.p k rfl
  obtain⟨r,q1,q2⟩:=K9 (w:=w) h1 h2 h3 a b ents l h 0
  have:(r.map fun q=>(q.1+0,q.2))=r:=by cases r<;>rfl
  rw[this]at q1
  refine⟨r,?_,q2⟩
  rw[run_findKey_eq w (by rw[h1])]
  exact q1
theorem mI {w:World}{t:TypeId}{kt:KeyT}(ht:Oq P t kt){key:D}(hk:kt.okB key=true) (em:Bool):(Instr.checkKey em 10000 t (kv key)).run P w=.ok () w:=by
 cases kt with
 | int k =>
  obtain⟨n,rfl⟩:=mj hk
  unfold Instr.checkKey
  simp[kv,Sem.run_bind,run_underlying (ht.i k rfl),Result.andThen]
 | pair k =>
  obtain⟨a,b,rfl⟩:=jo hk
  obtain⟨e,h1,h2,h3⟩:=ht.p k rfl
  exact x3 h1 h2 h3 em 9998 a b
theorem KG {w:World}{kt:KeyT}{key:D}(hk:kt.okB key=true):(Instr.keyThatStays (kv key) (kv key)).run P w=.ok (kv key) w:=by
 cases kt with
 | int k =>
  obtain⟨n,rfl⟩:=mj hk
  simp[Instr.keyThatStays,kv,Instr.sameBits]
 | pair k =>
  obtain⟨a,b,rfl⟩:=jo hk
  simp[Instr.keyThatStays,kv,Instr.sameBits]
theorem E2 {c:Ctx}{w:World}(hp:c.hp=w.heap) (hr:av c){n g:Nat}{kt:KeyT}{ents ents':List (D×D)}{es es':Array MapEntry}{clock clock':Nat}(hn:c.h n=.map kt ents) (hρ:c.ρ n=some g)
  (hg:w.heap[g]?=some (.map es clock)) (hsz:es'.size=ents'.length) (hstp:MapKept.Stamped es' clock') (hel:∀(i:Nat) (p:D×D),ents'[i]?=some p->kt.okB p.1=true/\p.2.one=true/\∃e:MapEntry,es'[i]?=some e/\aB c p.1 e.key/\aB c p.2 e.val) :
  c.le ⟨c.ρ,c.X,aD c.h n (.map kt ents'),(w.putObj g (.map es' clock')).heap⟩/\av ⟨c.ρ,c.X,aD c.h n (.map kt ents'),(w.putObj g (.map es' clock')).heap⟩:=by
 have hlt:=(Array.getElem?_eq_some_iff.1 hg).1
 have hst:iu c ⟨c.ρ,c.X,aD c.h n (.map kt ents'),(w.putObj g (.map es' clock')).heap⟩ n n g:=by
  refine⟨rfl,fun k h1 _=>by simp[aD,h1],fun _ _=>rfl,Or.inl rfl,fun h=>absurd rfl h,by simp[aD,Slot.mine],hρ,by simp only[ar];rw[hn];exact .mapMap _ _ _,fun _=>hρ,
   by simp[World.putObj_size,hp],fun k _ h2=>by rw[hp];exact World.putObj_heap_other h2,fun cur ty fr h=>(by rw[hp,hg]at h;cases h),fun r h=>(by rw[hp,hg]at h;cases h),Or.inr ⟨by rw[hn];trivial,hρ⟩⟩
 refine⟨hst.le,hst.heap hr ?_⟩
 simp only[ar]
 refine⟨g,es',clock',hρ,World.putObj_heap_same hlt,hsz,hstp,fun i p hip=>?_⟩
 obtain⟨h1,h2,e,h3,h4,h5⟩:=hel i p hip
 exact⟨h1,h2,e,h3,h4.mono hst.le,h5.mono hst.le⟩
theorem G2 {c:Ctx}{w:World}(hp:c.hp=w.heap) (hr:av c){n g:Nat}{kt:KeyT}{ents:List (D×D)}(hn:c.h n=.map kt ents) (hρ:c.ρ n=some g) :
  ∃(es:Array MapEntry) (clock:Nat),w.heap[g]?=some (.map es clock)/\MapKept.Stamped es clock/\Gx c kt ents es.toList:=by
 have hs:=hr.slot n
 rw[hn]at hs
 obtain⟨g',es,clock,h1,h2,h3,hst,h4⟩:=hs
 rw[hρ]at h1
 cases h1
 refine⟨es,clock,by rw[<- hp];exact h2,hst,by simpa using h3,fun i p hi=>?_⟩
 obtain⟨a,b,e,x,y,z⟩:=h4 i p hi
 exact⟨a,b,e,by simpa using x,y,z⟩
theorem IC {kt:KeyT}{a b:D}(ha:kt.okB a=true) (hb:kt.okB b=true) (h:keySame a b=true):a=b:=by
 cases kt with
 | int k =>
  obtain⟨n,rfl⟩:=mj ha
  obtain⟨m,rfl⟩:=mj hb
  simp[keySame]at h
  rw[h]
 | pair k =>
  obtain⟨n,m,rfl⟩:=jo ha
  obtain⟨x,y,rfl⟩:=jo hb
  simp[keySame]at h
  rw[h.1,h.2]
theorem Pg {key v:D}{ents:List (D×D)}(h:∀p∈ents,keySame key p.1=false):mset ents key v=ents++[(key,v)]:=by
 induction ents with
 | nil=>rfl
 | cons p r ih =>
  rw[mset,if_neg (by rw[h p (by simp)];simp),ih fun q hq=>h q (by simp[hq])]
  rfl
theorem M6 {key v:D}{ents:List (D×D)}{j:Nat}{p:D×D}(hj:ents[j]?=some p) (hs:keySame key p.1=true) (h:∀(i:Nat) (q:D×D),i<j->ents[i]?=some q->keySame key q.1=false):mset ents key v=ents.set j (p.1,v):=by
 induction ents generalizing j with
 | nil=>simp at hj
 | cons q r ih =>
  cases j with
  | zero=>simp at hj;subst hj;rw[mset,if_pos hs];rfl
  | succ j =>
   rw[mset,if_neg (by rw[h 0 q (by omega) rfl];simp),ih (by simpa using hj) fun i x hi hx=>h (i+1) x (by omega) (by simpa using hx)]
   rfl
theorem RM {kt:KeyT}{a b:D}(ha:kt.okB a=true) (hb:kt.okB b=true) (h:kv a=kv b):keySame a b=true:=by
 cases kt with
 | int k =>
  obtain⟨n,rfl⟩:=mj ha
  obtain⟨m,rfl⟩:=mj hb
  simp[kv]at h
  simp[keySame,h]
 | pair k =>
  obtain⟨n,m,rfl⟩:=jo ha
  obtain⟨x,y,rfl⟩:=jo hb
  simp[kv]at h
  simp[keySame,h.1,h.2]
theorem Gx.TC {c:Ctx}{kt:KeyT}{key:D}{ents:List (D×D)}{l:List MapEntry}(h:Gx c kt ents l) (hk:kt.okB key=true) (hno:∀p∈ents,keySame key p.1=false){x:MapEntry}(hx:x∈l):x.key≠kv key:=by
 obtain⟨i,hi,rfl⟩:=List.mem_iff_getElem.1 hx
 have hlen:=h.len
 have hp:ents[i]?=some ents[i]:=aC (by omega)
 obtain⟨h1,h2,e,h3,h4,h5⟩:=h.el i _ hp
 rw[aC hi]at h3
 cases h3
 have hkv:=Du h1 h4
 intro he
 have:=RM hk h1 (he.symm.trans hkv)
 rw[hno _ (ak hp)]at this
 cases this
theorem Ti {o:Oper}{t:TypeId}{r:Option Operand}{kt:KeyT}(ho:o.op=.makeMap t r) (hr':r=none) (hd:∀i,o.dst=some i->i<nt):fv P nt o (.Ix kt):=by
 subst hr'
 refine fv.unit fun K e c w a hv hp hr hs=>?_
 simp only[vcOp]at hv
 obtain⟨n,ht⟩:=dL hr
 have hst:=iu.new (c:=c) (n:=n) ht.free (s:=.map kt []) trivial (.map #[] 0) (hp':=(w.alloc (.map #[] 0)).heap) (by rw[hp];rfl)
 have hg:(w.alloc (.map #[] 0)).heap[c.hp.size]?=some (.map #[] 0):=by rw[hp];show(w.heap.push _)[_]?=_;simp
 have hrel:av ⟨aD c.ρ n (some c.hp.size),c.X,aD c.h n (.map kt []),(w.alloc (.map #[] 0)).heap⟩:=by
  refine hst.heap hr ?_
  simp only[ar]
  exact⟨c.hp.size, #[],0,by simp[aD],hg,rfl,MapKept.stamped_empty 0,fun i p hi=>by simp at hi⟩
 refine⟨.value (.map (some w.heap.size)),w.alloc (.map #[] 0),aD c.ρ n (some c.hp.size),aD c.h n (.map kt []),.mp n,?_,Or.inr ⟨_,rfl,hd,?_⟩,hst.le,hrel,⟨rfl,rfl,rfl⟩,hv n ht⟩
 ·simp[execOp,ho,Instr.makeMap,run_newObj]
 ·rw[<- hp]
  exact .mp n _ kt [] (by simp[aD]) (by simp[aD])
theorem Rp {o:Oper}{t key elem:TypeId}{x k:Operand}{x' k':Arg}{ok:Bool}{kt:KeyT}{zd:D}(ho:o.op=.lookup t x k ok) (hx:cArg x=some x') (hk:cArg k=some k') (hu:P.underlying t=some (.map key elem)) (hkt:keyT P key=some kt)
  (hz:dP P elem=some zd) (hd:∀i,o.dst=some i->i<nt):fv P nt o (.look kt x' k' zd ok):=by
 obtain⟨z,hz1,hz2⟩:=fJ hz
 have hty:=E4 hkt
 refine fv.pure hd fun K e c w a hv hp hr hs=>?_
 simp only[vcOp]at hv
 obtain⟨hok,hv⟩:=hv
 have rx:=aG hx hs
 have rk:=aG hk hs
 have ek:=Du hok rk
 generalize hgx:x'.get e=dx at hv rx
 cases dx<;>try exact hv.elim
 rename_i n
 simp only at hv
 generalize hgn:c.h n=sl at hv
 cases sl<;>try exact hv.elim
 rename_i kt' ents
 obtain⟨rfl,hv⟩:=hv
 generalize hgv:a.eval x=vx at rx
 cases rx with
 | mpDead _ _ h=>rw[hgn]at h;cases h
 | mp _ g kt2 ents2 h hρ =>
  obtain⟨es,clock,hg,hstp,hent⟩:=G2 hp hr hgn hρ
  obtain⟨r,hf,hfound⟩:=Hn (P:=P) (w:=w) hty hok hent
  rcases hfound.get with⟨rfl,hm⟩|⟨j,en,p,rfl,hl,he,hsame,hm⟩
  ·rw[hm]at hv
   simp only[Option.getD_none,Option.isSome_none]at hv
   cases ok with
   | false =>
    refine⟨z,zd,?_,gC hz2 c,hv⟩
    simp[execOp,ho,Instr.lookup,run_underlying hu,hgv,MapKept.run_getObj_map hg,ek,mI hty hok,hf,bG hz1,Result.andThen]
   | true =>
    refine⟨.tuple #[z,.bool false],_,?_,.tup [zd,.bool false] _ rfl ?_,hv⟩
    ·simp[execOp,ho,Instr.lookup,run_underlying hu,hgv,MapKept.run_getObj_map hg,ek,mI hty hok,hf,bG hz1,Result.andThen]
    ·intro i d hid
     match i,hid with
     | 0,hid=>cases hid;exact gC hz2 c
     | 1,hid=>cases hid;exact .bool _
  ·rw[hm]at hv
   simp only[Option.getD_some,Option.isSome_some]at hv
   have hrel:aB c p.2 en.val:=by
    obtain⟨_,_,e2,q1,_,q2⟩:=hent.el j p he
    rw[hl]at q1;cases q1;exact q2
   cases ok with
   | false =>
    refine⟨en.val,p.2,?_,hrel,hv⟩
    simp[execOp,ho,Instr.lookup,run_underlying hu,hgv,MapKept.run_getObj_map hg,ek,mI hty hok,hf,Result.andThen]
   | true =>
    refine⟨.tuple #[en.val,.bool true],_,?_,.tup [p.2,.bool true] _ rfl ?_,hv⟩
    ·simp[execOp,ho,Instr.lookup,run_underlying hu,hgv,MapKept.run_getObj_map hg,ek,mI hty hok,hf,Result.andThen]
    ·intro i d hid
     match i,hid with
     | 0,hid=>cases hid;exact hrel
     | 1,hid=>cases hid;exact .bool _
theorem MF {o:Oper}{t key elem:TypeId}{x k y:Operand}{x' k' y':Arg}{kt:KeyT}(ho:o.op=.mapUpdate t x k y\/o.op=.insert t x k y) (hx:cArg x=some x') (hk:cArg k=some k') (hy:cArg y=some y') (hu:P.underlying t=some (.map key elem)) (hkt:keyT P key=some kt)
  (hd:o.dst=none):fv P nt o (.mupd kt x' k' y'):=by
 have hty:=E4 hkt
 have hex:∀ev,execOp ev o=execOp ev { o with op:=.mapUpdate t x k y }:=fun ev=>by rcases ho with ho|ho<;>simp[execOp,ho]
 refine fv.unit fun K e c w a hv hp hr hs=>?_
 simp only[vcOp]at hv
 obtain⟨hok,hone,hv⟩:=hv
 have rx:=aG hx hs
 have rk:=aG hk hs
 have ry:=aG hy hs
 have ek:=Du hok rk
 generalize hgx:x'.get e=dx at hv rx
 cases dx<;>try exact hv.elim
 rename_i n
 simp only at hv
 generalize hgn:c.h n=sl at hv
 cases sl<;>try exact hv.elim
 rename_i kt' ents
 obtain⟨rfl,hv⟩:=hv
 generalize hgv:a.eval x=vx at rx
 cases rx with
 | mpDead _ _ h=>rw[hgn]at h;cases h
 | mp _ g kt2 ents2 h hρ =>
  obtain⟨es,clock,hg,hstp,hent⟩:=G2 hp hr hgn hρ
  obtain⟨r,hf,hfound⟩:=Hn (P:=P) (w:=w) hty hok hent
  rw[ek]at rk
  cases hfound with
  | no hno =>
   rw[Pg hno]at hv
   obtain⟨hle,hr'⟩:=E2 (es':=es.push { key:=kv (k'.get e),val:=a.eval y,born:=clock }) (clock':=clock+1) (ents':=ents++[(k'.get e,y'.get e)]) hp hr hgn hρ hg (by have:=hent.len;simp at this;simp[this]) (MapKept.stamped_push hstp (fun x hx=>hent.TC hok hno hx)) (fun i p hip=>by
    have hlen:es.size=ents.length:=by have:=hent.len;simpa using this
    by_cases hi:i<ents.length
    ·rw[List.getElem?_append_left hi]at hip
     obtain⟨h1,h2,e2,h3,h4,h5⟩:=hent.el i p hip
     refine⟨h1,h2,e2,?_,h4,h5⟩
     rw[Array.getElem?_push,if_neg (by omega)]
     simpa using h3
    ·rw[List.getElem?_append_right (by omega)]at hip
     have hi2:=(ah.1 hip).1
     simp at hi2
     have hie:i=ents.length:=by omega
     subst hie
     simp at hip
     subst hip
     refine⟨hok,hone,{ key:=kv (k'.get e),val:=a.eval y,born:=clock },?_,rk,ry⟩
     rw[Array.getElem?_push,if_pos hlen.symm])
   refine⟨.skip,_,c.ρ,_,.undef,?_,Or.inl ⟨rfl,hd⟩,hle,hr',⟨rfl,rfl,rfl⟩,hv⟩
   rw[hex];simp[execOp,Instr.mapUpdate,run_underlying hu,hgv,MapKept.run_getObj_map hg,ek,mI hty hok,hf,MapKept.run_setObj_map _ hg,World.putObj,Result.andThen]
  | yes j en p hl he hsame hbef =>
   rw[M6 he hsame hbef]at hv
   obtain⟨hp1,hp2,e2,q1,q2,q3⟩:=hent.el j p he
   rw[hl]at q1;cases q1
   have hkey:k'.get e=p.1:=IC hok hp1 hsame
   have henk:en.key=kv (k'.get e):=by rw[hkey];exact Du hp1 q2
   have hl':es[j]?=some en:=by simpa using hl
   obtain⟨hle,hr'⟩:=E2 (es':=es.modify j fun e'=>{ e' with key:=kv (k'.get e),val:=a.eval y }) (clock':=clock) (ents':=ents.set j (p.1,y'.get e)) hp hr hgn hρ hg (by have:=hent.len;simpa using this) (MapKept.stamped_modify hstp j _ (fun _ _=>rfl) (fun x _ hx=>by rw[hl']at hx;cases hx;exact henk.symm)) (fun i q hip=>by
    by_cases hij:i=j
    ·subst hij
     rw[List.getElem?_set_self (ah.1 he).1]at hip
     cases hip
     refine⟨hp1,hone,{ en with key:=kv (k'.get e),val:=a.eval y },?_,?_,ry⟩
     ·rw[Array.getElem?_modify,if_pos rfl,hl'];rfl
     ·rw[<- hkey];exact rk
    ·rw[List.getElem?_set_ne (Ne.symm hij)]at hip
     obtain⟨h1,h2,e2,h3,h4,h5⟩:=hent.el i q hip
     refine⟨h1,h2,e2,?_,h4,h5⟩
     rw[Array.getElem?_modify,if_neg (Ne.symm hij)]
     simpa using h3)
   refine⟨.skip,_,c.ρ,_,.undef,?_,Or.inl ⟨rfl,hd⟩,hle,hr',⟨rfl,rfl,rfl⟩,hv⟩
   rw[hex];simp[execOp,Instr.mapUpdate,run_underlying hu,hgv,MapKept.run_getObj_map hg,ek,mI hty hok,hf,hl',henk,KG hok,MapKept.run_setObj_map _ hg,World.putObj,Result.andThen]
def cOpM (P:Program) (o:Oper):Option AOp :=
 match o.op with
 | .makeMap t none=>match P.underlying t with
  | some (.map key _)=>(keyT P key).map .Ix
  | _=>none
 | .lookup t x k ok=>match P.underlying t,cArg x,cArg k with
  | some (.map key elem),some x,some k=>match keyT P key,dP P elem with
   | some kt,some z=>some (.look kt x k z ok)
   | _,_=>none
  | _,_,_=>none
 | .mapUpdate t x k y=>match P.underlying t,cArg x,cArg k,cArg y,o.dst with
  | some (.map key _),some x,some k,some y,none=>(keyT P key).map (.mupd · x k y)
  | _,_,_,_,_=>none
 | .insert t x k y=>match P.underlying t,cArg x,cArg k,cArg y,o.dst with
  | some (.map key _),some x,some k,some y,none=>(keyT P key).map (.mupd · x k y)
  | _,_,_,_,_=>none
 | _=>none
theorem Jf {o:Oper}{op:AOp}(h:cOpM P o=some op) (hd:∀i,o.dst=some i->i<nt):fv P nt o op:=by
 unfold cOpM at h
 split at h
 ·rename_i t ho
  split at h
  ·rename_i key elem hu
   simp at h
   obtain⟨kt,hk,rfl⟩:=h
   exact Ti ho rfl hd
  ·cases h
 ·rename_i t x k ok ho
  split at h
  ·rename_i key elem x' k' hu hx hk
   split at h
   ·rename_i kt z h1 h2
    cases h
    exact Rp ho hx hk hu h1 h2 hd
   ·cases h
  ·cases h
 ·rename_i t x k y ho
  split at h
  ·rename_i key elem x' k' y' hu hx hk hy hn
   simp at h
   obtain⟨kt,hkt,rfl⟩:=h
   exact MF (Or.inl ho) hx hk hy hu hkt hn
  ·cases h
 ·rename_i t x k y ho
  split at h
  ·rename_i key elem x' k' y' hu hx hk hy hn
   simp at h
   obtain⟨kt,hkt,rfl⟩:=h
   exact MF (Or.inr ho) hx hk hy hu hkt hn
  ·cases h
 ·cases h
theorem Gl {o:Oper}{op:AOp}(h:cOpM P o=some op):∀c,o.op≠.defer c:=by
 intro c hc
 simp[cOpM,hc]at h
end Go.Am
namespace Go.Am
open Go
variable [bW]
variable {P:Program}{nt:Nat}
def cTy (P:Program) (t:TypeId):Option (Nat×Bool) :=
 match (P.info? t).map (·.size),P.underlying t with
 | some n,some d=>some (n,match d with|.struct _=>true|.array _ _=>true|_=>false)
 | _,_=>none
theorem k0 {t:TypeId}{n:Nat}{b:Bool}(h:cTy P t=some (n,b)):D6 P t n b:=by
 unfold cTy at h
 split at h
 ·rename_i n' d h1 h2
  simp at h
  obtain⟨rfl,rfl⟩:=h
  exact⟨h1,d,h2,rfl⟩
 ·cases h
def cOp0 (P:Program) (fz:Bool) (o:Oper):Option AOp :=
 match o.op with
 | .move x=>(cArg x).map .mov
 | .assign x=>(cArg x).map .mov
 | .pick x y z=>match cArg x,cArg y,cArg z with
  | some x,some y,some z=>some (.pick x y z)
  | _,_,_=>none
 | .binOp op t x y _=>match cArg x,cArg y with
  | some x,some y =>
   match op,P.underlying t with
   | .eql,some .bool=>if P.eqGuardType P.depth t then none else match eqTy P 100 t,cTy P t with
    | some [.b],some (1,false)=>some (.eqv false false [.b] x y)
    | _,_=>none
   | .neq,some .bool=>if P.eqGuardType P.depth t then none else match eqTy P 100 t,cTy P t with
    | some [.b],some (1,false)=>some (.eqv true false [.b] x y)
    | _,_=>none
   | .eql,some (.struct _)=>if P.eqGuardType P.depth t then none else match eqTy P 100 t,cTy P t with
    | some ks,some (n,true)=>if ks.length=n then some (.eqv false true ks x y) else none
    | _,_=>none
   | .neq,some (.struct _)=>if P.eqGuardType P.depth t then none else match eqTy P 100 t,cTy P t with
    | some ks,some (n,true)=>if ks.length=n then some (.eqv true true ks x y) else none
    | _,_=>none
   | .eql,some (.slice _)=>match y with
    | .c .nil=>some (.nilq false x)
    | _=>none
   | .neq,some (.slice _)=>match y with
    | .c .nil=>some (.nilq true x)
    | _=>none
   | op,_=>some (.bin op x y)
  | _,_=>none
 | .unOp op _ x=>(cArg x).map (.un op)
 | .convert s d x=>match P.underlying s,P.underlying d,cArg x with
  | some _,some (.int k),some x=>some (.conv k x)
  | some (.slice e),some .string,some x=>match P.underlying e with
   | some (.int .u8)=>some (.b2s x)
   | _=>none
  | _,_,_=>none
 | .extract x i=>(cArg x).map (.ext · i)
 | .field t x f=>match P.underlying t with
  | some (.struct fs)=>match fs[f]? with
   | some fd=>match cTy P fd.type,cArg x with
    | some (n,b),some x=>some (.fld x fd.offset n b)
    | _,_=>none
   | none=>none
  | _=>none
 | .build t ps=>match dP P t,cParts P t ps.toList,cPlace P t 0 with
  | some z,some qs,some _=>some (.bld z.cells qs)
  | _,_,_=>none
 | .buildSlice t len ps=>match P.underlying t with
  | some (.slice e)=>match (P.info? e).map (·.size),dP P e,cPartsS len ps.toList with
   | some n,some z,some qs=>if 0<n/\z.cells.length=n/\len*n<=16777216 then some (.bldS fz n len z qs) else none
   | _,_,_=>none
  | _=>none
 | .nilCheck x=>(cArg x).map (.fadd · 0)
 | .fieldAddr t x f=>match P.underlying t with
  | some (.struct fs)=>match fs[f]? with
   | some fd=>match (P.info? fd.type).map (·.size),cArg x with
    | some n,some x=>if n≠0 then some (.fadd x fd.offset) else none
    | _,_=>none
   | none=>none
  | _=>none
 | .indexAddr t x i=>match P.underlying t,cArg x,cArg i with
  | some (.slice e),some x,some i=>match (P.info? e).map (·.size) with
   | some n=>some (.iadd x i n)
   | none=>none
  | some (.array len e),some x,some i=>match (P.info? e).map (·.size) with
   | some n=>some (.iadda x i len n)
   | none=>none
  | _,_,_=>none
 | .index t x i=>match P.underlying t,cArg x,cArg i with
  | some .string,some x,some i=>some (.sidx x i 0 0 false)
  | some (.array len e),some x,some i=>match cTy P e with
   | some (n,b)=>if 0<len then some (.sidx x i len n b) else none
   | none=>none
  | _,_,_=>none
 | .load t x=>match cTy P t,cArg x with
  | some (n,b),some x=>some (.ld x n b)
  | _,_=>none
 | .store t x v=>match (P.info? t).map (·.size),cArg x,cArg v,o.dst with
  | some n,some x,some v,none=>if 0<n then some (.st x v n) else none
  | _,_,_,_=>none
 | .alloc t=>(dP P t).map .alloc
 | .box _ x=>(cArg x).map .box
 | .makeSlice t x y=>match P.underlying t with
  | some (.slice e)=>match P.info? e,dP P e,cArg x,cArg y with
   | some i,some z,some x,some y=>if z.cells.length=i.size/\0<i.size then some (.mk i.size i.bytes z x y) else none
   | _,_,_,_=>none
  | _=>none
 | .slice t x lo hi mx=>match P.underlying t,cArg x,cOpt lo,cOpt hi with
  | some (.slice e),some x,some lo',some hi'=>match cOpt mx,(P.info? e).map (·.size) with
   | some mx',some n=>if mx.isSome=true/\hi.isSome=false then none else if lo.isNone=true/\hi.isSome=true/\mx.isSome=true/\isZ hi'=true/\isZ mx'=true/\0<n then some (.slz x n) else some (.zB x lo' hi' mx' n)
   | _,_=>none
  | some .string,some x,some lo,some hi=>if mx.isSome then none else some (.sslc x lo hi)
  | some (.array n elem),some x,some _,some _=>if lo.isNone=true/\hi.isNone=true/\mx.isNone=true/\(P.info? elem).map (·.size)=some 1 then some (.L0 x n) else none
  | _,_,_,_=>none
 | .makeFunc (.func f) xs ys=>match xs.toList.mapM cArg,ys.toList.mapM cArg with
  | some xs,some ys=>some (.mkf f xs ys)
  | _,_=>none
 | .call c=>match c with
  | { callee:=.builtin .len,args:=args,argTypes:=ats }=>match args.toList,ats.toList with
   | [x],[t]=>match P.underlying t,cArg x with
    | some (.slice _),some x=>some (.len x)
    | some .string,some x=>some (.slen x)
    | _,_=>none
   | _,_=>none
  | { callee:=.builtin .min,args:=args,argTypes:=_ }=>match args.toList.mapM cArg with
   | some [x,y]=>some (.mn x y)
   | some [x,y,z]=>some (.mn3 x y z)
   | _=>none
  | { callee:=.builtin .max,args:=args,argTypes:=_ }=>match args.toList.mapM cArg with
   | some [x,y]=>some (.mx x y)
   | some [x,y,z]=>some (.mx3 x y z)
   | _=>none
  | { callee:=.builtin .append,args:=args,argTypes:=ats }=>match args.toList,ats.toList with
   | [s,x],[t,t']=>match P.underlying t,P.underlying t' with
    | some (.slice e),some (.slice _)=>match P.info? e,dP P e,cArg s,cArg x with
     | some i,some z,some s,some x=>if z.cells.length=i.size/\0<i.size then some (.app s x i.size i.bytes z) else none
     | _,_,_,_=>none
    | _,_=>none
   | _,_=>none
  | { callee:=.builtin .copy,args:=args,argTypes:=ats }=>match args.toList,ats.toList with
   | [s,x],[t,_]=>match P.underlying t with
    | some (.slice e)=>match (P.info? e).map (·.size),cArg s,cArg x with
     | some n,some s,some x=>if 0<n then some (.Fi s x n) else none
     | _,_,_=>none
    | _=>none
   | _,_=>none
  | { callee:=.value (.func f),args:=args,argTypes:=_ }=>if fc P f then(args.toList.mapM cArg).map (.call f) else none
  | { callee:=.value x,args:=args,argTypes:=_ }=>match cArg x,args.toList.mapM cArg with
   | some x,some args=>some (.callv x args)
   | _,_=>none
  | _=>none
 | .makeInterface _ _=>some .dead
 | .panic _=>some .dead
 | _=>none
def deadOp (o:Oper):Option AOp :=
 match o.op with
 | .defer _=>none
 | _=>some .dead
def cOp (P:Program) (fz:Bool) (o:Oper):Option AOp :=
 match cOp0 P fz o with
 | some op=>some op
 | none=>match cOpM P o with
  | some op=>some op
  | none=>deadOp o
theorem Mo {α:Type}{a:Array α}{x:α}(h:a.toList=[x]):a = #[x]:=by apply Array.ext';simpa using h
theorem zE {α:Type}{a:Array α}{x y:α}(h:a.toList=[x,y]):a = #[x,y]:=by apply Array.ext';simpa using h
theorem yd {p:Operand}{r:List Operand}{l:List Arg}(h:(p::r).mapM cArg=some l):∃y s,cArg p=some y/\r.mapM cArg=some s/\l=y::s:=by
 rw[List.mapM_cons]at h
 cases h1:cArg p with
 | none=>simp[h1]at h
 | some y =>
  cases h2:r.mapM cArg with
  | none=>simp[h1,h2]at h
  | some s=>simp[h1,h2]at h;exact⟨y,s,rfl,rfl,h.symm⟩
theorem Tz {l:List Operand}(h:l.mapM cArg=some []):l=[]:=by
 cases l with
 | nil=>rfl
 | cons p r=>obtain⟨y,s,_,_,h3⟩:=yd h;cases h3
theorem Nc {l:List Operand}{x y:Arg}(h:l.mapM cArg=some [x,y]):∃p q,l=[p,q]/\cArg p=some x/\cArg q=some y:=by
 cases l with
 | nil=>simp at h
 | cons p r =>
  obtain⟨y1,s1,h1,h2,h3⟩:=yd h
  cases h3
  cases r with
  | nil=>simp at h2
  | cons q s =>
   obtain⟨y2,s2,g1,g2,g3⟩:=yd h2
   cases g3
   exact⟨p,q,by rw[Tz g2],h1,g1⟩
theorem QB {l:List Operand}{x y z:Arg}(h:l.mapM cArg=some [x,y,z]):∃p q r,l=[p,q,r]/\cArg p=some x/\cArg q=some y/\cArg r=some z:=by
 cases l with
 | nil=>simp at h
 | cons p r =>
  obtain⟨y1,s1,h1,h2,h3⟩:=yd h
  cases h3
  obtain⟨q,r',rfl,g1,g2⟩:=Nc h2
  exact⟨p,q,r',rfl,h1,g1,g2⟩
theorem Jg {fz:Bool}{o:Oper}{op:AOp}(h:cOp0 P fz o=some op) (hd:∀i,o.dst=some i->i<nt):fv P nt o op:=by
 unfold cOp0 at h
 split at h
 ·rename_i x ho
  simp at h;obtain⟨x',hx,rfl⟩:=h
  exact Qy (Or.inl ho) hx hd
 ·rename_i x ho
  simp at h;obtain⟨x',hx,rfl⟩:=h
  exact Qy (Or.inr ho) hx hd
 ·rename_i x y z ho
  split at h
  ·simp at h;subst h;exact Rn ho (by assumption) (by assumption) (by assumption) hd
  ·cases h
 ·rename_i op' t x y t' ho
  split at h
  ·rename_i x' y' hx hy
   split at h
   ·split at h
    ·cases h
    ·rename_i hg
     split at h
     ·rename_i h1 h2
      simp at h;subst h
      exact JB false ho hx hy hd h1 (k0 h2) (by simpa using hg) (fun _=>rfl)
     ·cases h
   ·split at h
    ·cases h
    ·rename_i hg
     split at h
     ·rename_i h1 h2
      simp at h;subst h
      exact JB true ho hx hy hd h1 (k0 h2) (by simpa using hg) (fun _=>rfl)
     ·cases h
   ·split at h
    ·cases h
    ·rename_i hg
     split at h
     ·rename_i h1 h2
      split at h
      ·rename_i hn
       simp at h;subst h hn
       exact JB false ho hx hy hd h1 (k0 h2) (by simpa using hg) (fun h=>by cases h)
      ·cases h
     ·cases h
   ·split at h
    ·cases h
    ·rename_i hg
     split at h
     ·rename_i h1 h2
      split at h
      ·rename_i hn
       simp at h;subst h hn
       exact JB true ho hx hy hd h1 (k0 h2) (by simpa using hg) (fun h=>by cases h)
      ·cases h
     ·cases h
   ·rename_i hu
    split at h
    ·simp at h;subst h
     exact MD false ho hx hy hd hu
    ·cases h
   ·rename_i hu
    split at h
    ·simp at h;subst h
     exact MD true ho hx hy hd hu
    ·cases h
   ·simp at h;subst h
    exact Tq ho hx hy hd
  ·cases h
 ·rename_i op' t x ho
  simp at h;obtain⟨x',hx,rfl⟩:=h
  exact UW ho hx hd
 ·rename_i s d x ho
  split at h
  ·simp at h;subst h
   exact Rs ho (by assumption) hd (by assumption) (by assumption)
  ·split at h
   ·rename_i h1 h2 h3 _ h4
    simp at h;subst h
    exact Ts ho h3 hd h1 h4 h2
   ·cases h
  ·cases h
 ·rename_i x i ho
  simp at h;obtain⟨x',hx,rfl⟩:=h
  exact Tm ho hx hd
 ·rename_i t x f ho
  split at h
  ·rename_i fs hu
   split at h
   ·rename_i fd hf
    split at h
    ·rename_i h1 h2
     simp at h;subst h
     exact Tl ho h2 hd hu hf (k0 h1)
    ·cases h
   ·cases h
  ·cases h
 ·rename_i t ps ho
  split at h
  ·rename_i h1 h2 h3
   simp at h;subst h
   exact Tp ho h1 h2 (by rw[h3];simp) hd
  ·cases h
 ·rename_i t len ps ho
  split at h
  ·rename_i e hu
   split at h
   ·rename_i h1 h2 h3
    split at h
    ·rename_i hc
     simp at h;subst h
     exact Rt fz ho hu h1 hc.1 h2 hc.2.1 h3 hc.2.2 hd
    ·cases h
   ·cases h
  ·cases h
 ·rename_i x ho
  simp at h;obtain⟨x',hx,rfl⟩:=h
  exact Ro ho hx hd
 ·rename_i t x f ho
  split at h
  ·rename_i fs hu
   split at h
   ·rename_i fd hf
    split at h
    ·rename_i h1 h2
     split at h
     ·rename_i hn
      simp at h;subst h
      exact Rr ho h2 hd hu hf h1 hn
     ·cases h
    ·cases h
   ·cases h
  ·cases h
 ·rename_i t x i ho
  split at h
  ·rename_i hu hx hi
   split at h
   ·simp at h;subst h;exact Rq ho hx hi hd hu (by assumption)
   ·cases h
  ·rename_i hu hx hi
   split at h
   ·simp at h;subst h;exact OQ ho hx hi hd hu (by assumption)
   ·cases h
  ·cases h
 ·rename_i t x i ho
  split at h
  ·simp at h;subst h;exact Rm ho (by assumption) (by assumption) hd (by assumption)
  ·split at h
   ·rename_i h1
    split at h
    ·rename_i h2
     simp at h;subst h;exact OP ho (by assumption) (by assumption) hd (by assumption) (k0 h1) h2
    ·cases h
   ·cases h
  ·cases h
 ·rename_i t x ho
  split at h
  ·rename_i h1 h2;simp at h;subst h;exact UZ ho h2 hd (k0 h1)
  ·cases h
 ·rename_i t x v ho
  split at h
  ·split at h
   ·simp at h;subst h;exact UX ho (by assumption) (by assumption) (by assumption) (by assumption) (by assumption)
   ·cases h
  ·cases h
 ·rename_i t ho
  simp at h;obtain⟨z,hz,rfl⟩:=h
  exact OS ho hz hd
 ·rename_i t x ho
  simp at h;obtain⟨x',hx,rfl⟩:=h
  exact To ho hx hd
 ·rename_i t x y ho
  split at h
  ·rename_i e hu
   split at h
   ·rename_i h1 h2 h3 h4
    split at h
    ·rename_i hc
     simp at h;subst h
     exact UY ho h3 h4 hd hu h1 h2 hc.1 hc.2
    ·cases h
   ·cases h
  ·cases h
 ·rename_i t x lo hi mx ho
  split at h
  ·rename_i hu hx hlo hhi
   split at h
   ·rename_i hmx hn
    split at h
    ·cases h
    ·rename_i hc
     split at h
     ·rename_i hz
      obtain⟨z1,z2,z3,z4,z5,z6⟩:=hz
      simp at h;subst h
      cases lo with
      | some v=>cases z1
      | none =>
      cases hi with
      | none=>cases z2
      | some hi =>
      cases mx with
      | none=>cases z3
      | some mx=>exact Te ho hx hhi hmx z4 z5 hd hu hn z6
     ·simp at h;subst h
      exact Tf ho hx hlo hhi hmx (fun hm=>by cases hb:hi.isSome<;>simp_all) hd hu hn
   ·cases h
  ·rename_i hu hx hlo hhi
   split at h
   ·cases h
   ·rename_i hc
    simp at h;subst h
    have hm:mx=none:=by cases mx<;>simp_all
    subst hm
    exact Rk ho hx hlo hhi hd hu
  ·rename_i hu hx _ _
   split at h
   ·rename_i hc
    obtain⟨c1,c2,c3,c4⟩:=hc
    simp at h;subst h
    cases lo<;>cases hi<;>cases mx<;>simp at c1 c2 c3
    exact Tg ho hx hd hu c4
   ·cases h
  ·cases h
 ·rename_i f xs ys ho
  split at h
  ·simp at h;subst h;exact Tj ho (by assumption) (by assumption) hd
  ·cases h
 ·rename_i c ho
  split at h
  ·rename_i args ats
   split at h
   ·rename_i h1 h2
    have e1:=Mo h1
    have e2:=Mo h2
    subst e1 e2
    split at h
    ·simp at h;subst h;exact Tk ho (by assumption) hd (by assumption)
    ·simp at h;subst h;exact Rl ho (by assumption) hd (by assumption)
    ·cases h
   ·cases h
  ·rename_i args ats
   split at h
   ·rename_i h1
    obtain⟨p,q,e1,e2,e3⟩:=Nc h1
    have:=zE e1
    subst this
    simp at h;subst h
    exact Th false ho e2 e3 hd
   ·rename_i h1
    obtain⟨p,q,r,e1,e2,e3,e4⟩:=QB h1
    have:args = #[p,q,r]:=by apply Array.ext';simpa using e1
    subst this
    simp at h;subst h
    exact Qz false ho e2 e3 e4 hd
   ·cases h
  ·rename_i args ats
   split at h
   ·rename_i h1
    obtain⟨p,q,e1,e2,e3⟩:=Nc h1
    have:=zE e1
    subst this
    simp at h;subst h
    exact Th true ho e2 e3 hd
   ·rename_i h1
    obtain⟨p,q,r,e1,e2,e3,e4⟩:=QB h1
    have:args = #[p,q,r]:=by apply Array.ext';simpa using e1
    subst this
    simp at h;subst h
    exact Qz true ho e2 e3 e4 hd
   ·cases h
  ·rename_i args ats
   split at h
   ·rename_i h1 h2
    have e1:=zE h1
    have e2:=zE h2
    subst e1 e2
    split at h
    ·rename_i hu hu'
     split at h
     ·rename_i h3 h4 h5 h6
      split at h
      ·rename_i hc
       simp at h;subst h
       exact Tt ho h5 h6 hd hu ⟨_,hu'⟩ h3 h4 hc.1 hc.2
      ·cases h
     ·cases h
    ·cases h
   ·cases h
  ·rename_i args ats
   split at h
   ·rename_i h1 h2
    have e1:=zE h1
    have e2:=zE h2
    subst e1 e2
    split at h
    ·rename_i hu
     split at h
     ·rename_i h3 h4 h5
      split at h
      ·rename_i hc
       simp at h;subst h
       exact Tn ho h4 h5 hd hu h3 hc
      ·cases h
     ·cases h
    ·cases h
   ·cases h
  ·rename_i f args ats
   split at h
   ·rename_i hc
    simp at h;obtain⟨ys,hy,rfl⟩:=h
    exact MG ho hy hd hc
   ·cases h
  ·rename_i x args ats _
   split at h
   ·simp at h;subst h;exact OR ho (by assumption) (by assumption) hd
   ·cases h
  ·cases h
 ·simp at h;subst h;exact fun _ _ _ hv=>hv.elim
 ·simp at h;subst h;exact fun _ _ _ hv=>hv.elim
 ·cases h
theorem A6 {o:Oper}{op:AOp}(h:deadOp o=some op):op=.dead/\∀c,o.op≠.defer c:=by
 unfold deadOp at h
 split at h
 ·cases h
 ·rename_i hn
  simp at h
  exact⟨h.symm,fun c hc=>hn c hc⟩
theorem pE {fz:Bool}{o:Oper}{op:AOp}(h:cOp P fz o=some op) (hd:∀i,o.dst=some i->i<nt):fv P nt o op:=by
 unfold cOp at h
 split at h
 ·rename_i op' h0
  cases h
  exact Jg h0 hd
 ·split at h
  ·rename_i op' h0
   cases h
   exact Jf h0 hd
  ·obtain⟨rfl,_⟩:=A6 h
   exact fun _ _ _ hv=>hv.elim
end Go.Am
namespace Go.Am
open Go
variable [bW]
variable {P:Program}{nt:Nat}
theorem grow_step {c:Ctx}(hr:av c) (o:Obj):c.le ⟨c.ρ,c.X,c.h,c.hp.push o⟩/\av ⟨c.ρ,c.X,c.h,c.hp.push o⟩:=by
 have get:∀g,g<c.hp.size->(c.hp.push o)[g]?=c.hp[g]?:=fun g hg=>by rw[Array.getElem?_push,if_neg (by omega)]
 have hle:c.le ⟨c.ρ,c.X,c.h,c.hp.push o⟩ :=
  ⟨by simp,rfl,fun g hg _=>get g hg,fun g cur ty fr hg=>⟨cur,(get g (Array.getElem?_eq_some_iff.1 hg).1).trans hg,rfl⟩,fun g r hg=>⟨r,(get g (Array.getElem?_eq_some_iff.1 hg).1).trans hg,rfl⟩,
   fun _ _=>rfl,fun _=>Trans.refl _,fun n g hm hρ _=>⟨n,hm,hρ⟩⟩
 exact⟨hle,fun n=>iW hle (hr.slot n) (fun _ _=>rfl) (fun g hm hρ=>get g (kO hr hm hρ)),hr.inj,hr.apart,fun g hX=>by have:=hr.xlt g hX;simp;omega,hr.fin,hr.glob.mono hle,by rw[hle.X];exact Nat.le_trans hr.lo hle.size⟩
def dW (st:LSt) (B:cV) (tmps:Array Value) (dfs:Nat):Loop :=
 { state:=st.st,pending:=st.pend,fn:=B.fn,tmps:=tmps,params:=B.ps.toArray,assign:=B.assign,body:=B.body,defers:=dfs }
theorem Dn {c:Ctx}{w:World}(hp:c.hp=w.heap) (hr:av c){n g:Nat}{st:LSt}{B:cV}(hn:c.h n=.lp st B) (hρ:c.ρ n=some g){tmps:Array Value}{dfs:Nat}(hg:w.heap[g]?=some (.loop (dW st B tmps dfs)))
  (hsz:tmps.size=B.nt) (hrel:∀i,aB c (B.env i) (tmps.getD i Go.undef)) (st':LSt) :
  c.le ⟨c.ρ,c.X,aD c.h n (.lp st' B),(w.putObj g (.loop (dW st' B tmps dfs))).heap⟩/\av ⟨c.ρ,c.X,aD c.h n (.lp st' B),(w.putObj g (.loop (dW st' B tmps dfs))).heap⟩:=by
 have hlt:=(Array.getElem?_eq_some_iff.1 hg).1
 have hst:iu c ⟨c.ρ,c.X,aD c.h n (.lp st' B),(w.putObj g (.loop (dW st' B tmps dfs))).heap⟩ n n g:=by
  refine⟨rfl,fun k h1 _=>by simp[aD,h1],fun _ _=>rfl,Or.inl rfl,fun h=>absurd rfl h,by simp[aD,Slot.mine],hρ,by simp only[ar];rw[hn];exact .lpLp _ _ _,fun _=>hρ,
   by simp[World.putObj_size,hp],fun k _ h2=>by rw[hp];exact World.putObj_heap_other h2,fun cur ty fr h=>(by rw[hp,hg]at h;cases h),fun r h=>?_,Or.inr ⟨by rw[hn];trivial,hρ⟩⟩
  rw[hp,hg]at h
  cases h
  exact⟨_,World.putObj_heap_same hlt,rfl⟩
 refine⟨hst.le,hst.heap hr ?_⟩
 simp only[ar]
 exact⟨g,tmps,dfs,hρ,World.putObj_heap_same hlt,hsz,fun i=>(hrel i).mono hst.le⟩
theorem FB {α:Type}(f:Nat->α) (n:Nat) (x y:α):aD (aD f n x) n y=aD f n y:=by
 funext k
 by_cases h:k=n<;>simp[aD,h]
theorem Cv {c:Ctx}{w:World}(hp:c.hp=w.heap) (hr:av c){n g:Nat}{st:LSt}{B:cV}(hn:c.h n=.lp st B) (hρ:c.ρ n=some g) :
  ∃(tmps:Array Value) (dfs:Nat),w.heap[g]?=some (.loop (dW st B tmps dfs))/\tmps.size=B.nt/\∀i,aB c (B.env i) (tmps.getD i Go.undef):=by
 have hs:=hr.slot n
 rw[hn]at hs
 obtain⟨g',tmps,dfs,h1,h2,h3,h4⟩:=hs
 rw[hρ]at h1
 cases h1
 exact⟨tmps,dfs,by rw[<- hp];exact h2,h3,h4⟩
theorem yf {c c':Ctx}(hle:c.le c'){n g:Nat}{st:LSt}{B:cV}(hn:c.h n=.lp st B) (hρ:c.ρ n=some g){st':LSt}{B':cV}(hn':c'.h n=.lp st' B'):B'=B/\c'.ρ n=some g:=by
 have ht:=hle.tr n
 rw[hn,hn']at ht
 refine⟨by cases ht;rfl,(hle.names n (by rw[hn];simp)).trans hρ⟩
theorem C8 {a:Act}{g:Operand}{f:FuncId}{cs:Array Value}(hg:a.eval g=.func (.func f) #[] cs) (l:Nat) (w:World) :
  (resolve a.eval (rangeCall g l) 0).run P w=.ok { target:=.fn (.func f) cs,args:= #[.func (.yield l) #[] #[]] } w:=by
 simp only[resolve,hg]
 simp[go_sem]
theorem MN {c:Ctx}{d:D}{ds:List D}{v:Value}{vs:Array Value}(h:aB c d v) (hs:∀(i:Nat) (x:D),ds[i]?=some x->aB c x (vs.getD i Go.undef)) :
  ∀(i:Nat) (x:D),(d::ds)[i]?=some x->aB c x ((#[v]++vs).getD i Go.undef):=by
 intro i x hx
 cases i with
 | zero =>
  simp at hx;subst hx
  have e:(#[v]++vs).getD 0 Go.undef=v:=by rw[<- aH];simp
  rw[e];exact h
 | succ i =>
  simp at hx
  have:=hs i x hx
  have e:(#[v]++vs).getD (i+1) Go.undef=vs.getD i Go.undef:=by
   rw[<- aH, <- aH]
   simp
  rw[e]
  exact this
theorem get_map (l:List Nat) (f:Nat->D) (i:Nat):LEnv.get (l.map fun k=>(k,f k)) i=.undef\/LEnv.get (l.map fun k=>(k,f k)) i=f i:=by
 induction l with
 | nil=>exact Or.inl rfl
 | cons k r ih =>
  simp only[List.map_cons,LEnv.get]
  split
  ·rename_i h;subst h;exact Or.inr rfl
  ·exact ih
theorem LD {g:Operand}{g':Arg}{ps:Array Nat}{keep exs:List Nat}{assign body:Code}{a' b':ACode}(hg:cArg g=some g') (hnd:ps.toList.Nodup) (hlt:∀p∈ps.toList,p<nt)
  (iha:∀(Q:LPost) (e:LEnv) (h:Heap),vcC P a' Q e h->o9 P nt assign (fun x=>up (Q x)) e.get h)
  (ihb:∀(Q:LPost) (e:LEnv) (h:Heap),vcC P b' Q e h->o9 P nt body (fun x=>up (Q x)) e.get h)
  {Q:LPost}{e:LEnv}{h:Heap}(hv:vcC P (.range g' ps.toList keep exs a' b') Q e h):o9 P nt (.rangeFunc g ps assign body) (fun x=>up (Q x)) e.get h:=by
 intro r c w a hh hp hr hs0 ho
 simp only[vcC]at hv
 have rx:=aG hg hs0
 obtain⟨ke,hke⟩:∃ke:LEnv,ke=keep.map fun k=>(k,e.get k):=⟨_,rfl⟩
 rw[<- hke]at hv
 have hs:ot c nt ke.get a:=by
  refine⟨hs0.glob,hs0.lo,hs0.defers,hs0.size,fun i=>?_⟩
  rw[hke]
  rcases get_map keep e.get i with h|h
  ·rw[h];exact .undef _
  ·rw[h];exact hs0.rel i
 generalize g'.get e=dx at hv rx
 cases dx<;>try exact hv.elim
 rename_i f fs cs
 obtain⟨rfl,hcal,hv⟩:=hv
 generalize hge:a.eval g=vg at rx
 cases rx with
 | fn _ _ _ va vb hsa hsb hra hrb =>
 have hva:va = #[]:=Array.eq_empty_of_size_eq_zero (by simpa using hsa)
 subst hva
 have core:∀(fn:FuncId) (c0:Ctx) (W0:World) (dfs:Nat) (mark:List Deferred),c.le c0->c0.h=h->c0.hp=W0.heap->av c0->WS w W0->ot c0 nt ke.get { a with defers:=mark++a.defers } ->
   CallsIn (rF r) 0 P f (#[.func (.yield W0.heap.size) #[] #[]]++vb) (W0.alloc (.loop { state:=.ready,pending:=none,fn,tmps:=a.tmps,params:=ps,assign,body,defers:=dfs }))
    (rangePost (rF r) 0 P W0.heap.size (FinX c w nt fun x=>up (Q x)) { a with defers:=mark++a.defers }):=by
  intro fn c0 W0 dfs mark hle0 hh0 hp0 hr0 hws0 hs0
  obtain⟨ρ0,X0,h0,hp0'⟩:=c0
  have hX0:X0=c.X:=hle0.X
  subst hX0
  obtain⟨c0,hc0⟩:∃c0:Ctx,c0=⟨ρ0,c.X,h0,hp0'⟩:=⟨_,rfl⟩
  rw[<- hc0]at hle0 hh0 hp0 hr0 hs0
  have hX:c0.X=c.X:=hle0.X
  obtain⟨n,top⟩:=dL hr0
  let B:cV:=⟨fn,nt,ke.get,ps.toList,assign,body⟩
  have hrec:(.loop { state:=.ready,pending:=none,fn,tmps:=a.tmps,params:=ps,assign,body,defers:=dfs }:Obj)=.loop (dW .ready B a.tmps dfs):=by
   simp[dW,B,LSt.st,LSt.pend]
  rw[hrec]
  have hst:=iu.new (c:=c0) (n:=n) top.free (s:=.lp .ready B) trivial (.loop (dW .ready B a.tmps dfs)) (hp':=(W0.alloc (.loop (dW .ready B a.tmps dfs))).heap) (by rw[hp0];rfl)
  have hps0:c0.hp.size=W0.heap.size:=by rw[hp0]
  have hr1:=hst.heap hr0 (by
   simp only[ar]
   refine⟨W0.heap.size,a.tmps,dfs,by simp[aD,hps0],?_,hs0.size,fun i=>(hs0.rel i).mono hst.le⟩
   show(W0.heap.push _)[W0.heap.size]?=_
   exact hQ _ _)
  have hcall:=hv n B (hh0 ▸ top) rfl rfl hnd (fun p hp=>hlt p hp) iha ihb
  have hc:=hcall ⟨aD c0.ρ n (some c0.hp.size),c0.X,aD c0.h n (.lp .ready B),(W0.alloc (.loop (dW .ready B a.tmps dfs))).heap⟩ (W0.alloc (.loop (dW .ready B a.tmps dfs))) (#[.func (.yield W0.heap.size) #[] #[]]++vb)
   (by rw[hh0]) rfl hr1 (by simp[hsb];omega)
   (MN (.yld n W0.heap.size .ready B (by simp[aD]) (by simp[aD,hps0])) (fun i d hd=>((hrb i d hd).mono hle0).mono hst.le))
  refine(show CallsIn (rF r) 0 P f _ _ _ from callsIn_wide.2 hc).mono ?_
  rintro e' w3 ⟨v,rr,ρ2,h2,rfl,le2,hr2,ws2,_,hend⟩
  have hn1:(⟨aD c0.ρ n (some c0.hp.size),c0.X,aD c0.h n (.lp .ready B),(W0.alloc (.loop (dW .ready B a.tmps dfs))).heap⟩:Ctx).h n=.lp .ready B:=by simp[aD]
  have hρ1:(⟨aD c0.ρ n (some c0.hp.size),c0.X,aD c0.h n (.lp .ready B),(W0.alloc (.loop (dW .ready B a.tmps dfs))).heap⟩:Ctx).ρ n=some W0.heap.size:=by simp[aD,hps0]
  have go:∀(st:LSt),h2 n=.lp st B->st.st≠.busy->(∀(w4:World),(Instr.endLoop W0.heap.size).run P w3=.ok st.pend w4->∀(x:Ex),Q x ke (aD h2 n .dead)->Fin c w nt (up (Q x)) { a with defers:=mark++a.defers } w4) /\
    ∃w4,(Instr.endLoop W0.heap.size).run P w3=.ok st.pend w4:=by
   intro st hn2 hnb
   obtain⟨_,hρ2⟩:=yf le2 hn1 hρ1 hn2
   obtain⟨tmps2,dfs2,q1,q2,q3⟩:=Cv (c:=⟨ρ2,c0.X,h2,w3.heap⟩) (w:=w3) rfl hr2 hn2 hρ2
   have hrun:=run_endLoop (P:=P) q1 hnb
   have hover:(.loop { dW st B tmps2 dfs2 with state:=.exhausted }:Obj)=.loop (dW (.over st.pend) B tmps2 dfs2):=rfl
   rw[hover]at hrun
   refine⟨?_,_,hrun⟩
   intro w4 hrun4 x hq
   have hw4:w4=w3.putObj W0.heap.size (.loop (dW (.over st.pend) B tmps2 dfs2)):=by
    have hcc:=hrun4.symm.trans hrun
    have:=(by simpa using hcc:_/\_)
    exact this.2
   subst hw4
   obtain⟨le3,hr3⟩:=Dn (c:=⟨ρ2,c0.X,h2,w3.heap⟩) rfl hr2 hn2 hρ2 q1 q2 q3 (.over st.pend)
   obtain⟨le4,hr4⟩:=E3 hr3 (n:=n) (by simp only[ar];exact .lpDead _ _) (by simp[aD])
   simp only[FB]at le4 hr4
   have lec:=(((hle0.trans hst.le).trans le2).trans le3).trans le4
   unfold Fin;rw[<- hX]
   exact⟨ρ2,ke.get,aD h2 n .dead,lec,hr4,hws0.trans (show WS W0 (w3.putObj _ _) from ⟨ws2.os,ws2.tape,ws2.output⟩),hs0.mono (((hst.le).trans le2).trans (le3.trans le4)),ke,rfl,hq⟩
  unfold rangeEnd at hend
  cases hl2:h2 n<;>simp only[hl2]at hend<;>try exact hend.elim
  rename_i st B2
  obtain⟨rfl,_⟩:=yf le2 hn1 hρ1 (show(⟨ρ2,c0.X,h2,w3.heap⟩:Ctx).h n=_ from hl2)
  cases st with
  | ready =>
   obtain⟨g1,w4,g2⟩:=go .ready hl2 (by simp[LSt.st])
   exact⟨none,w4,g2,g1 w4 g2 .normal hend⟩
  | done x =>
   obtain⟨g1,w4,g2⟩:=go (.done x) hl2 (by simp[LSt.st])
   cases x with
   | normal=>exact hend.elim
   | exit id=>exact⟨some (.exit id),w4,g2,wpIn_exit (g1 w4 g2 (.exit id) (sP hend))⟩
   | ret=>exact⟨some .ret,w4,g2,wpIn_ret (g1 w4 g2 .ret (vk hend))⟩
   | pan=>exact hend.elim
   | jump l=>exact hend.elim
  | busy=>exact hend.elim
  | over p=>exact hend.elim
 refine wpIn_rangeFunc fun fn _=>?_
 cases r with
 | none =>
  obtain⟨le0,hr0⟩:=grow_step hr (.deferred (some []))
  have hnew:¬c.own w.heap.size:=by
   rintro (hX|⟨n,hm,hρ⟩)
   ·have:=hr.xlt _ hX;rw[hp]at this;omega
   ·have:=kO hr hm hρ;rw[hp]at this;omega
  have hget:(c.hp.push (.deferred (some [])))[w.heap.size]?=some (.deferred (some [])):=by rw[<- hp];exact hQ _ _
  have hs0:ot ⟨c.ρ,c.X,c.h,c.hp.push (.deferred (some []))⟩ nt ke.get { a with defers:=[{ target:=.collected w.heap.size,args:= #[] }]++a.defers }:=by
   have hm:=hs.mono le0
   have hmk:=hs.defers.marks
   have hmk':=hmk.mono le0
   refine⟨hm.glob,hm.lo,⟨?_,by rw[List.singleton_append,List.filter_cons_of_neg (by simp[xf])];exact hm.defers.rest⟩,hm.size,hm.rel⟩
   rw[List.singleton_append,List.filter_cons_of_pos (by simp[xf])]
   refine⟨fun d hd=>?_,?_⟩
   ·simp only[List.mem_cons]at hd
    rcases hd with rfl|hd
    ·exact⟨w.heap.size,rfl,by have:=hs.lo;rw[hp]at this;exact this,hget,hnew⟩
    ·exact hmk'.all d hd
   ·simp only[List.pairwise_cons]
    refine⟨fun d hd=>?_,hmk'.nd⟩
    obtain⟨k,rfl,_,h1,_⟩:=hmk.all d hd
    have:=(Array.getElem?_eq_some_iff.1 h1).1
    rw[hp]at this
    intro heq
    simp at heq
    omega
  refine⟨_,_,_,_,_,f, #[.func (.yield (w.heap.size+1)) #[] #[]]++vb,(w.alloc (.deferred (some []))).alloc (.loop { state:=.ready,pending:=none,fn,tmps:=a.tmps,params:=ps,assign,body,defers:=w.heap.size }),run_enterLoop_outer _ _ _ _ _,C8 hge _ _,fun _ _=>trivial,?_,fun h=>by(cases h),?_⟩
  rotate_left
  ·have:=core fn ⟨c.ρ,c.X,c.h,c.hp.push (.deferred (some []))⟩ (w.alloc (.deferred (some []))) w.heap.size [{ target:=.collected w.heap.size,args:= #[] }] le0 hh (by rw[hp];rfl) hr0 ⟨rfl,rfl,rfl⟩ hs0
   rw[World.size_alloc]at this
   exact this
  simp only[World.size_alloc]
  simp[invoke,go_sem,jn hcal]
 | some l0 =>
  obtain⟨rc,hrc⟩:=ho l0 rfl
  rw[hp]at hrc
  refine⟨_,_,_,_,_,f,_,_,run_enterLoop_inner hrc _ _ _ _ _,C8 hge _ _,fun _ _=>trivial,?_,fun h=>by(cases h),core fn c w rc.defers [] (Ctx.le.refl c) hh hp hr (WS.refl w) hs⟩
  simp[invoke,go_sem,jn hcal]
end Go.Am
