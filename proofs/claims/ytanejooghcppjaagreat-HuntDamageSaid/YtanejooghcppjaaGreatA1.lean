/- The abstract machine: what the operations of the program do, on plain data. No condition. -/
import Derived.Calls
import Derived.Orders
import Derived.Laws.AppendOwn
import Derived.RowKit3
import Derived.OrdersIn
import Derived.RangeFuncRecord
import Derived.MapKept
import Derived.Laws.Cells
import Derived.Laws.Entries
import Derived.Laws.Tables
import Derived.Laws.StructEq
import Derived.ChangeKeysEq
import Derived.Laws.CopyRow
import Derived.Laws.BytesString
import Derived.WideKeyRuns
import Derived.RangeFuncNested
set_option linter.unnecessarySimpa false
set_option linter.defProp false
set_option linter.unusedSectionVars false
set_option linter.unusedSimpArgs false
set_option linter.unusedVariables false
namespace Go.Am
open Go
def aK:=@List.mem_of_getElem?
def aq:=@List.getElem?_eq_some_iff
def aG:=@List.getElem?_eq_getElem
def aT:=@Int.toNat_natCast
def db:=@List.getElem?_of_mem
def av:=@List.cons.injEq
def aE:=@List.length_map
def dj:=@Bool.false_eq_true
inductive D where
 | undef
 | nil
 | nilfn
 | nilmap
 | int (k:IntKind) (n:Int)
 | bool (b:Bool)
 | str (s:ByteArray)
 | sl (xs:List D)
 | ms (n off len:Nat)
 | ptr (n i j:Nat)
 | vp (e:D) (j:Nat)
 | agg (cs:List D)
 | tup (ds:List D)
 | fn (f:FuncId) (a b:List D)
 | yld (n:Nat)
 | mp (n:Nat)
 | nilp
inductive Ex where
 | normal
 | exit (id:Nat)
 | ret
 | pan
 | jump (l:Nat)
structure fu where
 fn:FuncId
 nt:Nat
 env:Nat->D
 ps:List Nat
 assign:Code
 body:Code
inductive LSt where
 | ready
 | busy
 | done (x:Ex)
 | over (p:Option Code)
def LSt.st:LSt->LoopState
 | .ready=>.ready
 | .busy=>.busy
 | .done _=>.done
 | .over _=>.exhausted
def LSt.pend:LSt->Option Code
 | .done (.exit id)=>some (.exit id)
 | .done .ret=>some .ret
 | .over p=>p
 | _=>none
def D.cells:D->List D
 | .agg cs=>cs
 | d=>[d]
def D.one:D->Bool
 | .agg _=>false
 | .tup _=>false
 | .undef=>false
 | _=>true
def D.vone:D->Bool
 | .nil=>true
 | .nilfn=>true
 | .nilmap=>true
 | .nilp=>true
 | .int _ _=>true
 | .bool _=>true
 | .str _=>true
 | .sl _=>true
 | _=>false
theorem D.cu {d:D}(h:d.vone=true):d.one=true:=by cases d<;>simp_all [D.vone,D.one]
inductive KeyT where
 | int (k:IntKind)
 | pair (k:IntKind)
deriving DecidableEq
def KeyT.okB:KeyT->D->Bool
 | .int k,.int k' _=>decide (k=k')
 | .pair k,.agg [.int k1 _,.int k2 _]=>decide (k=k1)&&decide (k=k2)
 | _,_=>false
inductive Slot where
 | free
 | dead
 | box (v:D)
 | arr (esz:Nat) (els:List D)
 | frz (esz:Nat) (els:List D)
 | lp (st:LSt) (B:fu)
 | map (kt:KeyT) (ents:List (D×D))
def Slot.mine:Slot->Prop
 | .box _=>True
 | .arr _ _=>True
 | .lp _ _=>True
 | .map _ _=>True
 | _=>False
def Slot.used:Slot->Bool
 | .free=>false
 | _=>true
theorem Slot.M4 {s:Slot}(h:s≠.free):s.used=true:=by cases s<;>first|rfl|exact absurd rfl h
def Slot.row:Slot->Option (Nat×List D)
 | .arr e l=>some (e,l)
 | .frz e l=>some (e,l)
 | _=>none
abbrev Heap:=Nat → Slot
abbrev HKq:=D → Heap → Prop
abbrev HJq:=List D → Heap → Prop
abbrev TTq:=Nat → Option (List Nat×List Nat×List Nat)
abbrev TLq:=Nat → Option (List Nat×List Nat)
abbrev LSq:=List (Nat×Slot)
def ak {α:Type}(f:Nat->α) (n:Nat) (x:α):Nat->α:=λ m=>if m=n then x else f m
theorem af {α:Type}(f:Nat->α) (n:Nat) (x:α):ak f n x n=x:=by simp[ak]
theorem aa {α:Type}(f:Nat->α){n m:Nat}(x:α) (h:m≠n):ak f n x m=f m:=by simp[ak,h]
structure XT where
 p:Nat->Prop
 lo:Nat
 dfs:List Deferred
instance:CoeFun XT (λ _=>Nat->Prop):=⟨XT.p⟩
structure Ctx where
 ρ:Nat->Option Nat
 X:XT
 h:Heap
 hp:Array Obj
def cellOf (hp:Array Obj) (b o:Nat):Option Value :=
 match hp[b]? with
 | some (.cells c _ _)=>c[o]?
 | _=>none
theorem Al (w:World) (b o:Nat):w.cell? ⟨b,o,none⟩=cellOf w.heap b o:=by
 grind [World.cell?,cellOf]
def Ctx.own (c:Ctx) (g:Nat):Prop:=c.X g\/∃n,(c.h n).mine/\c.ρ n=some g
def aP (xs:List D) (i j:Nat):Option D:=(xs[i]?).bind (λ e=>e.cells[j]?)
inductive aA (c:Ctx):D->Value->Prop where
 | undef (v:Value):aA c .undef v
 | nil:aA c .nil (.slice none 0 0)
 | nilfn:aA c .nilfn .nilFunc
 | nilmap:aA c .nilmap (.map none)
 | nilp:aA c .nilp (.pointer none)
 | int (k:IntKind) (n:Int):aA c (.int k n) (.int k n)
 | bool (b:Bool):aA c (.bool b) (.bool b)
 | str (s:ByteArray):aA c (.str s) (.string s)
 | yA (p:Option Addr) (cap:Nat) (hm:cap<=maxLen):aA c (.sl []) (.slice p 0 cap)
 | sl (xs:List D) (b o cap esz:Nat) (f:Nat->Nat->Value) (hne:xs≠[]) (hc:xs.length<=cap) (hm:cap<=maxLen) (he:0<esz)
   (hlen:∀e∈xs,e.cells.length=esz) (hone:∀i j (d:D),aP xs i j=some d->d.vone=true)
   (hcell:∀i j d,aP xs i j=some d->cellOf c.hp b (o+(i*esz+j))=some (f i j)) (hown:¬c.own b)
   (hrel:∀i j d,aP xs i j=some d->aA c d (f i j)):aA c (.sl xs) (.slice (some ⟨b,o,none⟩) xs.length cap)
 | msDead (n off len:Nat) (p:Option Addr) (l k:Nat) (h:c.h n=.dead):aA c (.ms n off len) (.slice p l k)
 | msNil (n esz:Nat) (els:List D) (h:(c.h n).row=some (esz,els)) (hρ:c.ρ n=none):aA c (.ms n 0 0) (.slice none 0 0)
 | ms (n off len g esz cap:Nat) (els:List D) (cur:Array Value) (ty:TypeId) (fr:Nat×Nat) (h:(c.h n).row=some (esz,els)) (hρ:c.ρ n=some g)
   (hl:off+len<=els.length) (hg:c.hp[g]?=some (Obj.cells cur ty fr)) (hs:(off+cap)*esz<=cur.size) (hc:len<=cap) (hm:cap<=maxLen) :
   aA c (.ms n off len) (.slice (some ⟨g,off*esz,none⟩) len cap)
 | msE (n off esz:Nat) (p:Option Addr) (els:List D) (h:(c.h n).row=some (esz,els)):aA c (.ms n off 0) (.slice p 0 0)
 | ptrDead (n i j b o:Nat) (h:c.h n=.dead):aA c (.ptr n i j) (.pointer (some ⟨b,o,none⟩))
 | ptrBox (n j g:Nat) (v:D) (h:c.h n=.box v) (hρ:c.ρ n=some g):aA c (.ptr n 0 j) (.pointer (some ⟨g,j,none⟩))
 | ptrRow (n i j g esz:Nat) (els:List D) (h:(c.h n).row=some (esz,els)) (hρ:c.ρ n=some g) (hi:i<els.length) :
   aA c (.ptr n i j) (.pointer (some ⟨g,i*esz+j,none⟩))
 | vp (e:D) (j b o:Nat) (f:Nat->Value) (hone:∀(k:Nat) (d:D),e.cells[k]?=some d->d.one=true)
   (hcell:∀(k:Nat) (d:D),e.cells[k]?=some d->cellOf c.hp b (o+k)=some (f k)) (hown:¬c.own b) (hb:b<c.hp.size)
   (hrel:∀(k:Nat) (d:D),e.cells[k]?=some d->aA c d (f k)):aA c (.vp e j) (.pointer (some ⟨b,o+j,none⟩))
 | agg (cs:List D) (vs:Array Value) (hsz:vs.size=cs.length) (hone:∀(i:Nat) (d:D),cs[i]?=some d->d.one=true)
   (hrel:∀(i:Nat) (d:D),cs[i]?=some d->aA c d (vs.getD i Go.undef)):aA c (.agg cs) (.agg vs)
 | tup (ds:List D) (vs:Array Value) (hsz:vs.size=ds.length)
   (hrel:∀(i:Nat) (d:D),ds[i]?=some d->aA c d (vs.getD i Go.undef)):aA c (.tup ds) (.tuple vs)
 | fn (f:FuncId) (a b:List D) (va vb:Array Value) (hsa:va.size=a.length) (hsb:vb.size=b.length)
   (hra:∀(i:Nat) (d:D),a[i]?=some d->aA c d (va.getD i Go.undef)) (hrb:∀(i:Nat) (d:D),b[i]?=some d->aA c d (vb.getD i Go.undef)) :
   aA c (.fn f a b) (.func (.func f) va vb)
 | yld (n g:Nat) (st:LSt) (B:fu) (h:c.h n=.lp st B) (hρ:c.ρ n=some g):aA c (.yld n) (.func (.yield g) #[] #[])
 | yldDead (n g:Nat) (h:c.h n=.dead):aA c (.yld n) (.func (.yield g) #[] #[])
 | mp (n g:Nat) (kt:KeyT) (ents:List (D×D)) (h:c.h n=.map kt ents) (hρ:c.ρ n=some g):aA c (.mp n) (.map (some g))
 | mpDead (n:Nat) (p:Option Nat) (h:c.h n=.dead):aA c (.mp n) (.map p)
inductive Trans:Slot->Slot->Prop where
 | free (s:Slot):Trans .free s
 | dead:Trans .dead .dead
 | boxBox (v v':D):Trans (.box v) (.box v')
 | boxDead (v:D):Trans (.box v) .dead
 | arrArr (e:Nat) (l l':List D) (h:l.length<=l'.length):Trans (.arr e l) (.arr e l')
 | arrFrz (e:Nat) (l l':List D) (h:l.length<=l'.length):Trans (.arr e l) (.frz e l')
 | arrDead (e:Nat) (l:List D):Trans (.arr e l) .dead
 | frzFrz (e:Nat) (l l':List D) (h:l.length<=l'.length):Trans (.frz e l) (.frz e l')
 | frzDead (e:Nat) (l:List D):Trans (.frz e l) .dead
 | lpLp (st st':LSt) (B:fu):Trans (.lp st B) (.lp st' B)
 | lpDead (st:LSt) (B:fu):Trans (.lp st B) .dead
 | mapMap (kt:KeyT) (l l':List (D×D)):Trans (.map kt l) (.map kt l')
 | mapDead (kt:KeyT) (l:List (D×D)):Trans (.map kt l) .dead
theorem Trans.refl (s:Slot):Trans s s:=by
 cases s<;>constructor<;>exact Nat.le_refl _
theorem Trans.trans {a b c:Slot}(h:Trans a b) (k:Trans b c):Trans a c:=by
 cases h<;>cases k<;>constructor<;>omega
structure Ctx.le (c c':Ctx):Prop where
 size:c.hp.size<=c'.hp.size
 X:c'.X=c.X
 aS:∀g,g<c.hp.size->(∀n,(c.h n).mine->c.ρ n≠some g)->c'.hp[g]?=c.hp[g]?
 shape:∀(g:Nat) (cur:Array Value) (ty:TypeId) (fr:Nat×Nat),c.hp[g]?=some (Obj.cells cur ty fr)->∃cur':Array Value,c'.hp[g]?=some (Obj.cells cur' ty fr)/\cur'.size=cur.size
 loop:∀(g:Nat) (r:Loop),c.hp[g]?=some (.loop r)->∃r':Loop,c'.hp[g]?=some (.loop r')/\r'.defers=r.defers
 names:∀n,c.h n≠.free->c'.ρ n=c.ρ n
 tr:∀n,Trans (c.h n) (c'.h n)
 born:∀n g,(c'.h n).mine->c'.ρ n=some g->g<c.hp.size->∃m,(c.h m).mine/\c.ρ m=some g
theorem Ctx.le.refl (c:Ctx):c.le c :=
 ⟨Nat.le_refl _,rfl,λ _ _ _=>rfl,λ _ cur _ _ h=>⟨cur,h,rfl⟩,λ _ r h=>⟨r,h,rfl⟩,λ _ _=>rfl,λ _=>Trans.refl _,λ n _ hm hr _=>⟨n,hm,hr⟩⟩
theorem Ctx.le.own {c c':Ctx}(h:c.le c') (g:Nat) (hg:g<c.hp.size) (ho:c'.own g):c.own g:=by
 rcases ho with hx|⟨n,hm,hr⟩
 ·exact Or.inl (h.X ▸ hx)
 ·exact Or.inr (h.born n g hm hr hg)
theorem Ctx.le.trans {a b c:Ctx}(h:a.le b) (k:b.le c):a.le c where
 size:=Nat.le_trans h.size k.size
 X:=k.X.trans h.X
 aS g hg hn:=by
  rw[k.aS g (Nat.lt_of_lt_of_le hg h.size) (λ n hm hr=>by
   obtain⟨m,E,u⟩:=h.born n g hm hr hg
   exact hn m E u),h.aS g hg hn]
 shape g cur ty fr hg:=by
  obtain⟨O,h1,I⟩:=h.shape g cur ty fr hg;obtain⟨S,h2,e2⟩:=k.shape g O ty fr h1;grind
 loop g r hg:=by
  obtain⟨G,h1,I⟩:=h.loop g r hg;obtain⟨Q,h2,e2⟩:=k.loop g G h1;grind
 names n hn:=by
  have ht:=h.tr n
  have hb:b.h n≠.free:=by
   intro H;rw[H]at ht;cases hx:a.h n<;>rw[hx]at ht hn<;>first|exact hn rfl|cases ht
  rw[k.names n hb,h.names n hn]
 tr n:=(h.tr n).trans (k.tr n)
 born n g hm hr hg:=by
  obtain⟨m,E,u⟩:=k.born n g hm hr (Nat.lt_of_lt_of_le hg h.size);exact h.born m g E u hg
theorem Hk {hp:Array Obj}{b o:Nat}{v:Value}(h:cellOf hp b o=some v):b<hp.size:=by
 grind [cellOf]
theorem Ak {hp hp':Array Obj}{b:Nat}(h:hp'[b]?=hp[b]?) (o:Nat):cellOf hp' b o=cellOf hp b o:=by
 simp[cellOf,h]
theorem Ctx.le.same {c c':Ctx}(h:c.le c'){g:Nat}(hg:g<c.hp.size) (hn:¬c.own g):c'.hp[g]?=c.hp[g]? :=
 h.aS g hg (λ n hm hr=>hn (Or.inr ⟨n,hm,hr⟩))
theorem Ctx.le.Ks {c c':Ctx}(h:c.le c'){g:Nat}(hg:g<c.hp.size) (hn:¬c.own g):¬c'.own g :=
 λ h'=>hn (h.own g hg h')
theorem Slot.qf {a b:Slot}(h:Trans a b){e:Nat}{l:List D}(hr:a.row=some (e,l)) :
  b=.dead\/∃l',b.row=some (e,l')/\l.length<=l'.length:=by
 cases h<;>simp[Slot.row]at hr ⊢
 all_goals grind
theorem Slot.iI {a:Slot}{x:Nat×List D}(h:a.row=some x):a≠.free:=by
 grind [Slot.row]
theorem aA.mono {c c':Ctx}(h:c.le c'){d:D}{v:Value}(hr:aA c d v):aA c' d v:=by
 induction hr with
 | undef v=>exact .undef v
 | nil=>exact .nil
 | nilfn=>exact .nilfn
 | nilmap=>exact .nilmap
 | nilp=>exact .nilp
 | int k n=>exact .int k n
 | bool b=>exact .bool b
 | str s=>exact .str s
 | yA p cap hm=>exact .yA p cap hm
 | sl xs b o cap esz f hne hc hm he hlen hone hcell hown _ H =>
  have hb:b<c.hp.size:=by
   cases xs with
   | nil=>exact absurd rfl hne
   | cons e r =>
    have hl:=hlen e (by simp)
    cases U:e.cells with
    | nil=>grind
    | cons d ds=>exact Hk (hcell 0 0 d (by simp[aP,U]))
  have I:=h.same hb hown;exact .sl xs b o cap esz f hne hc hm he hlen hone (λ i j d hd=>by grind [Ak]) (h.Ks hb hown) H
 | msDead n off len p l k hd =>
  refine .msDead n off len p l k ?_;have:=h.tr n;rw[hd]at this;cases hx:c'.h n<;>rw[hx]at this<;>first|rfl|cases this
 | msNil n esz els u hρ =>
  have E:=(h.names n (Slot.iI u)).trans hρ;rcases Slot.qf (h.tr n) u with hd|⟨l',G,_⟩
  ·exact .msDead _ _ _ _ _ _ hd
  ·exact .msNil n esz l' G E
 | ms n off len g esz cap els cur ty fr u hρ hl hg hs hc hm =>
  have E:=(h.names n (Slot.iI u)).trans hρ;obtain⟨cur',T,hsz⟩:=h.shape g cur ty fr hg;rcases Slot.qf (h.tr n) u with hd|⟨l',G,hlen⟩
  ·exact .msDead _ _ _ _ _ _ hd
  ·exact .ms n off len g esz cap l' cur' ty fr G E (by omega) T (by omega) hc hm
 | msE n off esz p els u =>
  rcases Slot.qf (h.tr n) u with hd|⟨l',G,_⟩
  ·exact .msDead _ _ _ _ _ _ hd
  ·exact .msE n off esz p l' G
 | ptrDead n i j b o hd =>
  refine .ptrDead n i j b o ?_;have:=h.tr n;rw[hd]at this;cases hx:c'.h n<;>rw[hx]at this<;>first|rfl|cases this
 | ptrBox n j g v hb hρ =>
  have E:=(h.names n (by rw[hb];simp)).trans hρ;have ht:=h.tr n;rw[hb]at ht
  cases hx:c'.h n with
  | box v'=>exact .ptrBox n j g v' hx E
  | dead=>exact .ptrDead _ _ _ _ _ hx
  | _=>rw[hx]at ht;cases ht
 | ptrRow n i j g esz els u hρ hi =>
  have E:=(h.names n (Slot.iI u)).trans hρ;rcases Slot.qf (h.tr n) u with hd|⟨l',G,hlen⟩
  ·exact .ptrDead _ _ _ _ _ hd
  ·exact .ptrRow n i j g esz l' G E (by omega)
 | vp e j b o f hone hcell hown hb _ H =>
  have I:=h.same hb hown;exact .vp e j b o f hone (λ k d hd=>by grind [Ak]) (h.Ks hb hown) (Nat.lt_of_lt_of_le hb h.size) H
 | agg cs vs hsz hone _ H=>exact .agg cs vs hsz hone H
 | tup ds vs hsz _ H=>exact .tup ds vs hsz H
 | fn f a b va vb hsa hsb _ _ S Q=>exact .fn f a b va vb hsa hsb S Q
 | yld n g st B hl hρ =>
  have E:=(h.names n (by rw[hl];simp)).trans hρ;have ht:=h.tr n;rw[hl]at ht
  cases hx:c'.h n with
  | lp st' V=>exact .yld n g st' V hx E
  | dead=>exact .yldDead _ _ hx
  | _=>rw[hx]at ht;cases ht
 | yldDead n g hd =>
  refine .yldDead n g ?_;have:=h.tr n;rw[hd]at this;cases hx:c'.h n<;>rw[hx]at this<;>first|rfl|cases this
 | mp n g kt ents hl hρ =>
  have E:=(h.names n (by rw[hl];simp)).trans hρ;have ht:=h.tr n;rw[hl]at ht
  cases hx:c'.h n with
  | map O l'=>exact .mp n g O l' hx E
  | dead=>exact .mpDead _ _ hx
  | _=>rw[hx]at ht;cases ht
 | mpDead n p hd =>
  refine .mpDead n p ?_;have:=h.tr n;rw[hd]at this;cases hx:c'.h n<;>rw[hx]at this<;>first|rfl|cases this
class ck where
 tab:Nat->Option (Array Value)
 panv:Value
variable [ck]
structure abm (c:Ctx) (g:Nat) (vs:Array Value):Prop where
 cell:∀(k:Nat) (v:Value),vs[k]?=some v->cellOf c.hp g k=some v
 own:¬c.own g
 lt:g<c.hp.size
def fj (c:Ctx):Prop:=∀g vs,ck.tab g=some vs->abm c g vs
theorem fj.mono {c c':Ctx}(h:c.le c') (k:fj c):fj c':=λ g o hg=>by
 obtain⟨h1,h2,h3⟩:=k g o hg;exact⟨λ i v hi=>(Ak (h.same h3 h2) i).trans (h1 i v hi),h.Ks h3 h2,Nat.lt_of_lt_of_le h3 h.size⟩
def pe (els:List D):Prop:=∀i j (d:D),aP els i j=some d->d.one=true
def dg (c:Ctx) (n:Nat):Slot->Prop
 | .free=>True
 | .dead=>True
 | .box v=>∃(g:Nat) (cur:Array Value) (ty:TypeId),c.ρ n=some g/\c.hp[g]?=some (.cells cur ty (0,0))/\cur.size=v.cells.length /\
   ∀(i:Nat) (d:D),v.cells[i]?=some d->d.one=true/\aA c d (cur.getD i Go.undef)
 | .arr esz els=>0<esz/\(∀e∈els,e.cells.length=esz)/\pe els /\
   ((c.ρ n=none/\els=[])\/∃(g:Nat) (cur:Array Value) (ty:TypeId),c.ρ n=some g/\c.hp[g]?=some (.cells cur ty (0,0)) /\
    els.length*esz<=cur.size/\∀i j d,aP els i j=some d->aA c d (cur.getD (i*esz+j) Go.undef))
 | .frz esz els=>0<esz/\(∀e∈els,e.cells.length=esz)/\pe els /\
   ((c.ρ n=none/\els=[])\/∃(g:Nat) (cur:Array Value) (ty:TypeId) (fr:Nat×Nat),c.ρ n=some g/\c.hp[g]?=some (.cells cur ty fr) /\
    els.length*esz<=cur.size/\¬c.own g/\∀i j d,aP els i j=some d->aA c d (cur.getD (i*esz+j) Go.undef))
 | .lp st B=>∃(g:Nat) (tmps:Array Value) (dfs:Nat),c.ρ n=some g /\
   c.hp[g]?=some (.loop { state:=st.st,pending:=st.pend,fn:=B.fn,tmps:=tmps,params:=B.ps.toArray,assign:=B.assign,body:=B.body,defers:=dfs }) /\
   tmps.size=B.nt/\∀i,aA c (B.env i) (tmps.getD i Go.undef)
 | .map kt ents=>∃(g:Nat) (es:Array MapEntry) (clock:Nat),c.ρ n=some g/\c.hp[g]?=some (.map es clock)/\es.size=ents.length/\MapKept.Stamped es clock /\
   ∀(i:Nat) (p:D×D),ents[i]?=some p->kt.okB p.1=true/\p.2.one=true/\∃e:MapEntry,es[i]?=some e/\aA c p.1 e.key/\aA c p.2 e.val
structure au (c:Ctx):Prop where
 slot:∀n,dg c n (c.h n)
 inj:∀n m g,(c.h n).mine->(c.h m).mine->c.ρ n=some g->c.ρ m=some g->n=m
 apart:∀n g,(c.h n).mine->c.ρ n=some g->¬c.X g
 xlt:∀g,c.X g->g<c.hp.size
 fin:∃N,∀n,N<=n->c.h n=.free
 glob:fj c
 lo:c.X.lo<=c.hp.size
structure WS (w w':World):Prop where
 os:w'.os=w.os
 tape:w'.tape=w.tape
 output:w'.output=w.output
theorem WS.refl (w:World):WS w w:=⟨rfl,rfl,rfl⟩
theorem WS.trans {a b c:World}(h:WS a b) (k:WS b c):WS a c:=⟨k.os.trans h.os,k.tape.trans h.tape,k.output.trans h.output⟩
abbrev Env:=Nat->D
def Mark (c:Ctx) (d:Deferred):Prop:=∃k,d={ target:=.collected k,args:= #[] }/\c.X.lo<=k/\c.hp[k]?=some (.deferred (some []))/\¬c.own k
structure Marks (c:Ctx) (ds:List Deferred):Prop where
 all:∀d∈ds,Mark c d
 nd:ds.Pairwise (· ≠ ·)
theorem Marks.nil {c:Ctx}:Marks c []:=⟨λ _ h=>by(cases h),.nil⟩
theorem Marks.mono {c c':Ctx}(h:c.le c'){ds:List Deferred}(k:Marks c ds):Marks c' ds:=⟨λ d hd=>by
 obtain⟨j,e,h0,h1,h2⟩:=k.all d hd;have u:=(Array.getElem?_eq_some_iff.1 h1).1
 exact⟨j,e,by rw[h.X];exact h0,(h.same u h2).trans h1,h.Ks u h2⟩,k.nd⟩
def uc (d:Deferred):Bool:=match d.target with
 | .collected _=>true
 | _=>false
structure fV (c:Ctx) (ds:List Deferred):Prop where
 marks:Marks c (ds.filter uc)
 rest:ds.filter (λ d=> !uc d)=c.X.dfs
theorem fV.mono {c c':Ctx}(h:c.le c'){ds:List Deferred}(k:fV c ds):fV c' ds:=⟨k.marks.mono h,by rw[h.X];exact k.rest⟩
theorem fV.nil {c:Ctx}(h:c.X.dfs=[]):fV c []:=⟨Marks.nil,h.symm⟩
def lu (r:Option Nat) (c:Ctx):Prop:=∀l,r=some l->∃rc:Loop,c.hp[l]?=some (.loop rc)
theorem lu.mono {c c':Ctx}(h:c.le c'){r:Option Nat}(k:lu r c):lu r c':=λ l hl=>by
 obtain⟨rc,h1⟩:=k l hl;obtain⟨u,h2,_⟩:=h.loop l rc h1;exact⟨u,h2⟩
theorem lu.none {c:Ctx}:lu none c:=λ _ h=>by cases h
def rF (r:Option Nat):Fence:={ Fence.wide with round:=r }
structure oe (c:Ctx) (nt:Nat) (t:Env) (a:Act):Prop where
 glob:fj c
 lo:c.X.lo<=c.hp.size
 defers:fV c a.defers
 size:a.tmps.size=nt
 rel:∀i,aA c (t i) (a.tmps.getD i Go.undef)
theorem oe.mono {c c':Ctx}{nt:Nat}{t:Env}{a:Act}(h:c.le c') (s:oe c nt t a):oe c' nt t a :=
 ⟨s.glob.mono h,by rw[h.X];exact Nat.le_trans s.lo h.size,s.defers.mono h,s.size,λ i=>(s.rel i).mono h⟩
def Fin (c₀:Ctx) (w₀:World) (nt:Nat) (K:Env->Heap->Prop) (a:Act) (w:World):Prop :=
 ∃(ρ:Nat->Option Nat) (t:Env) (h:Heap),c₀.le ⟨ρ,c₀.X,h,w.heap⟩/\au ⟨ρ,c₀.X,h,w.heap⟩/\WS w₀ w/\oe ⟨ρ,c₀.X,h,w.heap⟩ nt t a/\K t h
abbrev Post:=Ex->Env->Heap->Prop
def FinX (c₀:Ctx) (w₀:World) (nt:Nat) (Q:Post):Exit->Act->World->Prop
 | .normal=>Fin c₀ w₀ nt (Q .normal)
 | .exit id=>Fin c₀ w₀ nt (Q (.exit id))
 | .ret=>Fin c₀ w₀ nt (Q .ret)
 | .goto l=>Fin c₀ w₀ nt (Q (.jump l))
 | .panic ch=>λ a w=>ch=[{ v:=ck.panv,recovered:=false }]/\Fin c₀ w₀ nt (Q .pan) a w
 | _=>λ _ _=>False
theorem Fin.mono {c₀:Ctx}{w₀:World}{nt:Nat}{K K':Env->Heap->Prop}(hk:∀t h,K t h->K' t h){a:Act}{w:World}(h:Fin c₀ w₀ nt K a w):Fin c₀ w₀ nt K' a w:=by
 obtain⟨ρ,t,O,I,H,G,E,u⟩:=h;exact⟨ρ,t,O,I,H,G,E,hk _ _ u⟩
theorem Fin.from {c₀ c₁:Ctx}{w₀ w₁:World}{nt:Nat}{K:Env->Heap->Prop}{a:Act}{w:World}(hle:c₀.le c₁) (hw:WS w₀ w₁) (h:Fin c₁ w₁ nt K a w):Fin c₀ w₀ nt K a w:=by
 obtain⟨ρ,t,O,G,E,I,u,H⟩:=h;have hx:=hle.X;rw[hx]at G E u;exact⟨ρ,t,O,hle.trans G,E,hw.trans I,u,H⟩
theorem FinX.from {c₀ c₁:Ctx}{w₀ w₁:World}{nt:Nat}{Q:Post}(hle:c₀.le c₁) (hw:WS w₀ w₁) (e:Exit) (a:Act) (w:World) (h:FinX c₁ w₁ nt Q e a w):FinX c₀ w₀ nt Q e a w:=by
 cases e<;>first|exact Fin.from hle hw h|exact⟨h.1,Fin.from hle hw h.2⟩|exact h
theorem FinX.mono {c₀:Ctx}{w₀:World}{nt:Nat}{Q Q':Post}(hk:∀e t h,Q e t h->Q' e t h) (e:Exit) (a:Act) (w:World) (h:FinX c₀ w₀ nt Q e a w):FinX c₀ w₀ nt Q' e a w:=by
 cases e<;>first|exact Fin.mono (hk _) h|exact⟨h.1,Fin.mono (hk _) h.2⟩|exact h
def uu (P:Program) (nt:Nat) (code:Code) (Q:Post) (t:Env) (h:Heap):Prop :=
 ∀(r:Option Nat) (c:Ctx) (w:World) (a:Act),c.h=h->c.hp=w.heap->au c->oe c nt t a->lu r c->code.wpIn (rF r) 0 P (FinX c w nt Q) a w
variable {P:Program}{nt:Nat}
theorem Fin.here {c:Ctx}{w:World}{t:Env}{h:Heap}{a:Act}{K:Env->Heap->Prop}(hh:c.h=h) (hp:c.hp=w.heap) (hr:au c) (hs:oe c nt t a) (hk:K t h):Fin c w nt K a w:=by
 obtain⟨ρ,X,h',u⟩:=c;subst hh hp;exact⟨ρ,t,_,Ctx.le.refl _,hr,WS.refl w,hs,hk⟩
theorem u9 {x:Code}{Q Q':Post}{t:Env}{h:Heap}(hk:∀e t h,Q e t h->Q' e t h) (hx:uu P nt x Q t h):uu P nt x Q' t h :=
 λ r c w a u hp hr hs ho=>wpIn_mono (hx r c w a u hp hr hs ho) (FinX.mono hk)
theorem Pk {Q:Post}{t:Env}{h:Heap}(hk:Q .normal t h):uu P nt .skip Q t h :=
 λ _ _ _ _ u hp hr hs _=>wpIn_skip (Fin.here u hp hr hs hk)
theorem Wg {id:Nat}{Q:Post}{t:Env}{h:Heap}(hk:Q (.exit id) t h):uu P nt (.exit id) Q t h :=
 λ _ _ _ _ u hp hr hs _=>wpIn_exit (Fin.here u hp hr hs hk)
theorem Yy {Q:Post}{t:Env}{h:Heap}(hk:Q .ret t h):uu P nt .ret Q t h :=
 λ _ _ _ _ u hp hr hs _=>wpIn_ret (Fin.here u hp hr hs hk)
def Post.then (K:Env->Heap->Prop) (Q:Post):Post
 | .normal=>K
 | e=>Q e
theorem RO {x y:Code}{Q:Post}{t:Env}{h:Heap}(hx:uu P nt x (Post.then (uu P nt y Q) Q) t h):uu P nt (.seq x y) Q t h:=by
 intro r c w a O hp hr hs ho;refine wpIn_seq (wpIn_mono (hx r c w a O hp hr hs ho) ?_);intro e T w' he
 cases e with
 | normal =>
  obtain⟨ρ,U,h',u,I,H,G,E⟩:=he;exact wpIn_mono (E r _ w' T rfl rfl I G (ho.mono u)) (λ e a w S=>FinX.from u H e a w S)
 | exit id=>exact he
 | ret=>exact he
 | goto l=>exact he
 | panic V=>exact he
 | outgrown=>exact he
theorem Wh {o:Operand}{x y:Code}{Q:Post}{t:Env}{h:Heap}{b:Bool}
  (he:∀(c:Ctx) (a:Act),c.h=h->oe c nt t a->a.eval o=.bool b) (hx:uu P nt (if b then x else y) Q t h):uu P nt (.cond o x y) Q t h :=
 λ r c w a u hp hr hs ho=>wpIn_cond (he c a u hs) (by cases b<;>exact hx r c w a u hp hr hs ho)
def Post.block (id:Nat) (Q:Post):Post
 | .exit id'=>λ t h=>if id'=id then Q .normal t h else Q (.exit id') t h
 | e=>Q e
theorem Tg {id:Nat}{x:Code}{Q:Post}{t:Env}{h:Heap}(hx:uu P nt x (Post.block id Q) t h):uu P nt (.block id x) Q t h:=by
 intro r c w a G hp hr hs ho;refine wpIn_block (wpIn_mono (hx r c w a G hp hr hs ho) ?_);intro e H w' he
 cases e with
 | exit u =>
  show(if u=id then _ else _)
  by_cases E:u=id
  ·rw[if_pos E];exact Fin.mono (λ t h hq=>by grind [Post.block]) he
  ·rw[if_neg E];exact Fin.mono (λ t h hq=>by grind [Post.block]) he
 | _=>exact he
theorem We {x:Code}{Q:Post}{t:Env}{h:Heap}(I:Nat->Env->Heap->Prop) (n₀:Nat) (h₀:I n₀ t h)
  (round:∀n t h,I n t h->uu P nt x (Post.then (λ t' h'=>∃m,m<n/\I m t' h') Q) t h):uu P nt (.loop x) Q t h:=by
 intro r c w a V hp hr hs ho b k cs T hb H
 have key:∀n (t:Env) (h:Heap) (c:Ctx) (w:World) (a:Act),I n t h->c.h=h->c.hp=w.heap->au c->oe c nt t a->lu r c ->
   ∃e S w',FinX c w nt Q e S w'/\ArrivesIn (Machine.fenced P (rF r)) P (lone (b.atR a (.code x::.inLoop x::k)) cs w) b k cs e S w':=by
  intro n
  induction n using Nat.strongRecOn with
  | _ n ih =>
   intro t h c w a hI V hp hr hs ho;obtain⟨e,G,E,hq,u⟩:=round n t h hI r c w a V hp hr hs ho b (.inLoop x::k) cs T hb H
   cases e with
   | normal =>
    obtain⟨ρ,t',h',Z,r2,r3,r4,m,hm,W⟩:=hq;obtain⟨e₂,a₂,w₂,U,O⟩:=ih m hm t' h' _ E G W rfl rfl r2 r4 (ho.mono Z);exact⟨e₂,a₂,w₂,FinX.from Z r3 _ _ _ U,.of_steps (StepsIn.trans u (.one (fenced_calm hb H rfl) stepR_inLoop)) O⟩
   | exit id=>exact⟨_,G,E,(show FinX c w nt Q (.exit id) G E from hq),.pass (x:=.inLoop x) rfl (λ _ _=>.inl (by simp)) u⟩
   | goto l=>exact⟨_,G,E,(show FinX c w nt Q (.goto l) G E from hq),.pass (x:=.inLoop x) rfl (λ _ _=>.inl (by simp)) u⟩
   | ret=>exact⟨_,G,E,(show FinX c w nt Q .ret G E from hq),.pass (x:=.inLoop x) rfl (λ _ _=>.inl (by simp)) u⟩
   | panic ch=>exact⟨_,G,E,(show FinX c w nt Q (.panic ch) G E from hq),.pass (x:=.inLoop x) rfl (λ _ _=>.inl (by simp)) u⟩
   | outgrown=>exact hq.elim
 obtain⟨e,S,w',hq,u⟩:=key n₀ t h c w a h₀ V hp hr hs ho;exact⟨e,S,w',hq,.of_steps (.one (fenced_calm hb H rfl) stepR_loop) u⟩
theorem Tf {l:Nat}{Q:Post}{t:Env}{h:Heap}(hk:Q .normal t h):uu P nt (.label l) Q t h :=
 λ _ _ _ _ u hp hr hs _=>wpIn_label (Fin.here u hp hr hs hk)
theorem Wf {l:Nat}{Q:Post}{t:Env}{h:Heap}(hk:Q (.jump l) t h):uu P nt (.goto l) Q t h :=
 λ _ _ _ _ u hp hr hs _=>wpIn_goto (Fin.here u hp hr hs hk)
theorem lK {b:Frame}{a:Act}{k:List Item}{cs:List Frame}{w:World}{c:Code}:step P (lone (b.atR a (.code (.scope c)::k)) cs w)=.next (lone (b.atR a (.code c::.inScope c::k)) cs w) :=
 step_lone_go (by simp[stepG,stepG.exec,Frame.atR])
theorem CZ {b:Frame}{a:Act}{k:List Item}{cs:List Frame}{w:World}{c:Code}:step P (lone (b.atR a (.inScope c::k)) cs w)=.next (lone (b.atR a k) cs w) :=
 step_lone_go (by simp[stepG,stepG.exec,Frame.atR])
def Post.jump (l:Nat) (J:Env->Heap->Prop) (Q:Post):Post
 | .jump l'=>λ t h=>l'=l/\J t h
 | e=>Q e
theorem Td {x rest:Code}{l:Nat}(hf:findLabel x l=some rest){Q:Post}{t:Env}{h:Heap}(I:Nat->Env->Heap->Prop)
  (first:uu P nt x (Post.jump l (λ t' h'=>∃m,I m t' h') Q) t h)
  (round:∀n t h,I n t h->uu P nt rest (Post.jump l (λ t' h'=>∃m,m<n/\I m t' h') Q) t h):uu P nt (.scope x) Q t h:=by
 intro r c w a hh hp hr hs ho b k cs W hb O;have hg:gotoIn l (.inScope x::k)=some (.code rest::.inScope x::k):=by simp[gotoIn,hf]
 have key:∀n (t:Env) (h:Heap) (c:Ctx) (w:World) (a:Act),I n t h->c.h=h->c.hp=w.heap->au c->oe c nt t a->lu r c ->
   ∃e a' w',FinX c w nt Q e a' w'/\ArrivesIn (Machine.fenced P (rF r)) P (lone (b.atR a (.code rest::.inScope x::k)) cs w) b k cs e a' w':=by
  intro n
  induction n using Nat.strongRecOn with
  | _ n ih =>
   intro t h c w a hI hh hp hr hs ho;obtain⟨e,G,E,hq,u⟩:=round n t h hI r c w a hh hp hr hs ho b (.inScope x::k) cs W hb O
   cases e with
   | normal=>exact⟨.normal,G,E,(show FinX c w nt Q .normal G E from hq),StepsIn.trans u (.one (fenced_calm hb O rfl) CZ)⟩
   | exit id =>
    have hx:exitTo id (.inScope x::k)=exitTo id k:=by simp[exitTo]
    exact⟨.exit id,G,E,(show FinX c w nt Q (.exit id) G E from hq),λ k' hk=>u.1 k' (by rw[hx];exact hk),λ S hk=>u.2 S (by rw[hx];exact hk)⟩
   | goto l' =>
    obtain⟨ρ,t',h',V,r2,r3,r4,rfl,m,hm,U⟩:=hq;obtain⟨e₂,a₂,Z,T,H⟩:=ih m hm t' h' _ E G U rfl rfl r2 r4 (ho.mono V);exact⟨e₂,a₂,Z,FinX.from V r3 _ _ _ T,.of_steps (u.1 _ hg) H⟩
   | ret=>exact⟨_,G,E,(show FinX c w nt Q .ret G E from hq),u⟩
   | panic ch=>exact⟨_,G,E,(show FinX c w nt Q (.panic ch) G E from hq),u⟩
   | outgrown=>exact hq.elim
 obtain⟨e,G,E,hq,u⟩:=first r c w a hh hp hr hs ho b (.inScope x::k) cs W hb O
 have h0:(lone (b.atR a (.code (.scope x)::k)) cs w).fenced P (rF r):=fenced_calm hb O rfl
 cases e with
 | normal=>exact⟨.normal,G,E,(show FinX c w nt Q .normal G E from hq),.head h0 lK (StepsIn.trans u (.one (fenced_calm hb O rfl) CZ))⟩
 | exit id =>
  have hx:exitTo id (.inScope x::k)=exitTo id k:=by simp[exitTo]
  exact⟨.exit id,G,E,(show FinX c w nt Q (.exit id) G E from hq),λ k' hk=>.head h0 lK (u.1 k' (by rw[hx];exact hk)),
   λ S hk=>let ⟨k₁,h1,h2⟩:=u.2 S (by rw[hx];exact hk);⟨k₁,h1,.head h0 lK h2⟩⟩
 | goto l' =>
  obtain⟨ρ,t',h',V,r2,r3,r4,rfl,m,U⟩:=hq;obtain⟨e₂,a₂,Z,T,H⟩:=key m t' h' _ E G U rfl rfl r2 r4 (ho.mono V);exact⟨e₂,a₂,Z,FinX.from V r3 _ _ _ T,.of_steps (.head h0 lK (u.1 _ hg)) H⟩
 | ret=>exact⟨_,G,E,(show FinX c w nt Q .ret G E from hq),.of_steps (.one h0 lK) u⟩
 | panic ch=>exact⟨_,G,E,(show FinX c w nt Q (.panic ch) G E from hq),.of_steps (.one h0 lK) u⟩
 | outgrown=>exact hq.elim
def vc (P:Program) (nt:Nat) (ops:Array Oper) (l:List Nat) (K:Env->Heap->Prop) (t:Env) (h:Heap):Prop :=
 ∀(r:Option Nat) (c:Ctx) (w:World) (a:Act) (Q:Exit->Act->World->Prop),c.h=h->c.hp=w.heap->au c->oe c nt t a->(∀a' w',Fin c w nt K a' w'->Q .normal a' w')->wpOpsIn (rF r) 0 P ops Q l a w
def MR (P:Program) (nt:Nat) (o:Oper) (K:Env->Heap->Prop) (t:Env) (h:Heap):Prop :=
 (∀c,o.op≠.defer c)->∀(r:Option Nat) (c:Ctx) (w:World) (a:Act) (Q:Exit->Act->World->Prop),c.h=h->c.hp=w.heap->au c->oe c nt t a->o.wpIn (rF r) 0 P a w (Fin c w nt K) Q
theorem kx {r:Option Nat}{o:Oper}(hnd:∀c,o.op≠.defer c){a:Act}{w:World}{K:Act->World->Prop}{Q:Exit->Act->World->Prop}{R:Result Next}(hrun:(execOp a.eval o).run P w=R) (h:o.uponIn (rF r) 0 P a K Q R):o.wpIn (rF r) 0 P a w K Q:=by
 refine⟨λ _ _=>trivial,?_⟩;grind [Oper.semAt_eq]
theorem iy {ops:Array Oper}{K:Env->Heap->Prop}{t:Env}{h:Heap}(hk:K t h):vc P nt ops [] K t h :=
 λ _ _ _ _ _ u hp hr hs hq=>hq _ _ (Fin.here u hp hr hs hk)
theorem QD {id:Nat}{ops:Array Oper}{Q:Post}{t:Env}{h:Heap}(hx:vc P nt ops (List.range ops.size) (Q .normal) t h):uu P nt (.region id ops false) Q t h :=
 λ r c w a u hp hr hs _=>wpIn_region (hx r c w a _ u hp hr hs (λ _ _ E=>E))
def Env.put (t:Env) (dst:Option Tmp) (d:D):Env :=
 match dst with
 | some i=>ak t i d
 | none=>t
theorem oe.put {c:Ctx}{t:Env}{a:Act}(s:oe c nt t a){dst:Option Tmp}(hd:∀i,dst=some i->i<nt){d:D}{v:Value}(hv:aA c d v):oe c nt (t.put dst d) (a.put dst v):=by
 cases dst with
 | none=>exact s
 | some j =>
  refine⟨s.glob,s.lo,s.defers,by simp[Act.put,s.size],λ i=>?_⟩;by_cases h:i=j
  ·subst h;have E:=hd i rfl
   have:(a.put (some i) v).tmps.getD i Go.undef=v:=by
    simp[Act.put,s.size,E]
   rw[this];simpa[Env.put,ak] using hv
  ·have u:j≠i:=λ e=>h e.symm
   have:(a.put (some j) v).tmps.getD i Go.undef=a.tmps.getD i Go.undef:=by
    simp[Act.put,u]
   rw[this];simpa[Env.put,ak,h] using s.rel i
def gv:D->Option (Option Bool)
 | .bool b=>some (some b)
 | .tup _=>some none
 | _=>none
abbrev gU:D:=.tup []
def guarded (g:Option (Nat×Bool)) (dst:Option Tmp) (X:(Env->Heap->Prop)->Env->Heap->Prop) (K:Env->Heap->Prop) (t:Env) (h:Heap):Prop :=
 match g with
 | none=>X K t h
 | some (j,want)=>∃b,gv (t j)=some b/\(b=some want->X K t h)/\(b≠some want->K (t.put dst gU) h)
theorem kF {ops:Array Oper}{i:Nat}{rest:List Nat}{o:Oper}{K:Env->Heap->Prop}{t:Env}{h:Heap}(ho:ops[i]?=some o) (hnd:∀c,o.op≠.defer c)
  (g:Option (Nat×Bool)) (hg:∀j want,o.guard=some (j,want)->∃s,(ops[j]?).bind (·.dst)=some s/\g=some (s,want)) (hgn:o.guard=none->g=none)
  (hd:∀i,o.dst=some i->i<nt)
  (hx:guarded g o.dst (MR P nt o) (vc P nt ops rest K) t h):vc P nt ops (i::rest) K t h:=by
 intro r c w a Q O hp hr hs hq
 have run:MR P nt o (vc P nt ops rest K) t h->o.wpIn (rF r) 0 P a w (wpOpsIn (rF r) 0 P ops Q rest) Q:=by
  intro hx;refine Oper.wpIn_mono (λ a' w' S=>?_) (hx hnd r c w a Q O hp hr hs);obtain⟨ρ,t',h',r1,r2,Z,W,V⟩:=S;exact V r _ w' a' Q rfl rfl r2 W (λ a1 U S=>hq _ _ (Fin.from r1 Z S))
 simp only[wpOpsIn,ho]
 cases u:o.guard with
 | none =>
  have:=hgn u;subst this;rw[if_pos (by simp[Region.wanted,u])];exact run hx
 | some p =>
  obtain⟨j,want⟩:=p;obtain⟨s,I,rfl⟩:=hg j want u;obtain⟨b,hb,h1,h2⟩:=hx;have G:=hs.rel s;have hu:aA c gU Go.undef:=.tup [] #[] rfl (by simp)
  cases b with
  | some b =>
   have ht:t s=.bool b:=by
    generalize t s=d at hb;cases d<;>simp[gv]at hb;rw[hb]
   rw[ht]at G
   have H:a.tmps.getD s Go.undef=.bool b:=by
    generalize a.tmps.getD s Go.undef=v at G;cases G;rfl
   have hsz:s<a.tmps.size:=by
    grind [Go.undef]
   have hy:yielded ops a.tmps j=some b:=by
    have E:a.tmps[s]?=some (.bool b):=by
     have:a.tmps.getD s Go.undef=a.tmps[s]:=by simp[Array.getElem?_eq_getElem hsz]
     grind
    simp[yielded,I,E]
   by_cases T:b=want
   ·grind [Region.wanted]
   ·rw[if_neg (by grind [Region.wanted])];exact⟨λ _ _=>trivial,h2 (by simpa using T) r c w _ Q O hp hr (hs.put hd hu) hq⟩
  | none =>
   obtain⟨ds,ht⟩:∃ds,t s=.tup ds:=by
    generalize t s=d at hb;cases d<;>simp[gv]at hb;exact⟨_,rfl⟩
   rw[ht]at G
   obtain⟨vs,H⟩:∃vs,a.tmps.getD s Go.undef=.tuple vs:=by
    generalize a.tmps.getD s Go.undef=v at G;cases G;exact⟨_,rfl⟩
   have hy:yielded ops a.tmps j=none:=by
    rcases Nat.lt_or_ge s a.tmps.size with hsz|hsz
    ·have E:a.tmps[s]?=some (.tuple vs):=by
      have:a.tmps.getD s Go.undef=a.tmps[s]:=by simp[Array.getElem?_eq_getElem hsz]
      grind
     simp[yielded,I,E]
    grind [yielded]
   rw[if_neg (by simp[Region.wanted,u,hy])];exact⟨λ _ _=>trivial,h2 (by simp) r c w _ Q O hp hr (hs.put hd hu) hq⟩
end Go.Am
namespace Go.Am
open Go
instance gtab48:ck where
 panv:=.iface 190 (.agg #[])
 tab:=λ _=>none
variable [ck]
abbrev LEnv:=List (Nat×D)
def LEnv.get:LEnv->Nat->D
 | [],_=>.undef
 | (k,d)::r,i=>if i=k then d else LEnv.get r i
def LEnv.put (e:LEnv) (dst:Option Nat) (d:D):LEnv :=
 match dst with
 | some i=>(i,d)::e
 | none=>e
inductive Arg where
 | t (i:Nat)
 | c (d:D)
def Arg.get (e:LEnv):Arg->D
 | .t i=>e.get i
 | .c d=>d
def D.isAgg:D->Bool
 | .agg _=>true
 | _=>false
inductive CK where
 | i
 | b
 | s
inductive AOp where
 | mov (x:Arg)
 | pick (c a b:Arg)
 | bin (op:BinOp) (x y:Arg)
 | eqv (neg agg:Bool) (ks:List CK) (x y:Arg)
 | un (op:UnOp) (x:Arg)
 | conv (k:IntKind) (x:Arg)
 | ext (x:Arg) (i:Nat)
 | fld (x:Arg) (off size:Nat) (agg:Bool)
 | bld (zero:List D) (parts:List (Nat×Nat×Arg))
 | bldS (fz:Bool) (esz len:Nat) (zero:D) (parts:List (Nat×Arg))
 | len (x:Arg)
 | slen (x:Arg)
 | fadd (x:Arg) (off:Nat)
 | iadd (x i:Arg) (esz:Nat)
 | iadda (x i:Arg) (len esz:Nat)
 | sidx (x i:Arg) (len size:Nat) (agg:Bool)
 | ld (x:Arg) (size:Nat) (agg:Bool)
 | st (x v:Arg) (size:Nat)
 | alloc (zero:D)
 | box (x:Arg)
 | mk (esz bytes:Nat) (zero:D) (len cap:Arg)
 | GQ (x:Arg) (lo hi mx:Option Arg) (esz:Nat)
 | sslc (x:Arg) (lo hi:Option Arg)
 | slz (x:Arg) (esz:Nat)
 | sla (x:Arg) (n:Nat)
 | b2s (x:Arg)
 | mkc (bytes:Nat) (len cap:Arg)
 | nilq (neg:Bool) (x:Arg)
 | app (s x:Arg) (esz bytes:Nat) (zero:D)
 | MK (d s:Arg) (esz:Nat)
 | clr (x:Arg) (esz:Nat) (z:D)
 | call (f:FuncId) (args:List Arg)
 | callv (x:Arg) (args:List Arg)
 | mkf (f:FuncId) (a b:List Arg)
 | mn (x y:Arg)
 | mx (x y:Arg)
 | mn3 (x y z:Arg)
 | mx3 (x y z:Arg)
 | mkm (kt:KeyT)
 | look (kt:KeyT) (x k:Arg) (z:D) (ok:Bool)
 | mupd (kt:KeyT) (x k v:Arg)
 | dead
structure AOper where
 dst:Option Nat
 op:AOp
 guard:Option (Nat×Bool)
inductive ACode where
 | skip
 | seq (a b:ACode)
 | seqj (aS vars:List Nat) (a b:ACode)
 | cond (c:Arg) (a b:ACode)
 | block (id:Nat) (a:ACode)
 | loop (aS vars:List Nat) (a:ACode)
 | exit (id:Nat)
 | ret
 | tT (l:List AOper)
 | dreg (vals tail rev:List AOper)
 | range (g:Arg) (ps aS exs:List Nat) (a b:ACode)
 | frz (a:ACode)
 | regx (l:List AOper)
 | panr
 | scope (l:Nat) (aS vars:List Nat) (a b:ACode)
 | label (l:Nat)
 | goto (l:Nat)
def ibits (op:BinOp) (k:IntKind) (x y:Int):Int :=
 let a:=BitVec.ofInt k.bits x
 let b:=BitVec.ofInt k.bits y
 k.wrap (match op with
  | .and=>(a &&& b).toNat
  | .or=>(a ||| b).toNat
  | .xor=>(a ^^^ b).toNat
  | _=>(a &&& ~~~b).toNat)
def Kz (k:IntKind) (a b:Int):Int:=k.wrap (a*2 ^ (min b.toNat k.bits))
def Ky (k:IntKind) (a b:Int):Int:=a.fdiv (2 ^ (min b.toNat k.bits))
def vbin (op:BinOp) (x y:D) (K:D->Prop):Prop :=
 match x,y with
 | .int k a,.int k' b =>
  match op with
  | .shl=>0<=b/\K (.int k (Kz k a b))
  | .shr=>0<=b/\K (.int k (Ky k a b))
  | .add=>k=k'/\K (.int k (k.wrap (a+b)))
  | .sub=>k=k'/\K (.int k (k.wrap (a-b)))
  | .mul=>k=k'/\K (.int k (k.wrap (a*b)))
  | .quo=>k=k'/\b≠0/\K (.int k (k.wrap (a.tdiv b)))
  | .rem=>k=k'/\b≠0/\K (.int k (a.tmod b))
  | .and=>k=k'/\K (.int k (ibits .and k a b))
  | .or=>k=k'/\K (.int k (ibits .or k a b))
  | .xor=>k=k'/\K (.int k (ibits .xor k a b))
  | .andNot=>k=k'/\K (.int k (ibits .andNot k a b))
  | .eql=>k=k'/\K (.bool (decide (a=b)))
  | .neq=>k=k'/\K (.bool (!decide (a=b)))
  | .lss=>k=k'/\K (.bool (decide (a<b)))
  | .leq=>k=k'/\K (.bool (decide (a<=b)))
  | .gtr=>k=k'/\K (.bool (decide (b<a)))
  | .geq=>k=k'/\K (.bool (decide (b<=a)))
 | .str a,.str b =>
  match op with
  | .eql=>K (.bool (a.toList == b.toList))
  | .neq=>K (.bool (!(a.toList == b.toList)))
  | .add=>a.size+b.size<=9223372036854775807/\K (.str (a++b))
  | _=>False
 | _,_=>False
def vun (op:UnOp) (x:D) (K:D->Prop):Prop :=
 match op,x with
 | .neg,.int k n=>K (.int k (k.wrap (0-n)))
 | .xor,.int k n=>K (.int k (ibits .xor k (if k.signed then -1 else k.max) n))
 | .not,.bool b=>K (.bool !b)
 | _,_=>False
def eqCells:List CK->List D->List D->Option Bool
 | [],[],[]=>some true
 | .i::ks,.int k a::r,.int k' b::s=>if k=k' then(eqCells ks r s).map (λ t=>decide (a=b)&&t) else none
 | .b::ks,.bool a::r,.bool b::s=>(eqCells ks r s).map (λ t=>(a == b)&&t)
 | .s::ks,.str a::r,.str b::s=>(eqCells ks r s).map (λ t=>(a.toList == b.toList)&&t)
 | _,_,_=>none
def veqv (neg:Bool) (ks:List CK) (x y:D) (K:D->Prop):Prop :=
 match eqCells ks x.cells y.cells with
 | some b=>K (.bool (if neg then !b else b))
 | none=>False
def vpart (cs:List D) (off size:Nat) (agg:Bool) (K:D->Prop):Prop :=
 if agg then off+size<=cs.length/\K (.agg ((cs.drop off).take size))
 else match cs[off]? with
  | some d=>K d
  | none=>False
def setCells (d:D) (j:Nat) (new:List D):D :=
 match d with
 | .agg cs=>.agg (cs.take j++new++cs.drop (j+new.length))
 | _=>match new with
  | [x]=>x
  | _=>.undef
def Slot.live:Slot->Bool
 | .box _=>true
 | .arr _ _=>true
 | .frz _ _=>true
 | _=>false
def velems (esz:Nat) (x:D) (h:Heap) (K:List D->Prop):Prop :=
 match x with
 | .nil=>K []
 | .sl xs=>(∀e∈xs,e.cells.length=esz)/\K xs
 | .ms n off len=>∃els,(h n).row=some (esz,els)/\off+len<=els.length/\K ((els.drop off).take len)
 | _=>False
def vint (x:D) (K:Int->Prop):Prop :=
 match x with
 | .int _ i=>K i
 | _=>False
def bq (x:D) (h:Heap) (K:D->Prop):Prop :=
 match x with
 | .nil=>K (.int .i64 0)
 | .sl xs=>K (.int .i64 xs.length)
 | .ms n _ len=>(h n).live=true/\K (.int .i64 len)
 | _=>False
def vopt (e:LEnv) (x:Option Arg) (dflt:Nat) (K:Int->Prop):Prop :=
 match x with
 | none=>K dflt
 | some a=>vint (a.get e) K
def fillD (cells:List D):List (Nat×Nat×List D)->List D
 | []=>cells
 | (off,size,cs)::r=>fillD (cells.take off++cs++cells.drop (off+size)) r
def mR (n:Nat) (l:List (Nat×Nat×D)):Prop :=
 ∀p∈l,p.2.2.cells.length=p.2.1/\p.1+p.2.1<=n/\∀d∈p.2.2.cells,d.one=true
def Vo (n:Nat) (e:LEnv) (parts:List (Nat×Nat×Arg)):Prop :=
 ∀p∈parts,(p.2.2.get e).cells.length=p.2.1/\p.1+p.2.1<=n/\∀d,d∈(p.2.2.get e).cells->d.one=true
theorem OX {n:Nat}{e:LEnv}{parts:List (Nat×Nat×Arg)}:mR n (parts.map λ p=>(p.1,p.2.1,p.2.2.get e))↔Vo n e parts:=by
 simp only[mR,Vo,List.mem_map,forall_exists_index,and_imp,forall_apply_eq_imp_iff₂]
def setEls (els:List D):List (Nat×D)->List D
 | []=>els
 | (i,x)::r=>setEls (els.set i x) r
def Heap.freeze (h:Heap) (n:Nat):Heap :=
 match h n with
 | .arr e l=>ak h n (.frz e l)
 | _=>h
def Heap.freezeAll (h:Heap):List Nat->Heap
 | []=>h
 | n::r=>Heap.freezeAll (h.freeze n) r
def D.fzc (h:Heap):D->D
 | .ms n off len=>match (h n).row with
  | some (_,els)=>.sl ((els.drop off).take len)
  | none=>.ms n off len
 | d=>d
def D.fz (h:Heap):D->D
 | .agg cs=>.agg (cs.map (D.fzc h))
 | d=>d.fzc h
def D.fzt (h:Heap):D->D
 | .tup ds=>.tup (ds.map (D.fz h))
 | d=>d.fz h
def D.nR:D->List Nat
 | .ms n _ _=>[n]
 | _=>[]
def D.nm:D->List Nat
 | .agg cs=>cs.flatMap D.nR
 | d=>d.nR
def aD (d:D):Prop:=∀x∈d.cells,x.one=true
def rM (h:Heap):D->Prop
 | .ms n off len=>∃esz els,(h n).row=some (esz,els)/\off+len<=els.length/\∀x,x∈(els.drop off).take len->∀y∈x.cells,y.vone=true
 | _=>True
def pD (h:Heap) (d:D):Prop:=∀x∈d.cells,rM h x
def Ph (len esz:Nat) (l:List (Nat×D)):Prop:=∀p∈l,p.1<len/\p.2.cells.length=esz/\aD p.2
def Wb (h:Heap) (l:List (Nat×D)):Prop:=∀p∈l,pD h p.2
def aa4 (l:List (Nat×D)):Prop:=∀p∈l,∀y∈p.2.cells,y.vone=true
theorem Hl {len esz:Nat}{e:LEnv}{parts:List (Nat×Arg)}:Ph len esz (parts.map λ p=>(p.1,p.2.get e)) ↔ ∀p∈parts,p.1<len/\(p.2.get e).cells.length=esz/\aD (p.2.get e):=by
 simp only[Ph,List.mem_map,forall_exists_index,and_imp,forall_apply_eq_imp_iff₂]
theorem MN {h:Heap}{e:LEnv}{parts:List (Nat×Arg)}:Wb h (parts.map λ p=>(p.1,p.2.get e)) ↔ ∀p∈parts,pD h (p.2.get e):=by
 simp only[Wb,List.mem_map,forall_exists_index,and_imp,forall_apply_eq_imp_iff₂]
theorem Wa {e:LEnv}{parts:List (Nat×Arg)}:aa4 (parts.map λ p=>(p.1,p.2.get e)) ↔ ∀p∈parts,∀y,y∈(p.2.get e).cells->y.vone=true:=by
 simp only[aa4,List.mem_map,forall_exists_index,and_imp,forall_apply_eq_imp_iff₂]
def keySame:D->D->Bool
 | .int _ a,.int _ b=>decide (a=b)
 | .agg [.int _ a,.int _ b],.agg [.int _ c,.int _ d]=>decide (a=c)&&decide (b=d)
 | _,_=>false
def mget:List (D×D)->D->Option D
 | [],_=>none
 | (a,b)::r,k=>if keySame k a=true then some b else mget r k
def mset:List (D×D)->D->D->List (D×D)
 | [],k,v=>[(k,v)]
 | (a,b)::r,k,v=>if keySame k a=true then(a,v)::r else(a,b)::mset r k v
def ag (P:Program) (f:FuncId) (ds:List D) (h:Heap) (K:HKq):Prop :=
 ∀(c:Ctx) (w:World) (vals:Array Value),c.h=h->c.hp=w.heap->au c->vals.size=ds.length ->
  (∀(i:Nat) (d:D),ds[i]?=some d->aA c d (vals.getD i Go.undef)) ->
  Calls P f vals w λ e w'=>∃(v:Value) (r:D) (ρ:Nat->Option Nat) (h':Heap),e=.returned v/\c.le ⟨ρ,c.X,h',w'.heap⟩ /\
   au ⟨ρ,c.X,h',w'.heap⟩/\WS w w'/\aA ⟨ρ,c.X,h',w'.heap⟩ r v/\K r h'
theorem ag.mono {P:Program}{f:FuncId}{ds:List D}{h:Heap}{K K':HKq}(hk:∀r h',K r h'->K' r h') (hc:ag P f ds h K):ag P f ds h K':=by
 intro c w vals E hp hr hs u;refine(hc c w vals E hp hr hs u).mono ?_;grind
def nP (P:Program) (f:FuncId) (ds:List D) (h:Heap) (K:HKq) (KP:Heap->Prop):Prop :=
 ∀(c:Ctx) (w:World) (vals:Array Value),c.h=h->c.hp=w.heap->au c->vals.size=ds.length ->
  (∀(i:Nat) (d:D),ds[i]?=some d->aA c d (vals.getD i Go.undef)) ->
  Calls P f vals w λ e w'=>∃(ρ:Nat->Option Nat) (h':Heap),c.le ⟨ρ,c.X,h',w'.heap⟩/\au ⟨ρ,c.X,h',w'.heap⟩/\WS w w' /\
   ((∃(v:Value) (r:D),e=.returned v/\aA ⟨ρ,c.X,h',w'.heap⟩ r v/\K r h')\/(e=.panicked [{ v:=ck.panv,recovered:=false }]/\KP h'))
theorem nP.mono {P:Program}{f:FuncId}{ds:List D}{h:Heap}{K K':HKq}{KP KP':Heap->Prop}(hk:∀r h',K r h'->K' r h') (hp:∀h',KP h'->KP' h') (hc:nP P f ds h K KP):nP P f ds h K' KP':=by
 intro c w vals G u hr hs E;refine(hc c w vals G u hr hs E).mono ?_;grind
theorem nP.call {P:Program}{f:FuncId}{ds:List D}{h:Heap}{K:HKq}(hc:nP P f ds h K λ _=>False):ag P f ds h K:=by
 grind [nP,ag]
def uq (P:Program) (n:Nat) (ds:List D) (h:Heap) (K:HKq):Prop :=
 ∀(c:Ctx) (w:World) (vals:Array Value) (g:Nat),c.h=h->c.hp=w.heap->au c->vals.size=ds.length ->
  (∀(i:Nat) (d:D),ds[i]?=some d->aA c d (vals.getD i Go.undef))->c.ρ n=some g ->
  ∃(fn:FuncId) (tmps:Array Value) (assign body:Code),(Instr.yield g vals).run P w=.ok (.round g fn tmps assign body) w /\
   RoundIn Fence.wide 0 P g fn tmps assign body w λ e w'=>∃(v:Value) (r:D) (ρ:Nat->Option Nat) (h':Heap),e=.returned v/\c.le ⟨ρ,c.X,h',w'.heap⟩ /\
    au ⟨ρ,c.X,h',w'.heap⟩/\WS w w'/\aA ⟨ρ,c.X,h',w'.heap⟩ r v/\K r h'
theorem uq.mono {P:Program}{n:Nat}{ds:List D}{h:Heap}{K K':HKq}(hk:∀r h',K r h'->K' r h') (hc:uq P n ds h K):uq P n ds h K':=by
 intro c w vals g E hp hr hs u hg;obtain⟨fn,tmps,assign,body,h1,h2⟩:=hc c w vals g E hp hr hs u hg;refine⟨fn,tmps,assign,body,h1,h2.mono ?_⟩;grind
def de (P:Program) (f:FuncId):Bool :=
 match P.funcs[f]? with
 | some fn=> !(fn.name == "runtime.NumGoroutine")&&fn.body.isSome
 | none=>false
def pB (h:Heap) (n:Nat):Prop:=(∀m,n<=m->h m=.free)/\∀k,n=k+1->h k≠.free
theorem pB.free {h:Heap}{n:Nat}(t:pB h n):h n=.free:=t.1 n (Nat.le_refl n)
def HB (h:Heap) (m esz:Nat) (els:List D):Prop:=∃rest,h m=.arr esz (els++rest)
theorem HB.of {h:Heap}{m esz:Nat}{els:List D}(e:h m=.arr esz els):HB h m esz els:=⟨[],by rw[List.append_nil];exact e⟩
def u8L:List D->Option (List Int)
 | []=>some []
 | .int .u8 n::r=>(u8L r).map (n :: ·)
 | _=>none
def strOf (ns:List Int):ByteArray:=ns.foldl (λ r n=>r.push (UInt8.ofNat n.toNat)) ByteArray.empty
def vcOp (P:Program) (op:AOp) (K:HKq) (e:LEnv) (h:Heap):Prop :=
 match op with
 | .mov x=>K (x.get e) h
 | .pick c a b=>match c.get e with
  | .bool t=>K (if t then a.get e else b.get e) h
  | _=>False
 | .bin op x y=>vbin op (x.get e) (y.get e) (K · h)
 | .eqv neg agg ks x y=>(x.get e).isAgg=agg/\(y.get e).isAgg=agg/\veqv neg ks (x.get e) (y.get e) (K · h)
 | .un op x=>vun op (x.get e) (K · h)
 | .conv k x=>vint (x.get e) λ i=>K (.int k (k.wrap i)) h
 | .ext x i=>match x.get e with
  | .tup ds=>match ds[i]? with
   | some d=>K d h
   | none=>False
  | _=>False
 | .fld x off size agg=>match x.get e with
  | .agg cs=>vpart cs off size agg (K · h)
  | _=>False
 | .bld zero parts=>mR zero.length (parts.map λ p=>(p.1,p.2.1,p.2.2.get e))/\K (.agg (fillD zero (parts.map λ p=>(p.1,p.2.1,(p.2.2.get e).cells)))) h
 | .bldS fz esz len zero parts=>Ph len esz (parts.map λ p=>(p.1,p.2.get e))/\(fz=true->Wb h (parts.map λ p=>(p.1,p.2.get e))) /\
   ∀n,pB h n->K (.ms n 0 len) (ak (if fz then h.freezeAll (parts.flatMap λ p=>(p.2.get e).nm) else h) n
    (.arr esz (setEls (List.replicate len zero) (parts.map λ p=>(p.1,if fz then(p.2.get e).fz h else p.2.get e)))))
 | .len x=>bq (x.get e) h (K · h)
 | .slen x=>match x.get e with
  | .str s=>K (.int .i64 s.size) h
  | _=>False
 | .fadd x off=>match x.get e with
  | .ptr n i j=>(h n).used=true/\K (.ptr n i (j+off)) h
  | .vp d j=>K (.vp d (j+off)) h
  | _=>False
 | .iadd x i esz=>vint (i.get e) λ i=>match x.get e with
  | .sl xs=>0<=i/\i<xs.length/\∀d,xs[i.toNat]?=some d->d.cells.length=esz/\K (.vp d 0) h
  | .ms n off len=>0<=i/\i<len/\(∃els,(h n).row=some (esz,els))/\K (.ptr n (off+i.toNat) 0) h
  | _=>False
 | .iadda x i len esz=>vint (i.get e) λ i=>0<=i/\i<len/\match x.get e with
  | .ptr n k j=>(h n).live=true/\K (.ptr n k (j+i.toNat*esz)) h
  | .vp d j=>K (.vp d (j+i.toNat*esz)) h
  | _=>False
 | .sidx x i len size agg=>vint (i.get e) λ i=>match x.get e with
  | .str s=>len=0/\0<=i/\i<s.size/\∀b,s[i.toNat]?=some b->K (.int .u8 b.toNat) h
  | .agg cs=>0<len/\0<=i/\i<len/\vpart cs (i.toNat*size) size agg (K · h)
  | _=>False
 | .ld x size agg=>match x.get e with
  | .vp d j=>vpart d.cells j size agg (K · h)
  | .ptr n i j=>match h n with
   | .box v=>i=0/\vpart v.cells j size agg (K · h)
   | .arr _ els=>i<els.length/\∀d,els[i]?=some d->vpart d.cells j size agg (K · h)
   | .frz _ els=>i<els.length/\∀d,els[i]?=some d->vpart d.cells j size agg (K · h)
   | _=>False
  | _=>False
 | .st x v size=>(v.get e).cells.length=size/\aD (v.get e)/\match x.get e with
  | .ptr n i j=>match h n with
   | .box d=>i=0/\j+size<=d.cells.length/\K .undef (ak h n (.box (setCells d j (v.get e).cells)))
   | .arr esz els=>i<els.length/\j+size<=esz/\∀d,els[i]?=some d->K .undef (ak h n (.arr esz (els.set i (setCells d j (v.get e).cells))))
   | _=>False
  | _=>False
 | .alloc zero=>∀n,pB h n->K (.ptr n 0 0) (ak h n (.box zero))
 | .box x=>aD (x.get e)/\∀n,pB h n->K (.ptr n 0 0) (ak h n (.box (x.get e)))
 | .mk esz bytes zero len cap=>vint (len.get e) λ l=>vint (cap.get e) λ c=>0<=l/\l<=c/\c*bytes<=140737488355328/\c<=9223372036854775807 /\
   ∀n,pB h n->K (.ms n 0 l.toNat) (ak h n (.arr esz (List.replicate l.toNat zero)))
 | .GQ x lo hi mx esz=>match x.get e with
  | .nil=>vopt e lo 0 λ l=>vopt e hi 0 λ r=>vopt e mx 0 λ m=>l=0/\r=0/\m=0/\K .nil h
  | .sl xs=>vopt e lo 0 λ l=>vopt e hi xs.length λ r=>vopt e mx xs.length λ m=>0<=l/\l<=r/\r<=m/\m<=xs.length/\(∀d∈xs,d.cells.length=esz) /\
    K (.sl ((xs.drop l.toNat).take (r-l).toNat)) h
  | .ms n off len=>vopt e lo 0 λ l=>vopt e hi len λ r=>vopt e mx len λ m=>0<=l/\l<=r/\r<=m/\m<=len/\(∃els,(h n).row=some (esz,els)) /\
    K (.ms n (off+l.toNat) (r-l).toNat) h
  | _=>False
 | .nilq neg x=>match x.get e with
  | .nil=>K (.bool (!neg)) h
  | .sl (_::_)=>K (.bool neg) h
  | .sl []=>K (.bool true) h/\K (.bool false) h
  | _=>False
 | .slz x esz=>match x.get e with
  | .nil=>∀n,pB h n->K (.ms n 0 0) (ak h n (.arr esz []))
  | .sl _=>∀n,pB h n->K (.ms n 0 0) (ak h n (.arr esz []))
  | .ms m _ _=>(∃els,(h m).row=some (esz,els))/\∀n,pB h n->K (.ms n 0 0) (ak h n (.arr esz []))
  | _=>False
 | .sla x n=>match x.get e with
  | .ptr m i j=>match h m with
   | .box (.agg cs)=>i=0/\0<n/\n<=1000000/\j+n<=cs.length/\(∀d,d∈(cs.drop j).take n->d.vone=true)/\K (.sl ((cs.drop j).take n)) (ak h m .dead)
   | _=>False
  | _=>False
 | .mkc bytes len cap=>vint (len.get e) λ l=>vint (cap.get e) λ c=>0<=l/\l<=c/\c*bytes<=140737488355328/\c<=9223372036854775807/\K .undef h
 | .b2s x=>velems 1 (x.get e) h λ ys=>(∀y∈ys,aD y)/\match u8L ys with
  | some ns=>K (.str (strOf ns)) h
  | none=>False
 | .sslc x lo hi=>match x.get e with
  | .str s=>vopt e lo 0 λ l=>vopt e hi s.size λ r=>0<=l/\l<=r/\r<=s.size/\K (.str (s.extract l.toNat r.toNat)) h
  | _=>False
 | .app s x esz bytes _=>velems esz (x.get e) h λ ys=>(∀y∈ys,aD y)/\match s.get e with
  | .nil=>(ys.length*bytes<=140737488355328/\ys.length<=9223372036854775807)/\∀n,pB h n->K (.ms n 0 ys.length) (ak h n (.arr esz ys))
  | .ms m off len=>∃els,HB h m esz els/\off+len=els.length/\((len+ys.length)*bytes<=140737488355328/\len+ys.length<=9223372036854775807) /\
    ∀n,pB h n->K (.ms n 0 (len+ys.length)) (ak (ak h m .dead) n (.arr esz (els.drop off++ys))) /\
     (off≠0->K (.ms n off (len+ys.length)) (ak (ak h m .dead) n (.arr esz (els++ys))))
  | _=>False
 | .MK d s esz=>velems esz (s.get e) h λ ys=>(∀y∈ys,aD y)/\match d.get e with
  | .ms m off len=>∃els,h m=.arr esz els/\off+len<=els.length /\
    K (.int .i64 (min ys.length len:Nat)) (ak h m (.arr esz (els.take off++ys.take len++els.drop (off+min ys.length len))))
  | _=>False
 | .clr x esz z=>match x.get e with
  | .ms m off len=>∃els,h m=.arr esz els/\off+len<=els.length/\K (.tup []) (ak h m (.arr esz (els.take off++List.replicate len z++els.drop (off+len))))
  | _=>False
 | .call f args=>ag P f (args.map (·.get e)) h K
 | .callv x args=>match x.get e with
  | .fn f a b=>de P f=true/\ag P f (a++args.map (·.get e)++b) h K
  | .yld n=>(∃st B,h n=.lp st B)/\uq P n (args.map (·.get e)) h K
  | _=>False
 | .mkf f a b=>K (.fn f (a.map (·.get e)) (b.map (·.get e))) h
 | .mn x y=>match x.get e,y.get e with
  | .int k a,.int k' b=>k=k'/\K (.int k (if b<a then b else a)) h
  | _,_=>False
 | .mx x y=>match x.get e,y.get e with
  | .int k a,.int k' b=>k=k'/\K (.int k (if a<b then b else a)) h
  | _,_=>False
 | .mn3 x y z=>match x.get e,y.get e,z.get e with
  | .int k a,.int k' b,.int k'' c=>k=k'/\k=k''/\K (.int k (min (min a b) c)) h
  | _,_,_=>False
 | .mx3 x y z=>match x.get e,y.get e,z.get e with
  | .int k a,.int k' b,.int k'' c=>k=k'/\k=k''/\K (.int k (max (max a b) c)) h
  | _,_,_=>False
 | .mkm kt=>∀n,pB h n->K (.mp n) (ak h n (.map kt []))
 | .look kt x k z ok=>kt.okB (k.get e)=true/\match x.get e with
  | .mp n=>match h n with
   | .map kt' ents=>kt'=kt/\K (if ok then .tup [(mget ents (k.get e)).getD z,.bool (mget ents (k.get e)).isSome] else(mget ents (k.get e)).getD z) h
   | _=>False
  | .nilmap=>K (if ok then .tup [z,.bool false] else z) h
  | _=>False
 | .mupd kt x k v=>kt.okB (k.get e)=true/\(v.get e).one=true/\match x.get e with
  | .mp n=>match h n with
   | .map kt' ents=>kt'=kt/\K .undef (ak h n (.map kt (mset ents (k.get e) (v.get e))))
   | _=>False
  | _=>False
 | .dead=>False
def D.vd:D->Bool
 | .agg cs=>cs.all D.vone
 | d=>d.vone
def D.JR:D->Bool
 | .tup ds=>ds.all D.vd
 | d=>d.vd
def Qx (h:Heap) (l:List D):Prop:=∀d∈l,aD d/\pD h d/\(d.fz h).vd=true
theorem Eh {h:Heap}{e:LEnv}{args:List Arg}:Qx h (args.map (·.get e)) ↔ ∀x∈args,aD (x.get e)/\pD h (x.get e)/\((x.get e).fz h).vd=true:=by
 grind [Qx]
def aV (P:Program) (f:FuncId) (ds:List D) (K:D->Prop):Prop :=
 ∀(c:Ctx) (w:World) (vals:Array Value),(∀n,c.h n=.free)->c.hp=w.heap->au c->vals.size=ds.length ->
  (∀(i:Nat) (d:D),ds[i]?=some d->aA c d (vals.getD i Go.undef)) ->
  Calls P f vals w λ e w'=>∃(v:Value) (r:D),e=.returned v/\c.le ⟨c.ρ,c.X,c.h,w'.heap⟩/\WS w w'/\aA ⟨c.ρ,c.X,c.h,w'.heap⟩ r v/\r.JR=true/\K r
theorem aV.mono {P:Program}{f:FuncId}{ds:List D}{K K':D->Prop}(hk:∀r,K r->K' r) (hc:aV P f ds K):aV P f ds K':=by
 intro c w vals E hp hr hs u;refine(hc c w vals E hp hr hs u).mono ?_;grind
def D.flatc:D->Bool
 | .int _ _=>true
 | .bool _=>true
 | .str _=>true
 | .nil=>true
 | .nilfn=>true
 | .nilmap=>true
 | .nilp=>true
 | _=>false
def D.ME:D->Bool
 | .agg cs=>cs.all D.flatc
 | d=>d.flatc
def D.flat:D->Bool
 | .tup ds=>ds.all D.ME
 | d=>d.ME
def Wt (h:Heap) (ns:List Nat):Prop:=∀n∈ns,∃esz els,h n=.frz esz els
def vcdOp (P:Program) (op:AOp) (K:D->Prop) (e:LEnv) (h:Heap):Prop :=
 match op with
 | .bldS _ esz len zero parts=>Ph len esz (parts.map λ p=>(p.1,p.2.get e))/\aa4 (parts.map λ p=>(p.1,p.2.get e))/\(∀y∈zero.cells,y.vone=true) /\
   K (.sl (setEls (List.replicate len zero) (parts.map λ p=>(p.1,p.2.get e))))
 | .call f args=>∃r,aV P f (args.map λ x=>(x.get e).fz h) (· = r)/\Qx h (args.map (·.get e))/\(r.flat=true\/Wt h (args.flatMap λ x=>(x.get e).nm))/\K r
 | .mk esz bytes zero len cap=>vint (len.get e) λ l=>vint (cap.get e) λ c=>(0<=l/\l<=c/\c*bytes<=140737488355328/\c<=9223372036854775807)/\(zero.cells.length=esz/\∀y∈zero.cells,y.vone=true)/\K (.sl (List.replicate l.toNat zero))
 | .fadd x off=>match x.get e with
  | .ptr n i j=>(h n).used=true/\K (.ptr n i (j+off))
  | .vp d j=>K (.vp d (j+off))
  | _=>False
 | .nilq neg x=>match x.get e with
  | .nil=>K (.bool (!neg))
  | .sl (_::_)=>K (.bool neg)
  | _=>False
 | op=>vcOp P op (λ d _=>K d) e h
def Arg.res (e:LEnv) (x:Arg):Arg:=.c (x.get e)
def AOp.res (e:LEnv):AOp->AOp
 | .mov x=>.mov (x.res e)
 | .pick c a b=>.pick (c.res e) (a.res e) (b.res e)
 | .bin op x y=>.bin op (x.res e) (y.res e)
 | .eqv n g ks x y=>.eqv n g ks (x.res e) (y.res e)
 | .un op x=>.un op (x.res e)
 | .conv k x=>.conv k (x.res e)
 | .ext x i=>.ext (x.res e) i
 | .fld x o n g=>.fld (x.res e) o n g
 | .bld z ps=>.bld z (ps.map λ p=>(p.1,p.2.1,p.2.2.res e))
 | .bldS fz n l z ps=>.bldS fz n l z (ps.map λ p=>(p.1,p.2.res e))
 | .len x=>.len (x.res e)
 | .slen x=>.slen (x.res e)
 | .fadd x o=>.fadd (x.res e) o
 | .iadd x i n=>.iadd (x.res e) (i.res e) n
 | .iadda x i l n=>.iadda (x.res e) (i.res e) l n
 | .sidx x i l n g=>.sidx (x.res e) (i.res e) l n g
 | .ld x n g=>.ld (x.res e) n g
 | .st x v n=>.st (x.res e) (v.res e) n
 | .alloc z=>.alloc z
 | .box x=>.box (x.res e)
 | .mk n b z l c=>.mk n b z (l.res e) (c.res e)
 | .GQ x lo hi m3 n=>.GQ (x.res e) (lo.map (·.res e)) (hi.map (·.res e)) (m3.map (·.res e)) n
 | .sslc x lo hi=>.sslc (x.res e) (lo.map (·.res e)) (hi.map (·.res e))
 | .slz x n=>.slz (x.res e) n
 | .sla x n=>.sla (x.res e) n
 | .b2s x=>.b2s (x.res e)
 | .mkc b x y=>.mkc b (x.res e) (y.res e)
 | .nilq b x=>.nilq b (x.res e)
 | .app s x n b z=>.app (s.res e) (x.res e) n b z
 | .MK d s n=>.MK (d.res e) (s.res e) n
 | .clr x n z=>.clr (x.res e) n z
 | .call f l=>.call f (l.map (·.res e))
 | .callv x l=>.callv (x.res e) (l.map (·.res e))
 | .mkf f a b=>.mkf f (a.map (·.res e)) (b.map (·.res e))
 | .mn x y=>.mn (x.res e) (y.res e)
 | .mx x y=>.mx (x.res e) (y.res e)
 | .mn3 x y z=>.mn3 (x.res e) (y.res e) (z.res e)
 | .mx3 x y z=>.mx3 (x.res e) (y.res e) (z.res e)
 | .mkm kt=>.mkm kt
 | .look kt x k z ok=>.look kt (x.res e) (k.res e) z ok
 | .mupd kt x k v=>.mupd kt (x.res e) (k.res e) (v.res e)
 | .dead=>.dead
theorem N2 {e:LEnv}{a:Option Arg}{n:Nat}{Q:Int->Prop}:vopt [] (a.map (·.res e)) n Q=vopt e a n Q:=by cases a<;>rfl
theorem Jz {e:LEnv}{l:List Arg}:(l.map (·.res e)).map (·.get [])=l.map (·.get e):=by rw[List.map_map];rfl
theorem uy {P:Program}{op:AOp}{K:HKq}{e:LEnv}{h:Heap}:vcOp P (op.res e) K [] h=vcOp P op K e h:=by
 cases op with
 | bld z ps=>simp only[AOp.res,vcOp,List.map_map];rfl
 | bldS fz n l z ps=>simp only[AOp.res,vcOp,List.map_map,List.flatMap_map];rfl
 | GQ x lo hi mx n=>simp only[AOp.res,vcOp,N2];rfl
 | sslc x lo hi=>simp only[AOp.res,vcOp,N2];rfl
 | call f l=>simp only[AOp.res,vcOp,Jz]
 | callv x l=>simp only[AOp.res,vcOp,Jz];rfl
 | mkf f a b=>simp only[AOp.res,vcOp,Jz]
 | _=>rfl
theorem Si {P:Program}{op:AOp}{K:D->Prop}{e:LEnv}{h:Heap}:vcdOp P (op.res e) K [] h=vcdOp P op K e h:=by
 cases op with
 | bldS fz n l z ps=>simp only[AOp.res,vcdOp,List.map_map];rfl
 | call f l=>simp only[AOp.res,vcdOp,Jz,List.map_map,List.flatMap_map];rfl
 | fadd x o=>rfl
 | nilq b x=>rfl
 | mk n b z l c=>rfl
 | bld z ps=>exact uy (op:=.bld z ps) (K:=λ d _=>K d) (P:=P) (h:=h)
 | GQ x lo hi mx n=>exact uy (op:=.GQ x lo hi mx n) (K:=λ d _=>K d) (P:=P) (h:=h)
 | sslc x lo hi=>exact uy (op:=.sslc x lo hi) (K:=λ d _=>K d) (P:=P) (h:=h)
 | callv x l=>exact uy (op:=.callv x l) (K:=λ d _=>K d) (P:=P) (h:=h)
 | mkf f a b=>exact uy (op:=.mkf f a b) (K:=λ d _=>K d) (P:=P) (h:=h)
 | _=>rfl
def ab (P:Program) (op:AOp) (h:Heap) (K:HKq):Prop:=vcOp P op K [] h
def an (P:Program) (op:AOp) (h:Heap) (K:D->Prop):Prop:=vcdOp P op K [] h
def movOf:AOp->Option Arg
 | .mov x=>some x
 | _=>none
theorem Kt {op:AOp}{x:Arg}(h:movOf op=some x):op=.mov x:=by cases op<;>simp[movOf]at h<;>rw[h]
def vguard (x:D) (want:Bool) (A:(HKq)->Prop) (h:Heap) (K:HKq):Prop :=
 match gv x with
 | some b=>(b=some want->A K)/\(b≠some want->K gU h)
 | none=>False
def aj (x:D) (want:Bool) (A:(D->Prop)->Prop) (K:D->Prop):Prop :=
 match gv x with
 | some b=>(b=some want->A K)/\(b≠some want->K gU)
 | none=>False
def aB (a b:List D):Prop:=a=b
def vcdOper (P:Program) (o:AOper) (K:LEnv->Heap->Prop) (e:LEnv) (h:Heap):Prop :=
 match o.guard with
 | none=>match movOf o.op with
  | some x=>K (e.put o.dst (x.get e)) h
  | none=>an P (o.op.res e) h (λ d=>K (e.put o.dst d) h)
 | some (j,want)=>aj (e.get j) want (λ C=>an P (o.op.res e) h C) λ d=>K (e.put o.dst d) h
theorem N9 {P:Program}{op:AOp}{K:HKq}{e:LEnv}{h:Heap}:ab P (op.res e) h K=vcOp P op K e h:=uy
theorem JT {P:Program}{op:AOp}{K:D->Prop}{e:LEnv}{h:Heap}:an P (op.res e) h K=vcdOp P op K e h:=Si
theorem wh {P:Program}{o:AOper}{K:LEnv->Heap->Prop}{e:LEnv}{h:Heap}:vcdOper P o K e h=match o.guard with
 | none=>vcdOp P o.op (λ d=>K (e.put o.dst d) h) e h
 | some (j,want)=>aj (e.get j) want (λ C=>vcdOp P o.op C e h) λ d=>K (e.put o.dst d) h:=by
 unfold vcdOper
 cases o.guard with
 | none =>
  simp only
  cases hm:movOf o.op with
  | some x=>rw[Kt hm];rfl
  | none=>simp only[JT]
 | some p=>simp only[JT]
def vcVals (P:Program):List AOper->(LEnv->Heap->Prop)->LEnv->Heap->Prop
 | [],K=>K
 | o::r,K=>vcdOper P o (vcVals P r K)
def zv (P:Program) (o:AOper) (K:LEnv->Heap->Prop) (e:LEnv) (h:Heap):Prop :=
 match o.guard with
 | none=>match movOf o.op with
  | some x=>K (e.put o.dst (x.get e)) h
  | none=>ab P (o.op.res e) h (λ d h'=>K (e.put o.dst d) h')
 | some (j,want)=>vguard (e.get j) want (λ C=>ab P (o.op.res e) h C) h λ d h'=>K (e.put o.dst d) h'
theorem ji {P:Program}{o:AOper}{K:LEnv->Heap->Prop}{e:LEnv}{h:Heap}:zv P o K e h=match o.guard with
 | none=>vcOp P o.op (λ d h'=>K (e.put o.dst d) h') e h
 | some (j,want)=>vguard (e.get j) want (λ C=>vcOp P o.op C e h) h λ d h'=>K (e.put o.dst d) h':=by
 unfold zv
 cases o.guard with
 | none =>
  simp only
  cases hm:movOf o.op with
  | some x=>rw[Kt hm];rfl
  | none=>simp only[N9]
 | some p=>simp only[N9]
def zu (P:Program):List AOper->(LEnv->Heap->Prop)->LEnv->Heap->Prop
 | [],K=>K
 | o::r,K=>zv P o (zu P r K)
def HP (P:Program):List AOper->LEnv->Heap->Prop
 | [],_,_=>True
 | b::r,e,h=>(match b.dst with
  | some s=>an P (b.op.res e) h (λ d=>aB [d] [e.get s])
  | none=>True)/\HP P r e h
def gL (P:Program) (rev:List AOper):List AOper->(LEnv->Heap->Prop)->LEnv->Heap->Prop
 | [],K=>K
 | o::r,K=>zv P o λ e h=>HP P rev e h/\gL P rev r K e h
def vcTail (P:Program) (rev l:List AOper) (K:LEnv->Heap->Prop) (e:LEnv) (h:Heap):Prop :=
 match rev with
 | []=>zu P l K e h
 | b::r=>gL P (b::r) l K e h
def up (K:LEnv->Heap->Prop):Env->Heap->Prop:=λ t h=>∃e:LEnv,t=e.get/\K e h
def DU (id:Nat) (K:Nat->Prop):List Nat->Prop
 | []=>False
 | i::r=>(id=i/\K i)\/DU id K r
def GV (K:Prop):List Nat->Prop
 | []=>False
 | i::r=>(i=1000000/\K)\/GV K r
def rangeEnd (n:Nat) (exs:List Nat) (KN:Heap->Prop) (KE:Nat->Heap->Prop) (KR:Heap->Prop) (h:Heap):Prop :=
 match h n with
 | .lp .ready _=>KN (ak h n .dead)
 | .lp (.done (.exit id)) _=>DU id (λ i=>KE i (ak h n .dead)) exs
 | .lp (.done .ret) _=>GV (KR (ak h n .dead)) exs
 | _=>False
theorem zM {id:Nat}{K:Nat->Prop}:∀{l:List Nat},DU id K l->K id
 | [],h=>h.elim
 | i::r,h=>by
  rcases h with⟨rfl,h⟩|h
  ·exact h
  ·exact zM h
theorem C0 {K:Prop}:∀{l:List Nat},GV K l->K
 | [],h=>h.elim
 | i::r,h=>by
  rcases h with⟨_,h⟩|h
  ·exact h
  ·exact C0 h
abbrev LPost:=Ex->LEnv->Heap->Prop
def LPost.then (K:LEnv->Heap->Prop) (Q:LPost):LPost
 | .normal=>K
 | e=>Q e
def LPost.block (id:Nat) (Q:LPost):LPost
 | .exit id'=>λ t h=>if id'=id then Q .normal t h else Q (.exit id') t h
 | e=>Q e
def LPost.jump (l:Nat) (J:LEnv->Heap->Prop) (Q:LPost):LPost
 | .jump l'=>λ e h=>l'=l/\J e h
 | e=>Q e
def vcOpsX (P:Program):List AOper->(LEnv->Heap->Prop)->(LEnv->Heap->Prop)->LEnv->Heap->Prop
 | [],KN,_,e,h=>KN e h
 | o::r,KN,KP,e,h=>match o.op with
  | .call f args=>nP P f (args.map (·.get e)) h (λ d h'=>vcOpsX P r KN KP (e.put o.dst d) h') (λ h'=>KP e h')
  | op=>vcOp P op (λ d h'=>vcOpsX P r KN KP (e.put o.dst d) h') e h
def vcC (P:Program):ACode->LPost->LEnv->Heap->Prop
 | .skip,Q,e,h=>Q .normal e h
 | .seq a b,Q,e,h=>vcC P a (LPost.then (vcC P b Q) Q) e h
 | .seqj aS vars a b,Q,e,h=>∃J:HJq,(∀(f:Nat->D) h',J (vars.map f) h'->vcC P b Q (vars.map (λ v=>(v,f v))++aS.map (λ k=>(k,e.get k))) h') /\
   vcC P a (LPost.then (λ e' h'=>aS.map (LEnv.get e')=aS.map e.get/\J (vars.map (LEnv.get e')) h') Q) e h
 | .cond c a b,Q,e,h=>match c.get e with
  | .bool t=>(t=true->vcC P a Q e h)/\(t=false->vcC P b Q e h)
  | _=>False
 | .block id a,Q,e,h=>vcC P a (LPost.block id Q) e h
 | .exit id,Q,e,h=>Q (.exit id) e h
 | .ret,Q,e,h=>Q .ret e h
 | .loop aS vars a,Q,e,h=>∃(I:Nat->HJq) (n₀:Nat),I n₀ (vars.map e.get) h /\
   ∀n (f:Nat->D) h',I n (vars.map f) h' ->
    vcC P a (LPost.then (λ e' h''=>aS.map (LEnv.get e')=aS.map e.get/\∃m,m<n/\I m (vars.map (LEnv.get e')) h'') Q) (vars.map (λ v=>(v,f v))++aS.map (λ k=>(k,e.get k))) h'
 | .tT l,Q,e,h=>zu P l (Q .normal) e h
 | .dreg vals tail rev,Q,e,h=>vcVals P vals (λ e' h'=>vcTail P rev tail (Q .normal) e' h') e h
 | .range g ps aS exs a b,Q,e,h=>match g.get e with
  | .fn f fs cs=>fs=[]/\de P f=true/\∀(n:Nat) (B:fu),pB h n->B.env=LEnv.get (aS.map λ k=>(k,e.get k))->B.ps=ps->ps.Nodup->(∀p∈ps,p<B.nt) ->
    (∀(Q:LPost) (e:LEnv) (h:Heap),vcC P a Q e h->uu P B.nt B.assign (λ x=>up (Q x)) e.get h) ->
    (∀(Q:LPost) (e:LEnv) (h:Heap),vcC P b Q e h->uu P B.nt B.body (λ x=>up (Q x)) e.get h) ->
    ag P f (.yld n::cs) (ak h n (.lp .ready B)) λ _ h' =>
     rangeEnd n exs (Q .normal (aS.map λ k=>(k,e.get k))) (λ i=>Q (.exit i) (aS.map λ k=>(k,e.get k))) (Q .ret (aS.map λ k=>(k,e.get k))) h'
  | _=>False
 | .frz a,Q,e,h=>∃ns:List Nat,vcC P a Q e (h.freezeAll ns)
 | .regx l,Q,e,h=>vcOpsX P l (Q .normal) (Q .pan) e h
 | .panr,Q,e,h=>∀e':LEnv,Q .pan e' h
 | .label _,Q,e,h=>Q .normal e h
 | .goto l,Q,e,h=>Q (.jump l) e h
 | .scope l aS vars a b,Q,e,h=>∃I:Nat->HJq,
   vcC P a (LPost.jump l (λ e' h'=>aS.map (LEnv.get e')=aS.map e.get/\∃m,I m (vars.map (LEnv.get e')) h') Q) e h /\
   ∀n (f:Nat->D) h',I n (vars.map f) h' ->
    vcC P b (LPost.jump l (λ e' h''=>aS.map (LEnv.get e')=aS.map e.get/\∃m,m<n/\I m (vars.map (LEnv.get e')) h'') Q) (vars.map (λ v=>(v,f v))++aS.map (λ k=>(k,e.get k))) h'
def ACode.after:ACode->Nat->Option ACode
 | .seq a b,l=>match a.after l with
  | some r=>some (.seq r b)
  | none=>b.after l
 | .seqj k v a b,l=>match a.after l with
  | some r=>some (.seqj k v r b)
  | none=>b.after l
 | .label l',l=>if l' == l then some .skip else none
 | _,_=>none
def ACode.label1:ACode->Option Nat
 | .seq a b|.seqj _ _ a b=>match a.label1 with
  | some l=>some l
  | none=>b.label1
 | .label l=>some l
 | _=>none
end Go.Am
namespace Go.Am
open Go
variable [ck]
variable {P:Program}{nt:Nat}
def D.ofVc:Value->Option D
 | .bool b=>some (.bool b)
 | .int k n=>some (.int k n)
 | .string s=>some (.str s)
 | .slice none 0 0=>some .nil
 | .nilFunc=>some .nilfn
 | .map none=>some .nilmap
 | .pointer none=>some .nilp
 | _=>none
def ofVs:List Value->Option (List D)
 | []=>some []
 | v::r=>(D.ofVc v).bind λ d=>(ofVs r).map (d :: ·)
def D.ofV:Value->Option D
 | .agg cs=>(ofVs cs.toList).map .agg
 | v=>D.ofVc v
theorem Kr {v:Value}{d:D}(h:D.ofVc v=some d) (c:Ctx):aA c d v/\d.vone=true:=by
 unfold D.ofVc at h;split at h<;>simp at h<;>subst h<;>exact⟨by constructor,rfl⟩
theorem Kq {vs:List Value}{ds:List D}(h:ofVs vs=some ds) (c:Ctx):ds.length=vs.length/\∀(i:Nat) (d:D),ds[i]?=some d->d.vone=true/\aA c d (vs.getD i Go.undef):=by
 induction vs generalizing ds with
 | nil=>grind [ofVs]
 | cons v r E =>
  simp only[ofVs]at h
  cases u:D.ofVc v with
  | none=>simp[u]at h
  | some d =>
   cases hr:ofVs r with
   | none=>simp[u,hr]at h
   | some G =>
    simp[u,hr]at h;subst h;obtain⟨h1,h2⟩:=E hr;refine⟨by simp[h1],λ i d' hd=>?_⟩;grind [Kr]
theorem aO (vs:Array Value) (i:Nat):vs.toList.getD i Go.undef=vs.getD i Go.undef:=by
 by_cases h:i<vs.size
 ·simp[Array.getD,h,List.getD]
 grind
theorem gP {v:Value}{d:D}(h:D.ofV v=some d) (c:Ctx):aA c d v:=by
 unfold D.ofV at h;split at h
 ·rename_i cs
  cases hc:ofVs cs.toList with
  | none=>simp[hc]at h
  | some ds =>
   simp[hc]at h;subst h;obtain⟨h1,h2⟩:=Kq hc c;exact .agg ds cs (by simpa using h1.symm) (λ i d hd=>D.cu (h2 i d hd).1) (λ i d hd=>by grind [aO])
 ·exact(Kr h c).1
theorem gz {v:Value}{d:D}(h:D.ofV v=some d):aD d:=by
 intro x hx;unfold D.ofV at h;split at h
 ·rename_i cs
  cases hc:ofVs cs.toList with
  | none=>simp[hc]at h
  | some ds =>
   simp[hc]at h;subst h;obtain⟨i,hi⟩:=db hx;exact D.cu ((Kq hc ⟨λ _=>none,⟨λ _=>False,0,[]⟩,λ _=>.free, #[]⟩).2 i x hi).1
 ·have:=(Kr h ⟨λ _=>none,⟨λ _=>False,0,[]⟩,λ _=>.free, #[]⟩).2;cases d<;>simp_all [D.cells,D.vone,D.one]
def cArg:Operand->Option Arg
 | .tmp i=>some (.t i)
 | .const v=>(D.ofV v).map .c
 | .func f=>some (.c (.fn f [] []))
 | .global g=>match ck.tab g with
  | some vs=>(ofVs vs.toList).map λ ds=>.c (.vp (.agg ds) 0)
  | none=>none
theorem aH {x:Operand}{y:Arg}(h:cArg x=some y){c:Ctx}{e:LEnv}{a:Act}(s:oe c nt e.get a):aA c (y.get e) (a.eval x):=by
 cases x with
 | tmp i=>simp[cArg]at h;subst h;exact s.rel i
 | const v =>
  simp only[cArg]at h
  cases u:D.ofV v with
  | none=>simp[u]at h
  | some d=>simp[u]at h;subst h;exact gP u c
 | func f=>simp[cArg]at h;subst h;exact .fn f [] [] #[] #[] rfl rfl (by simp) (by simp)
 | global g =>
  simp only[cArg]at h;split at h
  ·rename_i vs ht
   cases u:ofVs vs.toList with
   | none=>simp[u]at h
   | some ds =>
    simp[u]at h;subst h;obtain⟨h1,h2,h3⟩:=s.glob g _ ht;obtain⟨H,G⟩:=Kq u c
    have hk:∀(k:Nat) (d:D),(D.agg ds).cells[k]?=some d->k<vs.size:=by
     grind [D.cells]
    have:=aA.vp (c:=c) (.agg ds) 0 g 0 (λ k=>vs.getD k Go.undef) (λ k d hd=>D.cu (G k d hd).1) (λ k d hd=>by
     have E:=hk k d hd;rw[Nat.zero_add]
     exact h1 k _ (by simp[Array.getD,E])) h2 h3 (λ k d hd=>by rw[<- aO];exact(G k d hd).2)
    exact this
  ·cases h
theorem LEnv.bu (e:LEnv) (dst:Option Nat) (d:D):(e.put dst d).get=Env.put e.get dst d:=by
 cases dst with
 | none=>rfl
 | some j=>funext i;simp[LEnv.put,LEnv.get,Env.put,ak]
def gK (P:Program) (nt:Nat) (o:Oper) (op:AOp):Prop :=
 ∀(K:HKq) (e:LEnv) (h:Heap),vcOp P op K e h->MR P nt o (λ t' h'=>∃d,t'=(e.put o.dst d).get/\K d h') e.get h
theorem gK.pure {o:Oper}{op:AOp}(hd:∀i,o.dst=some i->i<nt)
  (hx:∀(K:HKq) (e:LEnv) (c:Ctx) (w:World) (a:Act),vcOp P op K e c.h->c.hp=w.heap->au c->oe c nt e.get a ->
   ∃v d,(execOp a.eval o).run P w=.ok (.value v) w/\aA c d v/\K d c.h):gK P nt o op:=by
 intro K e h G E r c w a Q H hp hr hs;subst H;obtain⟨v,d,u,hrel,hk⟩:=hx K e c w a G hp hr hs;refine kx E u ?_;exact Fin.here rfl hp hr (hs.put hd hrel) ⟨d,by rw[LEnv.bu],hk⟩
theorem gK.unit {o:Oper}{op:AOp}(hx:∀(K:HKq) (e:LEnv) (c:Ctx) (w:World) (a:Act),vcOp P op K e c.h->c.hp=w.heap->au c->oe c nt e.get a ->
   ∃v w' ρ h' d,(execOp a.eval o).run P w=.ok v w'/\(v=.skip/\o.dst=none\/∃x,v=.value x/\(∀i,o.dst=some i->i<nt)/\aA ⟨ρ,c.X,h',w'.heap⟩ d x) /\
    c.le ⟨ρ,c.X,h',w'.heap⟩/\au ⟨ρ,c.X,h',w'.heap⟩/\WS w w'/\K d h'):gK P nt o op:=by
 intro K e h O I r c w a Q S hp hr hs;subst S;obtain⟨v,w',ρ,h',d,E,hrel,hle,G,u,hk⟩:=hx K e c w a O hp hr hs;refine kx I E ?_;rcases hrel with⟨rfl,H⟩|⟨x,rfl,hd,hx⟩
 ·refine⟨ρ,(e.put o.dst d).get,h',hle,G,u,?_,d,rfl,hk⟩;simp only[H,Act.put];exact hs.mono hle
 ·exact⟨ρ,_,h',hle,G,u,(hs.mono hle).put hd hx,d,by rw[LEnv.bu],hk⟩
theorem YW {o:Oper}{x:Operand}{y:Arg}(ho:o.op=.move x\/o.op=.assign x) (hx:cArg x=some y) (hd:∀i,o.dst=some i->i<nt):gK P nt o (.mov y):=by
 refine gK.pure hd λ K e c w a u _ _ hs=>⟨a.eval x,y.get e,?_,aH hx hs,u⟩
 unfold execOp;rcases ho with ho|ho<;>simp[ho]
theorem ZP {o:Oper}{x y z:Operand}{x' y' z':Arg}(ho:o.op=.pick x y z) (hx:cArg x=some x') (hy:cArg y=some y') (hz:cArg z=some z')
  (hd:∀i,o.dst=some i->i<nt):gK P nt o (.pick x' y' z'):=by
 refine gK.pure hd λ K e c w a u _ _ hs=>?_
 have rx:=aH hx hs;have I:=aH hy hs;have H:=aH hz hs;simp only[vcOp]at u;cases hg:x'.get e<;>simp only[hg]at u rx<;>try exact u.elim
 rename_i t;generalize E:a.eval x=G at rx;cases rx;refine⟨if t then a.eval y else a.eval z,_,?_,?_,u⟩
 ·simp[execOp,ho,E,asBool]
 grind
theorem abV {o:Oper}{op:BinOp}{t t':TypeId}{x y:Operand}{x' y':Arg}(ho:o.op=.binOp op t x y t') (hx:cArg x=some x') (hy:cArg y=some y')
  (hd:∀i,o.dst=some i->i<nt):gK P nt o (.bin op x' y'):=by
 refine gK.pure hd λ K e c w a u _ _ hs=>?_
 have rx:=aH hx hs;have O:=aH hy hs;simp only[vcOp]at u;generalize T:x'.get e=U at u rx;generalize S:y'.get e=Q at u O;generalize G:a.eval x=W at rx;generalize E:a.eval y=V at O;unfold vbin at u;cases U<;>try exact u.elim
 ·rename_i k m;cases Q<;>try exact u.elim
  rename_i k' n;cases rx;cases O;cases op<;>simp only at u
  case add=>obtain⟨rfl,u⟩:=u;refine⟨_,_,?_,.int _ _,u⟩;simp[execOp,ho,G,E,eqGuard,binOp,Op.intArith]
  case sub=>obtain⟨rfl,u⟩:=u;refine⟨_,_,?_,.int _ _,u⟩;simp[execOp,ho,G,E,eqGuard,binOp,Op.intArith]
  case mul=>obtain⟨rfl,u⟩:=u;refine⟨_,_,?_,.int _ _,u⟩;simp[execOp,ho,G,E,eqGuard,binOp,Op.intArith]
  case quo=>obtain⟨rfl,hne,u⟩:=u;refine⟨_,_,?_,.int _ _,u⟩;simp[execOp,ho,G,E,eqGuard,binOp,Op.intDiv,hne]
  case rem=>obtain⟨rfl,hne,u⟩:=u;refine⟨_,_,?_,.int _ _,u⟩;simp[execOp,ho,G,E,eqGuard,binOp,Op.intDiv,hne]
  case and=>obtain⟨rfl,u⟩:=u;refine⟨_,_,?_,.int _ _,u⟩;simp[execOp,ho,G,E,eqGuard,binOp,Op.intBits,ibits]
  case or=>obtain⟨rfl,u⟩:=u;refine⟨_,_,?_,.int _ _,u⟩;simp[execOp,ho,G,E,eqGuard,binOp,Op.intBits,ibits]
  case xor=>obtain⟨rfl,u⟩:=u;refine⟨_,_,?_,.int _ _,u⟩;simp[execOp,ho,G,E,eqGuard,binOp,Op.intBits,ibits]
  case andNot=>obtain⟨rfl,u⟩:=u;refine⟨_,_,?_,.int _ _,u⟩;simp[execOp,ho,G,E,eqGuard,binOp,Op.intBits,ibits]
  case shl=>obtain⟨H,u⟩:=u;refine⟨_,_,?_,.int _ _,u⟩;simp[execOp,ho,G,E,eqGuard,binOp,Op.shift,Kz,show ¬n<0 by omega]
  case shr=>obtain⟨H,u⟩:=u;refine⟨_,_,?_,.int _ _,u⟩;simp[execOp,ho,G,E,eqGuard,binOp,Op.shift,Ky,show ¬n<0 by omega]
  all_goals
   obtain⟨rfl,u⟩:=u;refine⟨_,_,?_,.bool _,u⟩;simp[execOp,ho,G,E,eqGuard,binOp,Op.intCmp]
   try (rw[Bool.eq_iff_iff];simp)
 ·rename_i s;cases Q<;>try exact u.elim
  rename_i s';cases rx;cases O;cases op<;>simp only at u
  case add =>
   obtain⟨H,u⟩:=u;refine⟨_,_,?_,.str _,u⟩
   have I:¬((s.size+s'.size:Nat):Int)>IntKind.i64.max:=by
    have:IntKind.i64.max=9223372036854775807:=by decide
    omega
   simp only[execOp,ho,G,E,eqGuard,binOp,Op.stringOp,if_neg I];rfl
  case eql=>refine⟨_,_,?_,.bool _,u⟩;simp[execOp,ho,G,E,eqGuard,binOp,Op.stringOp]
  case neq=>refine⟨_,_,?_,.bool _,u⟩;simp[execOp,ho,G,E,eqGuard,binOp,Op.stringOp]
  all_goals exact u.elim
theorem GS {t el:TypeId}(hu:P.underlying t=some (.slice el)) (p:Option Addr) (l k l' k':Nat) (w:World):∀n,(Op.equalIn (n+1) t (.slice p l k) (.slice none l' k')).run P w=.ok p.isNone w:=by
 intro n;cases p<;>simp[Op.equalIn,Sem.run_bind,Result.andThen,run_underlying hu]
theorem ZQ (neg:Bool){o:Oper}{t t' el:TypeId}{x y:Operand}{x':Arg}(ho:o.op=.binOp (if neg then .neq else .eql) t x y t') (hx:cArg x=some x') (hy:cArg y=some (.c .nil))
  (hd:∀i,o.dst=some i->i<nt) (hu:P.underlying t=some (.slice el)):gK P nt o (.nilq neg x'):=by
 refine gK.pure hd λ K e c w a G _ _ hs=>?_
 have rx:=aH hx hs;have H:=aH hy hs;simp only[vcOp]at G;generalize O:x'.get e=Q at G rx;generalize E:a.eval x=T at rx;generalize u:a.eval y=S at H;simp only[Arg.get]at H;cases H;cases Q<;>try exact G.elim
 ·cases rx;refine⟨_,_,?_,.bool _,G⟩;have he:=GS (P:=P) hu none 0 0 0 0 w 9999;cases neg
  ·simp only[execOp,ho,E,u,if_false,dj,eqGuard,binOp,Op.equal,Op.maxDepth];simp[he]
  ·simp only[execOp,ho,E,u,if_true,eqGuard,binOp,Op.equal,Op.maxDepth];simp[he]
 ·rename_i xs
  cases xs with
  | nil =>
   generalize hl:([]:List D)=l at rx
   cases rx with
   | sl _ b I cap esz f hne=>exact absurd hl.symm hne
   | yA p cap hm =>
    have he:=GS (P:=P) hu p 0 cap 0 0 w 9999;refine⟨_,.bool (p.isNone != neg),?_,.bool _,by cases (p.isNone != neg);exact G.2;exact G.1⟩;cases neg
    ·simp only[execOp,ho,E,u,if_false,dj,eqGuard,binOp,Op.equal,Op.maxDepth];simp[he]
    ·simp only[execOp,ho,E,u,if_true,eqGuard,binOp,Op.equal,Op.maxDepth];simp[he]
  | cons d r =>
   simp only at G;generalize hl:d::r=l at rx
   cases rx with
   | yA p cap hm=>cases hl
   | sl _ b I cap esz f hne hc hm he hlen hone hcell hown hrel =>
    refine⟨_,_,?_,.bool _,G⟩;have he:=GS (P:=P) hu (some ⟨b,I,none⟩) l.length cap 0 0 w 9999;cases neg
    ·simp only[execOp,ho,E,u,if_false,dj,eqGuard,binOp,Op.equal,Op.maxDepth];simp[he]
    ·simp only[execOp,ho,E,u,if_true,eqGuard,binOp,Op.equal,Op.maxDepth];simp[he]
end Go.Am
namespace Go.Am
open Go
variable [ck]
variable {P:Program}{nt:Nat}
def Mem (c:Ctx) (b o:Nat) (cs:List D):Prop :=
 ∀(k:Nat) (d:D),cs[k]?=some d->d.one=true/\∃v,cellOf c.hp b (o+k)=some v/\aA c d v
theorem UL {c:Ctx}{d:D}{j:Nat}{v:Value}(h:aA c (.vp d j) v):∃b o,v=.pointer (some ⟨b,o+j,none⟩)/\Mem c b o d.cells:=by
 cases h with
 | vp e j b o f hone hcell hown hb hrel=>exact⟨b,o,rfl,λ k d hd=>⟨hone k d hd,f k,hcell k d hd,hrel k d hd⟩⟩
theorem jY {hp:Array Obj}{g:Nat}{cur:Array Value}{ty:TypeId}{fr:Nat×Nat}(hg:hp[g]?=some (.cells cur ty fr)){k:Nat}(hk:k<cur.size) :
  cellOf hp g k=some (cur.getD k Go.undef):=by
 simp[cellOf,hg,Array.getD,hk]
theorem Nm {c:Ctx}(hr:au c){n i j:Nat}{d:D}(hn:c.h n=.box d){v:Value}(h:aA c (.ptr n i j) v) :
  ∃g,v=.pointer (some ⟨g,j,none⟩)/\i=0/\c.ρ n=some g/\Mem c g 0 d.cells:=by
 have hs:=hr.slot n;rw[hn]at hs;obtain⟨g,cur,ty,hρ,hg,hsz,E⟩:=hs
 cases h with
 | ptrDead _ _ _ _ _ hd=>rw[hn]at hd;cases hd
 | ptrRow _ _ _ H esz els u _ _=>rw[hn]at u;cases u
 | ptrBox _ _ H v' hb G =>
  grind [jY,Mem]
theorem iv {els:List D}{i j:Nat}{e d:D}(he:els[i]?=some e) (hd:e.cells[j]?=some d):aP els i j=some d:=by
 simp[aP,he,hd]
theorem S7 {els:List D}{esz i j:Nat}{e d:D}(hlen:∀e∈els,e.cells.length=esz) (he:els[i]?=some e) (hd:e.cells[j]?=some d):i*esz+j<els.length*esz:=by
 have hi:=(aq.1 he).1;have u:=(aq.1 hd).1;rw[hlen e (aK he)]at u
 calc i*esz+j<i*esz+esz:=by omega
  _=(i+1)*esz:=by rw[Nat.add_mul];omega
  _<=els.length*esz:=Nat.mul_le_mul_right _ hi
theorem Ra {c:Ctx}(hr:au c){n esz:Nat}{els:List D}(hn:(c.h n).row=some (esz,els)) :
  0<esz/\(∀e∈els,e.cells.length=esz)/\pe els/\((c.ρ n=none/\els=[])\/∃(g:Nat) (cur:Array Value) (ty:TypeId) (fr:Nat×Nat),c.ρ n=some g/\c.hp[g]?=some (.cells cur ty fr) /\
   els.length*esz<=cur.size/\∀i j d,aP els i j=some d->aA c d (cur.getD (i*esz+j) Go.undef)):=by
 have hs:=hr.slot n
 cases hx:c.h n with
 | arr e l =>
  rw[hx]at hs hn;simp[Slot.row]at hn;obtain⟨rfl,rfl⟩:=hn;obtain⟨h1,h2,h3,h4⟩:=hs;grind
 | frz e l =>
  rw[hx]at hs hn;simp[Slot.row]at hn;obtain⟨rfl,rfl⟩:=hn;obtain⟨h1,h2,h3,h4⟩:=hs;grind
 | _=>grind [Slot.row]
theorem mem_row {c:Ctx}(hr:au c){n i j esz:Nat}{els:List D}{d:D}(hn:(c.h n).row=some (esz,els)) (hd:els[i]?=some d){v:Value}(h:aA c (.ptr n i j) v) :
  ∃g,v=.pointer (some ⟨g,i*esz+j,none⟩)/\c.ρ n=some g/\Mem c g (i*esz) d.cells:=by
 obtain⟨_,hlen,hone,hm⟩:=Ra hr hn
 cases h with
 | ptrDead _ _ _ _ _ hx=>grind [Slot.row]
 | ptrBox _ _ Q v' hb _=>grind [Slot.row]
 | ptrRow _ _ _ Q H I u E hi =>
  rw[hn]at u;simp at u;obtain⟨rfl,rfl⟩:=u;rcases hm with⟨hρ,_⟩|⟨g,cur,ty,fr,hρ,hg,hsz,G⟩
  ·rw[hρ]at E;cases E
  ·rw[hρ]at E;cases E;refine⟨_,rfl,hρ,λ k x hx=>?_⟩;have O:=S7 hlen hd hx;exact⟨hone i k x (iv hd hx),_,jY hg (by omega),G i k x (iv hd hx)⟩
structure TyIs (P:Program) (t:TypeId) (size:Nat) (agg:Bool):Prop where
 info:(P.info? t).map (·.size)=some size
 und:∃d,P.underlying t=some d/\agg=(match d with|.struct _=>true|.array _ _=>true|_=>false)
theorem run_typeInfo {t:TypeId}{i:TypeInfo}(h:P.info? t=some i) (w:World):(typeInfo t).run P w=.ok i w:=by
 unfold typeInfo program;simp[Sem.run,h]
theorem run_sizeOf {t:TypeId}{size:Nat}(h:(P.info? t).map (·.size)=some size) (w:World):(sizeOf t).run P w=.ok size w:=by
 cases hi:P.info? t with
 | none=>simp[hi]at h
 | some i =>
  simp[hi]at h;unfold sizeOf;simp[run_typeInfo hi,h]
theorem Mn {t:TypeId}{size:Nat}{agg:Bool}(h:TyIs P t size agg) (w:World):(isAgg t).run P w=.ok agg w:=by
 obtain⟨d,hd,ha⟩:=h.und;unfold isAgg;simp only[Sem.run_bind,run_underlying hd];subst ha;cases d<;>rfl
theorem L2 {w:World}{b o:Nat}{v:Value}(h:cellOf w.heap b o=some v):(load ⟨b,o,none⟩).run P w=.ok v w:=by
 grind [Al,load,Sem.run]
theorem jj {α:Type}(cs:List α) (off size i:Nat):((cs.drop off).take size)[i]?=if i<size then cs[off+i]? else none:=by
 grind
theorem xu {c:Ctx}{w:World}(hp:c.hp=w.heap){b o j size:Nat}{agg:Bool}{cs:List D}(hm:Mem c b o cs){t:TypeId}(ht:TyIs P t size agg){K:D->Prop}
  (hv:vpart cs j size agg K):∃v d,(loadVar t ⟨b,o+j,none⟩).run P w=.ok v w/\aA c d v/\K d:=by
 unfold vpart at hv;unfold loadVar;simp only[Sem.run_bind,Mn ht]
 cases agg with
 | true =>
  simp only[if_true]at hv;obtain⟨hlen,hk⟩:=hv
  let vs:List Value:=(List.range size).map λ k=>(cellOf w.heap b (o+(j+k))).getD Go.undef
  have G:vs.length=size:=by simp[vs]
  have H:∀k,k<size->∃d,cs[j+k]?=some d/\vs[k]?=some ((cellOf w.heap b (o+(j+k))).getD Go.undef):=by
   intro k hk;exact⟨cs[j+k],by grind,by simp[vs,hk]⟩
  have hcell:∀(k:Nat) (v:Value),vs[k]?=some v->w.cell? ((⟨b,o+j,none⟩:Addr).add k)=some v:=by
   grind [Addr.add_lit,Al,Mem]
  have E:=run_loadCells_list (P:=P) (w:=w) ⟨b,o+j,none⟩ vs hcell;rw[G]at E;refine⟨.agg vs.toArray,.agg ((cs.drop j).take size),?_,?_,hk⟩
  ·simp[Result.andThen,run_sizeOf ht.info,E]
  ·refine .agg _ _ (by simp[G];omega) ?_ ?_
   ·intro i d hd;rw[jj]at hd;split at hd
    ·exact(hm _ _ hd).1
    ·cases hd
   ·intro i d hd;rw[jj]at hd;split at hd
    ·rename_i hi;obtain⟨d',O,I⟩:=H i hi;obtain⟨_,u,hu,hrel⟩:=hm (j+i) d hd;rw[hp]at hu
     have:vs.toArray.getD i Go.undef=u:=by
      rw[<- aO];simp[List.getD,I,hu]
     grind
    ·cases hd
 | false =>
  grind [Result.andThen,L2,Mem]
end Go.Am
namespace Go.Am
open Go
variable [ck]
variable {P:Program}{nt:Nat}
theorem gO {c:Ctx}{k:IntKind}{n:Int}{v:Value}(h:aA c (.int k n) v):v=.int k n:=by cases h;rfl
theorem zL {c:Ctx}{b:Bool}{v:Value}(h:aA c (.bool b) v):v=.bool b:=by cases h;rfl
theorem E2 {c:Ctx}{s:ByteArray}{v:Value}(h:aA c (.str s) v):v=.string s:=by cases h;rfl
theorem adl {o:Oper}{op:UnOp}{t:TypeId}{x:Operand}{x':Arg}(ho:o.op=.unOp op t x) (hx:cArg x=some x') (hd:∀i,o.dst=some i->i<nt):gK P nt o (.un op x'):=by
 refine gK.pure hd λ K e c w a u _ _ hs=>?_
 have rx:=aH hx hs;simp only[vcOp]at u;generalize G:x'.get e=I at u rx;generalize E:a.eval x=H at rx;unfold vun at u;split at u
 ·cases rx;exact⟨_,_,by simp only[execOp,ho,E,Op.unary,Op.intArith];rfl,.int _ _,u⟩
 ·cases rx;exact⟨_,_,by simp only[execOp,ho,E,Op.unary,Op.intBits];rfl,.int _ _,u⟩
 ·cases rx;exact⟨_,_,by simp only[execOp,ho,E,Op.unary];rfl,.bool _,u⟩
 ·exact u.elim
theorem ZV {o:Oper}{src dst:TypeId}{x:Operand}{x':Arg}{ds:TypeDesc}{k:IntKind}(ho:o.op=.convert src dst x) (hx:cArg x=some x') (hd:∀i,o.dst=some i->i<nt)
  (hsrc:P.underlying src=some ds) (hdst:P.underlying dst=some (.int k)):gK P nt o (.conv k x'):=by
 refine gK.pure hd λ K e c w a u _ _ hs=>?_
 have rx:=aH hx hs;simp only[vcOp]at u;generalize G:x'.get e=I at u rx;generalize E:a.eval x=H at rx;unfold vint at u;split at u
 ·cases rx;refine⟨_,_,?_,.int _ _,u⟩;simp[execOp,ho,E,convert,Sem.run_bind,run_underlying hsrc,run_underlying hdst,Conv.intToInt,Result.andThen]
 ·exact u.elim
theorem abP {o:Oper}{x:Operand}{x':Arg}{i:Nat}(ho:o.op=.extract x i) (hx:cArg x=some x') (hd:∀i,o.dst=some i->i<nt):gK P nt o (.ext x' i):=by
 refine gK.pure hd λ K e c w a E _ _ hs=>?_
 have rx:=aH hx hs;simp only[vcOp]at E;generalize H:x'.get e=I at E rx;generalize G:a.eval x=O at rx;cases I<;>try exact E.elim
 rename_i ds
 cases u:ds[i]? with
 | none=>simp[u]at E
 | some d =>
  simp only[u]at E
  cases rx with
  | tup _ vs hsz hrel =>
   have hi:i<vs.size:=by grind
   refine⟨vs.getD i Go.undef,d,?_,hrel i d u,E⟩;simp[execOp,ho,G,Instr.extract,hi,Array.getD]
theorem E0 {c:Ctx}{w:World}{cs:List D}{vs:Array Value}(hsz:vs.size=cs.length) (hone:∀(i:Nat) (d:D),cs[i]?=some d->d.one=true)
  (hrel:∀(i:Nat) (d:D),cs[i]?=some d->aA c d (vs.getD i Go.undef)) {t:TypeId}{off size:Nat}{agg:Bool}(ht:TyIs P t size agg) {K:D->Prop}
  (hv:vpart cs off size agg K):∃v d,(part t vs off).run P w=.ok v w/\aA c d v/\K d:=by
 unfold vpart at hv;unfold part;simp only[Sem.run_bind,Mn ht]
 cases agg with
 | true =>
  simp only[if_true]at hv;obtain⟨hlen,hk⟩:=hv;refine⟨.agg (vs.extract off (off+size)),.agg ((cs.drop off).take size),by simp[Result.andThen,run_sizeOf ht.info],?_,hk⟩;refine .agg _ _ (by simp;omega) ?_ ?_
  ·grind
  ·intro i d hd;rw[jj]at hd;split at hd
   ·rename_i hi;have h1:=hrel _ _ hd;have u:=(aq.1 hd).1
    have:(vs.extract off (off+size)).getD i Go.undef=vs.getD (off+i) Go.undef:=by
     simp[Array.getD,show i<min (off+size) vs.size-off by omega,show off+i<vs.size by omega]
    rw[this];exact h1
   ·cases hd
 | false =>
  simp only[dj,if_false]at hv
  cases hd:cs[off]? with
  | none=>simp[hd]at hv
  | some d =>
   simp only[hd]at hv;have u:=(aq.1 hd).1;refine⟨vs.getD off Go.undef,d,?_,hrel _ _ hd,hv⟩;simp[Result.andThen,show off<vs.size by omega,Array.getD]
theorem abO {o:Oper}{t:TypeId}{x:Operand}{x':Arg}{f:Nat}{fs:Array Field}{fd:Field}{size:Nat}{agg:Bool}(ho:o.op=.field t x f) (hx:cArg x=some x')
  (hd:∀i,o.dst=some i->i<nt) (hu:P.underlying t=some (.struct fs)) (hf:fs[f]?=some fd) (ht:TyIs P fd.type size agg):gK P nt o (.fld x' fd.offset size agg):=by
 refine gK.pure hd λ K e c w a u _ _ hs=>?_
 have rx:=aH hx hs;simp only[vcOp]at u;generalize G:x'.get e=H at u rx;generalize E:a.eval x=I at rx;cases H<;>try exact u.elim
 rename_i cs
 cases rx with
 | agg _ vs hsz hone hrel =>
  obtain⟨v,d,h1,h2,h3⟩:=E0 (P:=P) (w:=w) hsz hone hrel ht u;refine⟨v,d,?_,h2,h3⟩;simp[execOp,ho,E,Instr.field,Sem.run_bind,run_underlying hu,hf,asAgg,Result.andThen,h1]
theorem ado {o:Oper}{t:TypeId}{x:Operand}{x':Arg}{size:Nat}{agg:Bool}(ho:o.op=.load t x) (hx:cArg x=some x')
  (hd:∀i,o.dst=some i->i<nt) (ht:TyIs P t size agg):gK P nt o (.ld x' size agg):=by
 refine gK.pure hd λ K e c w a u hp hr hs=>?_
 have rx:=aH hx hs;simp only[vcOp]at u
 have fin:∀(b G j:Nat) (cs:List D),a.eval x=.pointer (some ⟨b,G+j,none⟩)->Mem c b G cs->vpart cs j size agg (K · c.h) ->
   ∃v d,(execOp a.eval o).run P w=.ok (.value v) w/\aA c d v/\K d c.h:=by
  intro b G j cs he hm u;obtain⟨v,d,h1,h2,h3⟩:=xu (P:=P) hp hm ht u;refine⟨v,d,?_,h2,h3⟩;simp[execOp,ho,he,Instr.loadAt,Instr.sureAddr,Result.andThen,h1]
 generalize H:x'.get e=I at u rx;cases I<;>try exact u.elim
 ·rename_i n i j;cases hn:c.h n<;>simp only[hn]at u<;>try exact u.elim
  ·grind [Nm]
  ·obtain⟨hi,u⟩:=u;rename_i esz els;have E:els[i]?=some els[i]:=by simp[hi]
   obtain⟨g,he,_,hm⟩:=mem_row hr (by rw[hn];rfl) E rx;grind
  ·obtain⟨hi,u⟩:=u;rename_i esz els;have E:els[i]?=some els[i]:=by simp[hi]
   obtain⟨g,he,_,hm⟩:=mem_row hr (by rw[hn];rfl) E rx;grind
 grind [UL]
theorem UU {c:Ctx}{n i j:Nat}{v:Value}(hl:(c.h n).live=true) (h:aA c (.ptr n i j) v) :
  ∃b q,v=.pointer (some ⟨b,q+j,none⟩)/\∀k,aA c (.ptr n i k) (.pointer (some ⟨b,q+k,none⟩)):=by
 cases h with
 | ptrDead _ _ _ _ _ hd=>rw[hd]at hl;cases hl
 | ptrBox _ _ g d hb hρ=>exact⟨g,0,by simp,λ k=>by rw[Nat.zero_add];exact .ptrBox n k g d hb hρ⟩
 | ptrRow _ _ _ g esz els u hρ hi=>exact⟨g,i*esz,rfl,λ k=>.ptrRow n i k g esz els u hρ hi⟩
theorem Of {c:Ctx}{n i j:Nat}{v:Value}(hl:(c.h n).used=true) (h:aA c (.ptr n i j) v) :
  ∃b q,v=.pointer (some ⟨b,q,none⟩)/\∀k,aA c (.ptr n i (j+k)) (.pointer (some ⟨b,q+k,none⟩)):=by
 cases h with
 | ptrDead _ _ _ b o hd=>exact⟨b,o,rfl,λ k=>.ptrDead n i (j+k) b (o+k) hd⟩
 | ptrBox _ _ g d hb hρ=>exact⟨g,j,rfl,λ k=>.ptrBox n (j+k) g d hb hρ⟩
 | ptrRow _ _ _ g esz els u hρ hi=>exact⟨g,i*esz+j,rfl,λ k=>by rw[Nat.add_assoc];exact .ptrRow n i (j+k) g esz els u hρ hi⟩
theorem M3 {c:Ctx}{d:D}{j:Nat}{v:Value}(h:aA c (.vp d j) v):∃b q,v=.pointer (some ⟨b,q+j,none⟩)/\∀k,aA c (.vp d k) (.pointer (some ⟨b,q+k,none⟩)):=by
 cases h with
 | vp e j b o f hone hcell hown hb hrel=>exact⟨b,o,rfl,λ k=>.vp d k b o f hone hcell hown hb hrel⟩
theorem ZU {o:Oper}{t:TypeId}{x:Operand}{x':Arg}{f:Nat}{fs:Array Field}{fd:Field}{size:Nat}(ho:o.op=.fieldAddr t x f) (hx:cArg x=some x')
  (hd:∀i,o.dst=some i->i<nt) (hu:P.underlying t=some (.struct fs)) (hf:fs[f]?=some fd) (ht:(P.info? fd.type).map (·.size)=some size) (hne:size≠0):gK P nt o (.fadd x' fd.offset):=by
 refine gK.pure hd λ K e c w a u hp hr hs=>?_
 have rx:=aH hx hs;simp only[vcOp]at u
 have fin:∀(b q:Nat),a.eval x=.pointer (some ⟨b,q,none⟩)->(execOp a.eval o).run P w=.ok (.value (.pointer (some ⟨b,q+fd.offset,none⟩))) w:=by
  intro b q he;simp[execOp,ho,he,Instr.fieldAt,Instr.sureAddr,Sem.run_bind,Result.andThen,run_underlying hu,hf,fieldPlace,run_sizeOf ht,hne,Addr.add_lit,Nat.add_assoc]
 grind [Of,M3]
theorem ZR {o:Oper}{x:Operand}{x':Arg}(ho:o.op=.nilCheck x) (hx:cArg x=some x') (hd:∀i,o.dst=some i->i<nt):gK P nt o (.fadd x' 0):=by
 refine gK.pure hd λ K e c w a u hp hr hs=>?_
 have rx:=aH hx hs;simp only[vcOp]at u
 have fin:∀(b q:Nat),a.eval x=.pointer (some ⟨b,q,none⟩)->(execOp a.eval o).run P w=.ok (.value (.pointer (some ⟨b,q+0,none⟩))) w:=by
  intro b q he;simp[execOp,ho,he]
 grind [Of,M3]
theorem WY {o:Oper}{t elem:TypeId}{x i:Operand}{x' i':Arg}{len esz:Nat}(ho:o.op=.indexAddr t x i) (hx:cArg x=some x') (hi:cArg i=some i')
  (hd:∀i,o.dst=some i->i<nt) (hu:P.underlying t=some (.array len elem)) (ht:(P.info? elem).map (·.size)=some esz):gK P nt o (.iadda x' i' len esz):=by
 refine gK.pure hd λ K e c w a u hp hr hs=>?_
 have rx:=aH hx hs;have E:=aH hi hs;simp only[vcOp]at u;generalize H:i'.get e=O at u E;generalize G:a.eval i=I at E;unfold vint at u;split at u
 case h_2=>exact u.elim
 rename_i k n;cases E;obtain⟨h0,h1,u⟩:=u
 have fin:∀(b q j:Nat),a.eval x=.pointer (some ⟨b,q+j,none⟩)->(execOp a.eval o).run P w=.ok (.value (.pointer (some ⟨b,q+(j+n.toNat*esz),none⟩))) w:=by
  intro b q j he;have hc:(0<=n/\n<(len:Int)):=⟨h0,h1⟩;simp[execOp,ho,he,G,Instr.indexAt,Instr.sureAddr,asIntOf,Sem.run_bind,Result.andThen,run_underlying hu,run_sizeOf ht,Addr.add_lit,Nat.add_assoc,hc]
 grind [UU,M3]
theorem abE {c:Ctx}{xs:List D}{v:Value}(h:aA c (.sl xs) v){i:Nat}{d:D}(hd:xs[i]?=some d) :
  ∃b o cap,v=.slice (some ⟨b,o,none⟩) xs.length cap/\aA c (.vp d 0) (.pointer (some ⟨b,o+i*d.cells.length,none⟩)):=by
 cases h with
 | yA p cap hm=>simp at hd
 | sl _ b o cap esz f hne hc hm he hlen hone hcell hown hrel =>
  have hl:=hlen d (aK hd);refine⟨b,o,cap,rfl,?_⟩;rw[hl]
  have hb:b<c.hp.size:=by
   cases u:d.cells with
   | nil=>grind
   | cons y ys=>exact Hk (hcell i 0 y (iv hd (by simp[u])))
  refine aA.vp d 0 b (o+i*esz) (f i) (λ k x hx=>D.cu (hone i k x (iv hd hx))) (λ k x hx=>?_) hown hb (λ k x hx=>hrel i k x (iv hd hx));grind [iv]
theorem ZT {o:Oper}{t elem:TypeId}{x i:Operand}{x' i':Arg}{esz:Nat}(ho:o.op=.indexAddr t x i) (hx:cArg x=some x') (hi:cArg i=some i')
  (hd:∀i,o.dst=some i->i<nt) (hu:P.underlying t=some (.slice elem)) (ht:(P.info? elem).map (·.size)=some esz):gK P nt o (.iadd x' i' esz):=by
 refine gK.pure hd λ K e c w a E hp hr hs=>?_
 have rx:=aH hx hs;have H:=aH hi hs;simp only[vcOp]at E;generalize W:i'.get e=di at E H;generalize O:a.eval i=vi at H;unfold vint at E;split at E
 case h_2=>exact E.elim
 rename_i k n;cases H
 have fin:∀(b q len cap:Nat),0<=n->n<len->a.eval x=.slice (some ⟨b,q,none⟩) len cap->(execOp a.eval o).run P w=.ok (.value (.pointer (some ⟨b,q+n.toNat*esz,none⟩))) w:=by
  intro b q len cap h0 h1 he;have hc:(0<=n/\n<(len:Int)):=⟨h0,h1⟩;simp[execOp,ho,he,O,Instr.indexAt,asIntOf,Sem.run_bind,Result.andThen,run_underlying hu,run_sizeOf ht,Addr.add_lit,hc]
 generalize V:x'.get e=Z at E rx;cases Z<;>try exact E.elim
 ·rename_i xs;obtain⟨h0,h1,E⟩:=E;have Q:n.toNat<xs.length:=by omega
  have S:xs[n.toNat]?=some xs[n.toNat]:=by simp[Q]
  grind [abE]
 ·rename_i m off len;obtain⟨h0,h1,⟨els,G⟩,hk⟩:=E;generalize I:a.eval x=vx at rx
  cases rx with
  | msDead _ _ _ _ _ _ S=>grind [Slot.row]
  | msNil _ _ _ _ _=>exact absurd h1 (by omega)
  | msE _ _ _ _ _ _=>exact absurd h1 (by omega)
  | ms _ _ _ g T cap U cur ty fr u hρ hl hg hsz hc hm =>
   rw[G]at u;simp at u;obtain⟨rfl,rfl⟩:=u;refine⟨_,_,fin g _ _ _ h0 h1 I,?_,hk⟩;have:=aA.ptrRow (c:=c) m (off+n.toNat) 0 g esz els G hρ (by omega);grind
end Go.Am
namespace Go.Am
open Go
variable [ck]
variable {P:Program}{nt:Nat}
theorem Rb {c:Ctx}{d:D}{v:Value}(h:aA c d v) (h1:d.one=true):v.cells = #[v]/\v.oneCell'=true:=by
 cases h<;>first|exact⟨rfl,rfl⟩|(simp[D.one]at h1;done)
structure iF (c:Ctx) (ds:List D) (vs:List Value):Prop where
 len:vs.length=ds.length
 rel:∀(i:Nat) (d:D),ds[i]?=some d->d.one=true/\aA c d (vs.getD i Go.undef)
theorem dB {c:Ctx}{d:D}{v:Value}(h:aA c d v) (h1:aD d):iF c d.cells v.cells.toList:=by
 by_cases ha:d.one=true
 ·have:d.cells=[d]:=by cases d<;>simp_all [D.one,D.cells]
  obtain⟨u,_⟩:=Rb h ha;rw[this,u];refine⟨rfl,λ i x hx=>?_⟩;grind
 ·cases d with
  | agg cs =>
   cases h with
   | agg _ vs hsz hone hrel =>
    exact⟨by grind [Value.cells,D.cells],λ i x hx=>⟨hone i x hx,by rw[show Value.cells (.agg vs)=vs from rfl,aO];exact hrel i x hx⟩⟩
  | tup ds=>exact absurd (h1 (.tup ds) (by simp[D.cells])) (by simp[D.one])
  | undef=>exact absurd (h1 .undef (by simp[D.cells])) (by simp[D.one])
  | _=>simp[D.one]at ha
theorem iF.Ko {c:Ctx}{ds:List D}{vs:List Value}(h:iF c ds vs):∀v∈vs,v.oneCell'=true:=by
 intro v E;obtain⟨i,hi⟩:=db E;have u:i<ds.length:=by rw[<- h.len];grind
 obtain⟨h1,h2⟩:=h.rel i ds[i] (by simp[u]);have:vs.getD i Go.undef=v:=by simp[List.getD,hi]
 rw[this]at h2;exact(Rb h2 h1).2
theorem iF.mono {c c':Ctx}(hle:c.le c'){ds:List D}{vs:List Value}(h:iF c ds vs):iF c' ds vs :=
 ⟨h.len,λ i d hd=>⟨(h.rel i d hd).1,(h.rel i d hd).2.mono hle⟩⟩
theorem iF.append {c:Ctx}{ds es:List D}{vs us:List Value}(h:iF c ds vs) (k:iF c es us):iF c (ds++es) (vs++us):=by
 refine⟨by simp[h.len,k.len],λ i d hd=>?_⟩;by_cases hi:i<ds.length
 ·rw[List.getElem?_append_left hi]at hd;have:(vs++us).getD i Go.undef=vs.getD i Go.undef:=by simp[List.getD,List.getElem?_append_left (show i<vs.length by rw[h.len];exact hi)]
  rw[this];exact h.rel i d hd
 ·rw[List.getElem?_append_right (by omega)]at hd
  have:(vs++us).getD i Go.undef=us.getD (i-ds.length) Go.undef:=by
   simp[List.getD,List.getElem?_append_right (show vs.length<=i by rw[h.len];omega),h.len]
  rw[this];exact k.rel _ d hd
theorem iF.take {c:Ctx}{ds:List D}{vs:List Value}(h:iF c ds vs) (n:Nat):iF c (ds.take n) (vs.take n):=by
 refine⟨by simp[h.len],λ i d hd=>?_⟩;rw[List.getElem?_take]at hd;split at hd
 ·rename_i hi;have:(vs.take n).getD i Go.undef=vs.getD i Go.undef:=by simp[List.getD,hi]
  rw[this];exact h.rel i d hd
 ·cases hd
theorem iF.drop {c:Ctx}{ds:List D}{vs:List Value}(h:iF c ds vs) (n:Nat):iF c (ds.drop n) (vs.drop n):=by
 refine⟨by simp[h.len],λ i d hd=>?_⟩;rw[List.getElem?_drop]at hd;have:(vs.drop n).getD i Go.undef=vs.getD (n+i) Go.undef:=by grind
 rw[this];exact h.rel _ d hd
theorem Ve (cells:List Value):∀(new:List Value) (off k:Nat) (cs:Array Value),cs.toList=cells->off+k+new.length<=cells.length ->
  (List.foldl (λ(cs:Array Value) (p:Value×Nat)=>cs.setIfInBounds (off+p.2) p.1) cs (new.zipIdx k)).toList=cells.take (off+k)++new++cells.drop (off+k+new.length):=by
 intro new
 induction new generalizing cells with
 | nil=>intro off k cs hc _;simp[hc]
 | cons v r u =>
  intro off k cs hc hl;simp only[List.zipIdx_cons,List.foldl_cons];simp only[List.length_cons]at hl;rw[u (cells.set (off+k) v) off (k+1) _ (by simp[hc]) (by simp;omega)];grind [List.take_succ_eq_append_getElem,List.take_set_of_le,List.drop_set_of_lt]
theorem KT {c:Ctx}(place:Nat->Option (Nat×Nat)):∀(ps:List (Nat×Value)) (parts:List (Nat×Nat×List D)) (cells:Array Value) (ds:List D),iF c ds cells.toList ->
  ps.length=parts.length ->
  (∀(i:Nat) (p:Nat×Value) (q:Nat×Nat×List D),ps[i]?=some p->parts[i]?=some q->place p.1=some (q.1,q.2.1)/\iF c q.2.2 p.2.cells.toList/\q.2.2.length=q.2.1/\q.1+q.2.1<=ds.length) ->
  ∃cells',Instr.fill place cells ps=some cells'/\iF c (fillD ds parts) cells'.toList/\(fillD ds parts).length=ds.length:=by
 intro ps
 induction ps with
 | nil =>
  intro parts cells ds h hl _
  cases parts with
  | nil=>exact⟨cells,rfl,h,rfl⟩
  | cons a b=>simp at hl
 | cons p r O =>
  intro parts cells ds h hl u
  cases parts with
  | nil=>simp at hl
  | cons q s =>
   obtain⟨h1,h2,h3,h4⟩:=u 0 p q (by simp) (by simp);obtain⟨off,size,cs⟩:=q;simp only at h1 h2 h3 h4;have hsz:p.2.cells.size=size:=by rw[<- h3, <- h2.len];simp
   have G:cells.toList.length=ds.length:=h.len;have Q:cells.size=ds.length:=by simpa using G
   let new:=p.2.cells.zipIdx.foldl (λ(cs:Array Value) (x:Value×Nat)=>cs.setIfInBounds (off+x.2) x.1) cells
   have E:new.toList=cells.toList.take off++p.2.cells.toList++cells.toList.drop (off+size):=by
    have:=Ve cells.toList p.2.cells.toList off 0 cells rfl (by simp;omega);simp only[Nat.add_zero,Array.length_toList,hsz]at this;rw[<- this];simp only[new];rw[<- Array.foldl_toList];simp
   have hrel:iF c (ds.take off++cs++ds.drop (off+size)) new.toList:=by
    rw[E];exact((h.take off).append h2).append (h.drop _)
   have hlen:(ds.take off++cs++ds.drop (off+size)).length=ds.length:=by simp[h3];omega
   obtain⟨cells',U,T,S⟩:=O s new _ hrel (by simpa using hl) (λ i I H hp hq=>by
    have:=u (i+1) I H (by simpa using hp) (by simpa using hq);rw[hlen]
    exact this)
   grind [fillD,Instr.fill]
end Go.Am
namespace Go.Am
open Go
variable [ck]
variable {P:Program}{nt:Nat}
theorem exec_builtin {o:Oper}{b:Builtin}{args:Array Operand}{ats:Array TypeId}(ho:o.op=.call { callee:=.builtin b,args:=args,argTypes:=ats }) (ρ:Operand->Value) (w:World) :
  (execOp ρ o).run P w=(builtin b ats o.type (args.map λ|.const _=>true|_=>false) (args.map ρ)).run P w:=by
 grind [execOp,resolve,invoke]
theorem L3 {c:Ctx}{x:D}{v:Value}(h:aA c x v){K:D->Prop}(hv:bq x c.h K):∃p l cap,v=.slice p l cap/\K (.int .i64 (l:Nat)):=by
 unfold bq at hv;cases h<;>try exact hv.elim
 ·exact⟨_,_,_,rfl,hv⟩
 ·exact⟨_,_,_,rfl,hv⟩
 ·exact⟨_,_,_,rfl,hv⟩
 ·grind [Slot.live]
 ·grind
 ·grind
 grind
theorem abN {o:Oper}{t e:TypeId}{x:Operand}{x':Arg}(ho:o.op=.call { callee:=.builtin .len,args:= #[x],argTypes:= #[t] }) (hx:cArg x=some x')
  (hd:∀i,o.dst=some i->i<nt) (hu:P.underlying t=some (.slice e)):gK P nt o (.len x'):=by
 refine gK.pure hd λ K e c w a u hp hr hs=>?_
 have rx:=aH hx hs;simp only[vcOp]at u;obtain⟨p,l,cap,he,hk⟩:=L3 rx u;refine⟨_,_,?_,.int _ _,hk⟩;rw[exec_builtin ho];simp[builtin,Builtin.len_,he,Sem.run_bind,run_underlying hu,Result.andThen,goInt]
theorem ZN {o:Oper}{t:TypeId}{x:Operand}{x':Arg}(ho:o.op=.call { callee:=.builtin .len,args:= #[x],argTypes:= #[t] }) (hx:cArg x=some x')
  (hd:∀i,o.dst=some i->i<nt) (hu:P.underlying t=some .string):gK P nt o (.slen x'):=by
 refine gK.pure hd λ K e c w a u hp hr hs=>?_
 have rx:=aH hx hs;simp only[vcOp]at u;generalize E:x'.get e=G at u rx;cases G<;>try exact u.elim
 have he:=E2 rx;refine⟨_,_,?_,.int _ _,u⟩;rw[exec_builtin ho];simp[builtin,Builtin.len_,he,Sem.run_bind,run_underlying hu,Result.andThen,goInt]
theorem abK {o:Oper}{ats:Array TypeId}{x y:Operand}{x' y':Arg}(mx:Bool) (ho:o.op=.call { callee:=.builtin (if mx then .max else .min),args:= #[x,y],argTypes:=ats }) (hx:cArg x=some x') (hy:cArg y=some y')
  (hd:∀i,o.dst=some i->i<nt):gK P nt o (if mx then .mx x' y' else .mn x' y'):=by
 refine gK.pure hd λ K e c w a u hp hr hs=>?_
 have rx:=aH hx hs;have G:=aH hy hs;cases mx
 all_goals
  simp only[if_true,if_false,dj,vcOp]at u ho;generalize I:x'.get e=Q at u rx;generalize H:y'.get e=O at u G;cases Q<;>try exact u.elim
  cases O<;>try exact u.elim
  obtain⟨rfl,u⟩:=u;have he:=gO rx;have E:=gO G;refine⟨_,_,?_,.int _ _,u⟩;rw[exec_builtin ho];simp[builtin,Builtin.min_,Builtin.max_,Builtin.min2,Builtin.max2,he,E]
theorem ady (a b c:Int):(if c<(if b<a then b else a) then c else(if b<a then b else a))=min (min a b) c:=by
 split<;>split<;>omega
theorem adz (a b c:Int):(if(if a<b then b else a)<c then c else(if a<b then b else a))=max (max a b) c:=by
 split<;>split<;>omega
theorem YX {o:Oper}{ats:Array TypeId}{x y z:Operand}{x' y' z':Arg}(mx:Bool) (ho:o.op=.call { callee:=.builtin (if mx then .max else .min),args:= #[x,y,z],argTypes:=ats }) (hx:cArg x=some x') (hy:cArg y=some y')
  (hz:cArg z=some z') (hd:∀i,o.dst=some i->i<nt):gK P nt o (if mx then .mx3 x' y' z' else .mn3 x' y' z'):=by
 refine gK.pure hd λ K e c w a u hp hr hs=>?_
 have rx:=aH hx hs;have I:=aH hy hs;have H:=aH hz hs;cases mx
 all_goals
  simp only[if_true,if_false,dj,vcOp]at u ho;generalize S:x'.get e=V at u rx;generalize Q:y'.get e=U at u I;generalize O:z'.get e=T at u H;cases V<;>try exact u.elim
  cases U<;>try exact u.elim
  cases T<;>try exact u.elim
  obtain⟨rfl,rfl,u⟩:=u;have he:=gO rx;have G:=gO I;have E:=gO H;refine⟨_,_,?_,.int _ _,u⟩;rw[exec_builtin ho];simp[builtin,Builtin.min_,Builtin.max_,Builtin.min2,Builtin.max2,he,G,E,ady,adz]
theorem Ta {xs:List Operand}{ys:List Arg}(h:xs.mapM cArg=some ys){c:Ctx}{e:LEnv}{a:Act}(s:oe c nt e.get a) :
  (xs.map a.eval).length=(ys.map (·.get e)).length/\∀(i:Nat) (d:D),(ys.map (·.get e))[i]?=some d->aA c d ((xs.map a.eval).getD i Go.undef):=by
 induction xs generalizing ys with
 | nil=>simp at h;subst h;simp
 | cons x r u =>
  simp only[List.mapM_cons]at h
  cases hx:cArg x with
  | none=>simp[hx]at h
  | some y =>
   cases hr:r.mapM cArg with
   | none=>simp[hx,hr]at h
   | some s' =>
    grind [aH]
theorem lJ {xs:Array Operand}{ys:List Arg}(h:xs.toList.mapM cArg=some ys){c:Ctx}{e:LEnv}{a:Act}(s:oe c nt e.get a) :
  (xs.map a.eval).size=(ys.map (·.get e)).length/\∀(i:Nat) (d:D),(ys.map (·.get e))[i]?=some d->aA c d ((xs.map a.eval).getD i Go.undef):=by
 grind [Ta,aO,Array.toList_map]
theorem abM {o:Oper}{f:FuncId}{xs ys:Array Operand}{xs' ys':List Arg}(ho:o.op=.makeFunc (.func f) xs ys) (hx:xs.toList.mapM cArg=some xs') (hy:ys.toList.mapM cArg=some ys')
  (hd:∀i,o.dst=some i->i<nt):gK P nt o (.mkf f xs' ys'):=by
 refine gK.pure hd λ K e c w a u hp hr hs=>?_
 obtain⟨G,E⟩:=lJ hx hs;obtain⟨b1,b2⟩:=lJ hy hs;simp only[vcOp]at u;exact⟨_,_,by simp only[execOp,ho,Instr.makeFunc];rfl,.fn f _ _ _ _ G b1 E b2,u⟩
theorem ZO {o:Oper}{t:TypeId}{x i:Operand}{x' i':Arg}(ho:o.op=.index t x i) (hx:cArg x=some x') (hi:cArg i=some i')
  (hd:∀i,o.dst=some i->i<nt) (hu:P.underlying t=some .string):gK P nt o (.sidx x' i' 0 0 false):=by
 refine gK.pure hd λ K e c w a u hp hr hs=>?_
 have rx:=aH hx hs;have E:=aH hi hs;simp only[vcOp]at u;generalize I:i'.get e=Q at u E;unfold vint at u;split at u
 case h_2=>exact u.elim
 rename_i k n;have hi:=gO E;generalize H:x'.get e=O at u rx;cases O<;>try grind
 rename_i s;have hx:=E2 rx;obtain⟨_,h0,h1,hk⟩:=u;have G:n.toNat<s.size:=by omega
 have hb:s[n.toNat]?=some s[n.toNat]:=by
  grind
 refine⟨_,_,?_,.int _ _,hk _ hb⟩;simp[execOp,ho,hx,hi,Instr.index,asIntOf,Sem.run_bind,run_underlying hu,Result.andThen,h0,hb]
theorem WX {o:Oper}{t elem:TypeId}{len size:Nat}{agg:Bool}{x i:Operand}{x' i':Arg}(ho:o.op=.index t x i) (hx:cArg x=some x') (hi:cArg i=some i')
  (hd:∀i,o.dst=some i->i<nt) (hu:P.underlying t=some (.array len elem)) (ht:TyIs P elem size agg) (hne:0<len):gK P nt o (.sidx x' i' len size agg):=by
 refine gK.pure hd λ K e c w a u hp hr hs=>?_
 have rx:=aH hx hs;have G:=aH hi hs;simp only[vcOp]at u;generalize I:i'.get e=V at u G;unfold vint at u;split at u
 case h_2=>exact u.elim
 rename_i k n;have hi:=gO G;generalize H:x'.get e=T at u rx;generalize E:a.eval x=U at rx;cases T<;>try exact u.elim
 ·exact absurd u.1 (by omega)
 ·rename_i cs;obtain⟨_,h0,h1,hk⟩:=u
  cases rx with
  | agg _ vs hsz hone hrel =>
   obtain⟨v,d,S,Q,O⟩:=E0 (P:=P) (w:=w) hsz hone hrel ht hk;refine⟨v,d,?_,Q,O⟩;simp[execOp,ho,E,hi,Instr.index,asIntOf,Sem.run_bind,run_underlying hu,Result.andThen,h0,h1,run_sizeOf ht.info,S]
end Go.Am
namespace Go.Am
open Go
variable [ck]
variable {P:Program}{nt:Nat}
def cOpt:Option Operand->Option (Option Arg)
 | none=>some none
 | some x=>(cArg x).map some
theorem Ss {c:Ctx}{e:LEnv}{a:Act}(s:oe c nt e.get a){x:Operand}{x':Arg}(hx:cArg x=some x'){K:Int->Prop}(hv:vint (x'.get e) K) :
  ∃i,K i/\∀(y:Nat) (cd:BoundsCode) (w:World),0<=i->i<=y->(Instr.sliceBound (a.eval x) y cd).run P w=.ok i.toNat w:=by
 have rx:=aH hx s;generalize u:x'.get e=E at hv rx;unfold vint at hv;split at hv
 ·rename_i k n;have hi:=gO rx;refine⟨n,hv,λ y cd w h0 h1=>?_⟩;have hc:(0<=n/\n<=(y:Int)):=⟨h0,h1⟩;simp[Instr.sliceBound,hi,asIntOf,Result.andThen,hc]
 ·exact hv.elim
theorem hZ {c:Ctx}{e:LEnv}{a:Act}(s:oe c nt e.get a){x:Option Operand}{x':Option Arg}(hx:cOpt x=some x'){dflt:Nat}{K:Int->Prop}(hv:vopt e x' dflt K) :
  ∃i,K i/\(x=none->i=dflt)/\∀(v:Value) (y:Nat) (cd:BoundsCode) (w:World),x.map a.eval=some v->0<=i->i<=y->(Instr.sliceBound v y cd).run P w=.ok i.toNat w:=by
 cases x with
 | none =>
  simp[cOpt]at hx;subst hx;exact⟨dflt,hv,λ _=>rfl,λ v y cd w h=>by simp at h⟩
 | some x =>
  simp only[cOpt]at hx
  cases hc:cArg x with
  | none=>simp[hc]at hx
  | some y =>
   simp[hc]at hx;subst hx;obtain⟨i,hk,hr⟩:=Ss (P:=P) s hc hv;grind
theorem fW {lo hi mx:Option Value}{len cap l r m:Nat}{w:World}(hmx:mx.isSome=true->hi.isSome=true)
  (hl:∀(v:Value) (y:Nat) (cd:BoundsCode),lo=some v->l<=y->(Instr.sliceBound v y cd).run P w=.ok l w) (hl0:lo=none->l=0)
  (hr:∀(v:Value) (y:Nat) (cd:BoundsCode),hi=some v->r<=y->(Instr.sliceBound v y cd).run P w=.ok r w) (hr0:hi=none->r=len)
  (hm:∀(v:Value) (y:Nat) (cd:BoundsCode),mx=some v->m<=y->(Instr.sliceBound v y cd).run P w=.ok m w) (hm0:mx=none->m=cap)
  (h1:l<=r) (h2:r<=m) (h3:m<=cap) (isS:Bool):(Instr.sliceBounds isS len cap lo hi mx).run P w=.ok (l,r,m) w:=by
 unfold Instr.sliceBounds
 cases mx with
 | some G =>
  cases hi with
  | none=>simp at hmx
  | some E =>
   cases lo with
   | none=>simp[Sem.run_bind,hm G cap _ rfl h3,hr E m _ rfl h2,Result.andThen,hl0 rfl]
   | some u=>simp[Sem.run_bind,hm G cap _ rfl h3,hr E m _ rfl h2,hl u r _ rfl h1,Result.andThen]
 | none =>
  have:=hm0 rfl;subst this
  cases hi with
  | none =>
   have:=hr0 rfl;subst this
   cases lo with
   | none=>simp[Sem.run_bind,Result.andThen,hl0 rfl]
   | some u=>simp[Sem.run_bind,hl u r _ rfl h1,Result.andThen]
  | some E =>
   cases lo with
   | none=>simp[Sem.run_bind,hr E m _ rfl h2,Result.andThen,hl0 rfl]
   | some u=>simp[Sem.run_bind,hr E m _ rfl h2,hl u r _ rfl h1,Result.andThen]
theorem ZL {c:Ctx}{xs:List D}{esz:Nat}(hsz:∀d∈xs,d.cells.length=esz){v:Value}(h:aA c (.sl xs) v){l r m cap:Nat}{p:Option Addr}(hv:v=.slice p xs.length cap)
  (h1:l<=r) (h2:r<=xs.length) (h3:r<=m) (h4:m<=cap):aA c (.sl ((xs.drop l).take (r-l))) (.slice (if m=l then p else p.map (·.add (l*esz))) (r-l) (m-l)):=by
 by_cases he:r=l
 ·have:(xs.drop l).take (r-l)=[]:=by simp[he]
  rw[this,show r-l=0 by omega];refine .yA _ _ ?_
  cases h with
  | yA T E hm=>cases hv;omega
  | sl _ b o E u f hne hc hm H hlen hone hcell hown hrel=>cases hv;omega
 ·have Q:l<xs.length:=by omega
  have S:((xs.drop l).take (r-l)).length=r-l:=by simp;omega
  cases h with
  | yA T E hm=>simp at Q
  | sl _ b o E u f hne hc hm H hlen hone hcell hown hrel =>
   cases hv
   have G:u=esz:=by
    rw[<- hlen xs[0] (by simp),hsz xs[0] (by simp)]
   subst G;rw[if_neg (by omega)];have O:(some (⟨b,o,none⟩:Addr)).map (·.add (l*u))=some ⟨b,o+l*u,none⟩:=by simp[Addr.add_lit]
   rw[O]
   have I:∀i j d,aP ((xs.drop l).take (r-l)) i j=some d->aP xs (l+i) j=some d:=by
    grind [aP,jj]
   have:=aA.sl (c:=c) ((xs.drop l).take (r-l)) b (o+l*u) (m-l) u (λ i j=>f (l+i) j) (by grind) (by omega) (by omega) H
    (λ e hm=>hlen e (List.mem_of_mem_drop (List.mem_of_mem_take hm))) (λ i j d hd=>hone _ _ _ (I i j d hd))
    (λ i j d hd=>by
     grind) hown (λ i j d hd=>hrel _ _ _ (I i j d hd))
   grind
theorem HT {c:Ctx}{xs:List D}{v:Value}(h:aA c (.sl xs) v):∃p cap,v=.slice p xs.length cap/\xs.length<=cap/\cap<=maxLen:=by
 cases h with
 | yA p cap hm=>exact⟨p,cap,rfl,by simp,hm⟩
 | sl _ b o cap esz f hne hc hm he hlen hone hcell hown hrel=>grind
theorem abI {o:Oper}{t elem:TypeId}{x:Operand}{x':Arg}{lo hi mx:Option Operand}{lo' hi' mx':Option Arg}{esz:Nat}(ho:o.op=.slice t x lo hi mx) (hx:cArg x=some x')
  (hlo:cOpt lo=some lo') (hhi:cOpt hi=some hi') (hmx:cOpt mx=some mx') (hmh:mx.isSome=true->hi.isSome=true)
  (hd:∀i,o.dst=some i->i<nt) (hu:P.underlying t=some (.slice elem)) (ht:(P.info? elem).map (·.size)=some esz):gK P nt o (.GQ x' lo' hi' mx' esz):=by
 refine gK.pure hd λ K e c w a u hp hr hs=>?_
 have rx:=aH hx hs;simp only[vcOp]at u
 have fin:∀(p:Option Addr) (len cap l r m:Nat),a.eval x=.slice p len cap ->
   (Instr.sliceBounds true len cap (lo.map a.eval) (hi.map a.eval) (mx.map a.eval)).run P w=.ok (l,r,m) w ->
   (execOp a.eval o).run P w=.ok (.value (.slice (if m=l then p else p.map (·.add (l*esz))) (r-l) (m-l))) w:=by
  intro p len cap l r m he hb;simp[execOp,ho,he,Instr.sliceAt,Instr.slice,Sem.run_bind,Result.andThen,run_underlying hu,run_sizeOf ht,hb]
 generalize a7:x'.get e=dx at u rx;cases dx<;>try exact u.elim
 ·simp only at u;obtain⟨l,u,l0,lr⟩:=hZ (P:=P) hs hlo u;obtain⟨r,u,W,V⟩:=hZ (P:=P) hs hhi u;obtain⟨m,u,m0,mr⟩:=hZ (P:=P) hs hmx u;obtain⟨rfl,rfl,rfl,hk⟩:=u
  have he:a.eval x=.slice none 0 0:=by
   generalize a.eval x=vx at rx;cases rx;rfl
  have hb:(Instr.sliceBounds true 0 0 (lo.map a.eval) (hi.map a.eval) (mx.map a.eval)).run P w=.ok (0,0,0) w :=
   fW (by simpa using hmh) (λ v y I h hy=>by grind) (λ _=>rfl)
    (λ v y I h hy=>by grind) (λ _=>rfl)
    (λ v y I h hy=>by grind) (λ _=>rfl) (Nat.le_refl _) (Nat.le_refl _) (Nat.le_refl _) true
  grind
 ·rename_i xs;simp only at u;obtain⟨l,u,l0,lr⟩:=hZ (P:=P) hs hlo u;obtain⟨r,u,W,V⟩:=hZ (P:=P) hs hhi u;obtain⟨m,u,m0,mr⟩:=hZ (P:=P) hs hmx u;obtain⟨g1,g2,g3,g4,hsz,hk⟩:=u;obtain⟨p,cap,he,Q,a6⟩:=HT rx
  have O:∃E:Nat,(mx=none->E=cap)/\(mx≠none->E=m.toNat)/\r.toNat<=E/\E<=cap:=by
   by_cases hm:mx=none
   ·exact⟨cap,λ _=>rfl,λ h=>absurd hm h,by omega,Nat.le_refl _⟩
   ·exact⟨m.toNat,λ h=>absurd h hm,λ _=>rfl,by omega,by omega⟩
  obtain⟨E,q1,q2,q3,Z⟩:=O
  have hb:(Instr.sliceBounds true xs.length cap (lo.map a.eval) (hi.map a.eval) (mx.map a.eval)).run P w=.ok (l.toNat,r.toNat,E) w:=by
   refine fW (by simpa using hmh) (λ v y I h hy=>lr v y I w h g1 (by omega)) (λ h=>by have:=l0 (by simpa using h);omega)
    (λ v y I h hy=>V v y I w h (by omega) (by omega)) (λ h=>by have:=W (by simpa using h);omega)
    (λ v y I h hy=>?_) (λ h=>q1 (by simpa using h)) (by omega) q3 Z true
   have hne:mx≠none:=by rintro rfl;simp at h
   grind
  refine⟨_,_,fin p _ cap _ _ _ he hb,?_,hk⟩;have:=ZL hsz rx he (l:=l.toNat) (r:=r.toNat) (m:=E) (by omega) (by omega) q3 Z;grind
 ·rename_i n off len;simp only at u;obtain⟨l,u,l0,lr⟩:=hZ (P:=P) hs hlo u;obtain⟨r,u,W,V⟩:=hZ (P:=P) hs hhi u;obtain⟨m,u,m0,mr⟩:=hZ (P:=P) hs hmx u;obtain⟨g1,g2,g3,g4,⟨els,H⟩,hk⟩:=u
  have form:∃p cap,a.eval x=.slice p len cap/\len<=cap:=by
   generalize a.eval x=vx at rx
   cases rx with
   | msDead _ _ _ _ _ _ a5=>grind [Slot.row]
   | msNil _ _ _ _ _=>grind
   | msE _ _ _ p _ _=>grind
   | ms _ _ _ g T cap U cur ty fr G hρ hl hg hsz hc hm=>exact⟨_,cap,rfl,hc⟩
  obtain⟨p,cap,he,Q⟩:=form
  have O:∃E:Nat,(mx=none->E=cap)/\(mx≠none->E=m.toNat)/\r.toNat<=E/\E<=cap:=by
   by_cases hm:mx=none
   ·exact⟨cap,λ _=>rfl,λ h=>absurd hm h,by omega,Nat.le_refl _⟩
   ·exact⟨m.toNat,λ h=>absurd h hm,λ _=>rfl,by omega,by omega⟩
  obtain⟨E,q1,q2,q3,Z⟩:=O
  have hb:(Instr.sliceBounds true len cap (lo.map a.eval) (hi.map a.eval) (mx.map a.eval)).run P w=.ok (l.toNat,r.toNat,E) w:=by
   refine fW (by simpa using hmh) (λ v y I h hy=>lr v y I w h g1 (by omega)) (λ h=>by have:=l0 (by simpa using h);omega)
    (λ v y I h hy=>V v y I w h (by omega) (by omega)) (λ h=>by have:=W (by simpa using h);omega)
    (λ v y I h hy=>?_) (λ h=>q1 (by simpa using h)) (by omega) q3 Z true
   have hne:mx≠none:=by rintro rfl;simp at h
   grind
  refine⟨_,_,fin p _ cap _ _ _ he hb,?_,hk⟩;rw[show(r-l).toNat=r.toNat-l.toNat by omega];rw[he]at rx
  cases rx with
  | msDead _ _ _ _ _ _ a5=>grind [Slot.row]
  | msNil _ _ _ _ _ =>
   have e1:l.toNat=0:=by omega
   have e2:r.toNat=0:=by omega
   have e3:E=0:=by omega
   rw[e1,e2,e3];exact .msE _ _ esz _ els H
  | msE _ _ _ _ _ _ =>
   have e1:l.toNat=0:=by omega
   have e2:r.toNat=0:=by omega
   have e3:E=0:=by omega
   rw[e1,e2,e3];exact .msE _ _ esz _ els H
  | ms _ _ _ g T _ U cur ty fr G hρ hl hg hsz hc hm =>
   rw[H]at G;simp at G;obtain⟨rfl,rfl⟩:=G;by_cases a2:E=l.toNat
   ·rw[show r.toNat-l.toNat=0 by omega,show E-l.toNat=0 by omega];exact .msE _ _ esz _ els H
   ·rw[if_neg a2];have S:(some (⟨g,off*esz,none⟩:Addr)).map (·.add (l.toNat*esz))=some ⟨g,(off+l.toNat)*esz,none⟩:=by simp[Addr.add_lit,Nat.add_mul]
    rw[S];have a1:(off+l.toNat+(E-l.toNat))*esz<=cur.size:=Nat.le_trans (Nat.mul_le_mul_right _ (by omega)) hsz;exact .ms n (off+l.toNat) (r.toNat-l.toNat) g esz (E-l.toNat) els cur ty fr H hρ (by omega) hg a1 (by omega) (by omega)
theorem ZM {o:Oper}{t:TypeId}{x:Operand}{x':Arg}{lo hi:Option Operand}{lo' hi':Option Arg}(ho:o.op=.slice t x lo hi none) (hx:cArg x=some x')
  (hlo:cOpt lo=some lo') (hhi:cOpt hi=some hi')
  (hd:∀i,o.dst=some i->i<nt) (hu:P.underlying t=some .string):gK P nt o (.sslc x' lo' hi'):=by
 refine gK.pure hd λ K e c w a u hp hr hs=>?_
 have rx:=aH hx hs;simp only[vcOp]at u;generalize Q:x'.get e=T at u rx;cases T<;>try exact u.elim
 rename_i s;simp only at u;have he:=E2 rx;obtain⟨l,u,O,I⟩:=hZ (P:=P) hs hlo u;obtain⟨r,u,H,G⟩:=hZ (P:=P) hs hhi u;obtain⟨S,V,U,hk⟩:=u
 have hb:(Instr.sliceBounds false s.size s.size (lo.map a.eval) (hi.map a.eval) none).run P w=.ok (l.toNat,r.toNat,s.size) w:=by
  refine fW (by simp) (λ v y E h hy=>I v y E w h S (by omega)) (λ h=>by have:=O (by simpa using h);omega)
   (λ v y E h hy=>G v y E w h (by omega) (by omega)) (λ h=>by have:=H (by simpa using h);omega)
   (λ v y E h hy=>by simp at h) (λ _=>rfl) (by omega) (by omega) (Nat.le_refl _) false
 refine⟨_,_,?_,.str _,hk⟩;simp[execOp,ho,he,Instr.sliceAt,Instr.slice,Sem.run_bind,Result.andThen,run_underlying hu,hb]
end Go.Am
namespace Go.Am
open Go
variable [ck]
variable {P:Program}{nt:Nat}
def cPlace (P:Program) (t:TypeId) (i:Nat):Option (Nat×Nat) :=
 match P.underlying t with
 | some (.struct fields)=>match fields.toList.mapM (λ f=>(P.info? f.type).map λ i=>(f.offset,i.size)) with
  | some places=>places.toArray[i]?
  | none=>none
 | some (.array _ e)=>match P.info? e with
  | some ie=>some (i*ie.size,ie.size)
  | none=>none
 | _=>none
def eJ (P:Program) (t:TypeId):Option D:=((P.info? t).bind (·.zero)).bind D.ofV
def cParts (P:Program) (t:TypeId):List (Nat×Operand)->Option (List (Nat×Nat×Arg))
 | []=>some []
 | (i,x)::r=>match cPlace P t i,cArg x,cParts P t r with
  | some (off,size),some y,some s=>some ((off,size,y)::s)
  | _,_,_=>none
theorem H8 {t:TypeId}:∀{ps:List (Nat×Operand)}{qs:List (Nat×Nat×Arg)},cParts P t ps=some qs ->
  ps.length=qs.length/\∀(k:Nat) (p:Nat×Operand) (q:Nat×Nat×Arg),ps[k]?=some p->qs[k]?=some q->cPlace P t p.1=some (q.1,q.2.1)/\cArg p.2=some q.2.2
 | [],qs,h=>by grind [cParts]
 | (i,x)::r,qs,h=>by
  simp only[cParts]at h
  cases h1:cPlace P t i with
  | none=>simp[h1]at h
  | some os =>
   cases h2:cArg x with
   | none=>simp[h1,h2]at h
   | some y =>
    cases h3:cParts P t r with
    | none=>simp[h1,h2,h3]at h
    | some s =>
     simp[h1,h2,h3]at h;subst h;obtain⟨l,u⟩:=H8 h3;grind
theorem VY {t:TypeId}{z:Value}{i:TypeInfo}(hi:P.info? t=some i) (hz:i.zero=some z){ps:List (Nat×Value)}{cells:Array Value}
  (hf:Instr.fill (cPlace P t) z.cells ps=some cells) (hu:(∃fs,P.underlying t=some (.struct fs))\/∃n e,P.underlying t=some (.array n e)) (hne:ps≠[]):P.built t ps=some cells:=by
 unfold Program.built;rcases hu with⟨fs,hu⟩|⟨n,e,hu⟩
 ·simp only[hi,hu,hz]
  cases hp:fs.toList.mapM (λ f=>(P.info? f.type).map λ i=>(f.offset,i.size)) with
  | none =>
   have hc:∀i,cPlace P t i=none:=λ i=>by simp[cPlace,hu,hp]
   cases ps with
   | nil=>exact absurd rfl hne
   | cons p r=>grind [Instr.fill]
  | some u =>
   have hc:(λ i=>cPlace P t i)=λ i=>u.toArray[i]?:=by grind [cPlace]
   grind
 ·simp only[hi,hu,hz]
  cases hp:P.info? e with
  | none =>
   have hc:∀i,cPlace P t i=none:=λ i=>by simp[cPlace,hu,hp]
   cases ps with
   | nil=>exact absurd rfl hne
   | cons p r=>grind [Instr.fill]
  | some E =>
   have hc:(λ i=>cPlace P t i)=λ i=>some (i*E.size,E.size):=by grind [cPlace]
   grind
theorem Tb {t:TypeId}{z:Value}{i:TypeInfo}(hi:P.info? t=some i) (hz:i.zero=some z) (hp:cPlace P t 0≠none):P.built t []=some z.cells:=by
 grind [Program.built,cPlace,Instr.fill]
theorem abU {o:Oper}{t:TypeId}{ps:Array (Nat×Operand)}{zd:D}{qs:List (Nat×Nat×Arg)}(ho:o.op=.build t ps) (hz:eJ P t=some zd) (hq:cParts P t ps.toList=some qs)
  (hp0:cPlace P t 0≠none) (hd:∀i,o.dst=some i->i<nt):gK P nt o (.bld zd.cells qs):=by
 refine gK.pure hd λ K e c w a hv hp hr hs=>?_
 simp only[vcOp,OX]at hv;obtain⟨Z,hk⟩:=hv
 cases hi:P.info? t with
 | none=>simp[eJ,hi]at hz
 | some i =>
  cases T:i.zero with
  | none=>simp[eJ,hi,T]at hz
  | some z =>
   have H:D.ofV z=some zd:=by grind [eJ]
   have U:=dB (gP H c) (gz H);obtain⟨hlen,E⟩:=H8 hq
   let vs:List (Nat×Value):=ps.toList.map λ p=>(p.1,a.eval p.2)
   let parts:List (Nat×Nat×List D):=qs.map λ q=>(q.1,q.2.1,(q.2.2.get e).cells)
   obtain⟨u,g1,g2,g3⟩:=KT (c:=c) (cPlace P t) vs parts z.cells zd.cells U (by simp[vs,parts,hlen]) (by
    intro k p q S O;simp only[vs,parts,List.getElem?_map,Option.map_eq_some_iff]at S O;obtain⟨p',W,rfl⟩:=S;obtain⟨q',Q,rfl⟩:=O;obtain⟨s1,s2⟩:=E k p' q' W Q;obtain⟨o1,o2,o3⟩:=Z q' (aK Q)
    exact⟨s1,dB (aH s2 hs) o3,o1,o2⟩)
   have hb:P.built t vs=some u:=by
    by_cases hne:vs=[]
    ·grind [Instr.fill,Tb]
    grind [VY,cPlace]
   have I:=run_build (P:=P) w t (vs.toArray) u (by simpa using hb);refine⟨.agg u,_,?_,?_,hk⟩
   ·have V:ps.map (λ(i,x)=>(i,a.eval x))=vs.toArray:=by apply Array.ext';simp[vs]
    simp only[execOp,ho,V];simp[I]
   ·refine .agg _ _ (by simpa using g2.len) (λ i d G=>(g2.rel i d G).1) (λ i d G=>by rw[<- aO];exact(g2.rel i d G).2)
def eqTy (P:Program):Nat->TypeId->Option (List CK)
 | 0,_=>none
 | d+1,t=>match P.underlying t with
  | some (.int _)=>some [.i]
  | some .bool=>some [.b]
  | some .string=>some [.s]
  | some (.struct fs)=>if P.stoodInHeld t then none else
   fs.toList.foldl (λ acc f=>acc.bind λ ks=>if f.name ≠ "_" /\f.offset=ks.length then
    (match eqTy P d f.type,(P.info? f.type).map (·.size) with
     | some n,some m=>if n.length=m then some (ks++n) else none
     | _,_=>none) else none) (some [])
  | some (.array m e)=>match eqTy P d e,(P.info? e).map (·.size) with
   | some [k],some 1=>some (List.replicate m k)
   | _,_=>none
  | _=>none
theorem H4:∀(ks:List CK) (a c:List D) (r:Bool),eqCells ks a c=some r->a.length=ks.length/\c.length=ks.length:=by
 intro ks
 induction ks with
 | nil=>grind [eqCells]
 | cons k ks E =>
  intro a c r h
  have step:∀(p:Bool) (xs ys:List D),(eqCells ks xs ys).map (λ t=>p&&t)=some r->xs.length=ks.length/\ys.length=ks.length:=by
   intro p xs ys hp
   cases hq:eqCells ks xs ys with
   | none=>simp[hq]at hp
   | some q=>exact E xs ys q hq
  cases a with
  | nil=>grind [eqCells]
  | cons x xs =>
   cases c with
   | nil=>grind [eqCells]
   | cons y ys =>
    have u:xs.length=ks.length/\ys.length=ks.length:=by
     cases k<;>cases x<;>cases y<;>simp only[eqCells]at h<;>try (cases h;done)
     ·grind
     ·exact step _ _ _ h
     ·exact step _ _ _ h
    simp[u.1,u.2]
theorem Af:∀(ks ls:List CK) (a c b d:List D) (r:Bool),a.length=ks.length->c.length=ks.length->eqCells (ks++ls) (a++b) (c++d)=some r ->
  ∃r1 r2,eqCells ks a c=some r1/\eqCells ls b d=some r2/\r=(r1&&r2):=by
 intro ks
 induction ks with
 | nil =>
  intro ls a c b d r hl u h;cases a<;>cases c<;>simp at hl u;exact⟨true,r,rfl,h,by simp⟩
 | cons k ks E =>
  intro ls a c b d r hl u h
  cases a with
  | nil=>simp at hl
  | cons x xs =>
   cases c with
   | nil=>simp at u
   | cons y ys =>
    simp only[List.cons_append]at h
    have step:∀(p:Bool),(eqCells (ks++ls) (xs++b) (ys++d)).map (λ t=>p&&t)=some r ->
      ∃r1 r2,(eqCells ks xs ys).map (λ t=>p&&t)=some r1/\eqCells ls b d=some r2/\r=(r1&&r2):=by
     intro p hp
     cases hq:eqCells (ks++ls) (xs++b) (ys++d) with
     | none=>simp[hq]at hp
     | some q =>
      grind
    cases k<;>cases x<;>cases y<;>simp only[eqCells]at h ⊢<;>try (cases h;done)
    ·split at h
     ·grind
     ·cases h
    ·exact step _ h
    ·exact step _ h
def MU (c:Ctx) (agg:Bool) (ds:List D) (x:Value):Prop :=
 if agg then ∃xs,x=.agg xs/\iF c ds xs.toList else ∃d,ds=[d]/\aA c d x
theorem E4 {c:Ctx}{w:World}{ds:List D}{xs:Array Value}(h:iF c ds xs.toList){t:TypeId}{off n:Nat}{agg:Bool}(ht:TyIs P t n agg) (hl:off+n<=ds.length) (h1:agg=false->n=1) :
  ∃v,(part t xs off).run P w=.ok v w/\MU c agg ((ds.drop off).take n) v:=by
 have hsz:xs.size=ds.length:=by simpa using h.len
 have hone:∀(i:Nat) (d:D),ds[i]?=some d->d.one=true:=λ i d hd=>(h.rel i d hd).1
 have hrel:∀(i:Nat) (d:D),ds[i]?=some d->aA c d (xs.getD i Go.undef):=λ i d hd=>by rw[<- aO];exact(h.rel i d hd).2
 unfold MU
 cases agg with
 | true =>
  obtain⟨v,d,Q,O,I⟩:=E0 (P:=P) (w:=w) (off:=off) (K:=λ d=>d=.agg ((ds.drop off).take n)) hsz hone hrel ht (by simp[vpart,hl]);subst I;refine⟨v,Q,?_⟩;simp only[if_true]
  cases O with
  | agg _ vs E u G=>exact⟨vs,rfl,by simpa using E,λ i d hd=>⟨u i d hd,by grind [aO]⟩⟩
 | false =>
  have hn:=h1 rfl;subst hn;have H:off<ds.length:=by omega
  obtain⟨v,d,Q,O,I⟩:=E0 (P:=P) (w:=w) (off:=off) (K:=λ d=>d=ds[off]) hsz hone hrel ht (by simp[vpart,H]);grind [List.drop_eq_getElem_cons]
theorem fY (f:Option (List CK)->Field->Option (List CK)) (hf:∀x,f none x=none):∀l:List Field,l.foldl f none=none
 | []=>rfl
 | x::r=>by rw[List.foldl_cons,hf,fY f hf r]
theorem HS {c:Ctx}{w:World}:∀(d:Nat) (t:TypeId) (ks:List CK),eqTy P d t=some ks->∀(agg:Bool),TyIs P t ks.length agg->∀(ds es:List D) (x y:Value) (b:Bool),MU c agg ds x->MU c agg es y ->
  eqCells ks ds es=some b->∀k,d<=k->(Op.equalIn k t x y).run P w=.ok b w:=by
 intro d
 induction d with
 | zero=>intro t n h;simp[eqTy]at h
 | succ d ih =>
  intro t ks h agg ht ds es x y b hx hy hb k hk;obtain⟨k',rfl⟩:∃k',k=k'+1:=⟨k-1,by omega⟩;obtain⟨c9,hu,H⟩:=ht.und;unfold eqTy at h;rw[hu]at h;cases c9<;>simp only at h H<;>try (cases h;done)
  ·cases h;subst H;obtain⟨p,rfl,Z⟩:=hx;obtain⟨q,rfl,W⟩:=hy;cases p<;>cases q<;>simp only[eqCells]at hb<;>try (cases hb;done)
   simp at hb;rw[zL Z,zL W,run_equalIn_bool' w k' t _ _ hu,hb]
  ·cases h;subst H;obtain⟨p,rfl,Z⟩:=hx;obtain⟨q,rfl,W⟩:=hy;cases p<;>cases q<;>simp only[eqCells]at hb<;>try (cases hb;done)
   split at hb
   ·rename_i c6;subst c6;simp at hb;rw[gO Z,gO W,run_equalIn_int w k' t _ _ _ _ hu, <- hb];congr 1
   ·cases hb
  ·cases h;subst H;obtain⟨p,rfl,Z⟩:=hx;obtain⟨q,rfl,W⟩:=hy;cases p<;>cases q<;>simp only[eqCells]at hb<;>try (cases hb;done)
   simp at hb;rw[E2 Z,E2 W,run_equalIn_string w k' t _ _ hu, <- hb]
  ·rename_i m e
   have hq:∃k,eqTy P d e=some [k]/\(P.info? e).map (·.size)=some 1/\ks=List.replicate m k:=by
    split at h
    ·rename_i k h1 h2;cases h;exact⟨_,h1,h2,rfl⟩
    ·cases h
   obtain⟨kk,h1,h2,rfl⟩:=hq;subst H;obtain⟨xs,rfl,rx⟩:=hx;obtain⟨ys,rfl,ry⟩:=hy
   have E:∃agg,TyIs P e 1 agg:=by
    cases d with
    | zero=>simp[eqTy]at h1
    | succ d =>
     unfold eqTy at h1
     cases a2:P.underlying e with
     | none=>simp[a2]at h1
     | some dd=>exact⟨_,h2,dd,a2,rfl⟩
   obtain⟨Q,E⟩:=E
   obtain⟨i,hi,c8⟩:∃i,P.info? e=some i/\i.size=1:=by
    cases hi:P.info? e with
    | none=>simp[hi]at h2
    | some i=>exact⟨i,rfl,by simpa[hi] using h2⟩
   have hc:P.cellsOf e=1:=by simp[Program.cellsOf,hi,c8]
   rw[run_equalIn_array w k' xs ys hu hi,hc];obtain⟨U,T⟩:=H4 _ _ _ _ hb;rw[List.length_replicate]at U T
   have key:∀(q s:Nat) (b:Bool),s+q=m->eqCells (List.replicate q kk) (ds.drop s) (es.drop s)=some b->(Op.eqItems k' e 1 xs ys (List.range' s q)).run P w=.ok b w:=by
    intro q
    induction q with
    | zero =>
     intro s b hs hb;rw[List.drop_of_length_le (by omega),List.drop_of_length_le (by omega)]at hb;cases hb;simp[Op.eqItems]
    | succ q c2 =>
     intro s b hs hb;rw[List.range'_succ];have sd:ds.drop s=(ds.drop s).take 1++ds.drop (s+1):=by grind [List.drop_drop,List.take_append_drop]
     have se:es.drop s=(es.drop s).take 1++es.drop (s+1):=by grind [List.drop_drop,List.take_append_drop]
     rw[sd,se,List.replicate_succ]at hb;obtain⟨r1,r2,e1,e2,rfl⟩:=Af [kk] (List.replicate q kk) _ _ _ _ _ (by simp;omega) (by simp;omega) hb;obtain⟨vx,px,qx⟩:=E4 (P:=P) (w:=w) rx E (off:=s) (by omega) (λ _=>rfl);obtain⟨vy,py,qy⟩:=E4 (P:=P) (w:=w) ry E (off:=s) (by omega) (λ _=>rfl);have heq:=ih e [kk] h1 Q E _ _ vx vy r1 qx qy e1 k' (by omega);have I:=c2 (s+1) r2 (by omega) e2;simp only[Op.eqItems,Nat.mul_one,Sem.run_bind,px,py,Result.andThen_ok,heq];cases r1
     ·simp
     ·simpa using I
   rw[List.range_eq_range'];exact key m 0 b (by omega) (by simpa using hb)
  ·rename_i fs;split at h
   ·cases h
   ·rename_i c4;subst H;obtain⟨xs,rfl,rx⟩:=hx;obtain⟨ys,rfl,ry⟩:=hy;have a5:P.stoodInHeld t=false:=by simpa using c4
    have c1:P.fieldsOf t=fs:=by simp[Program.fieldsOf,hu]
    rw[run_equalIn_struct w k' t xs ys (by rw[c1];exact hu) a5,c1];obtain⟨U,T⟩:=H4 _ _ _ _ hb
    have key:∀(l:List Field) (u:List CK),l.foldl (λ acc f=>acc.bind λ ks=>if f.name ≠ "_" /\f.offset=ks.length then
      (match eqTy P d f.type,(P.info? f.type).map (·.size) with
       | some n,some m=>if n.length=m then some (ks++n) else none
       | _,_=>none) else none) (some u)=some ks->u.length<=ks.length ->
      ∀b',(∃O,ks=u++O/\eqCells O (ds.drop u.length) (es.drop u.length)=some b')->(Op.eqFields k' xs ys l).run P w=.ok b' w:=by
     intro l
     induction l with
     | nil =>
      intro u h0 hle b' G;obtain⟨O,rfl,G⟩:=G;simp at h0;subst h0;have e1:ds.drop u.length=[]:=by simp;simp at U;omega
      have e2:es.drop u.length=[]:=by simp;simp at T;omega
      rw[e1,e2]at G;simp[eqCells]at G;subst G;simp[Op.eqFields]
     | cons f r c3 =>
      intro u h0 hle b' G;obtain⟨O,e4,G⟩:=G;rw[List.foldl_cons]at h0;simp only[Option.bind_some]at h0;split at h0
      ·rename_i hc;obtain⟨S,a7⟩:=hc
       cases hq:eqTy P d f.type with
       | none=>grind [fY]
       | some n =>
        cases hs:(P.info? f.type).map (·.size) with
        | none=>grind [fY]
        | some m =>
         simp only[hq,hs]at h0;split at h0
         ·rename_i c5;subst c5
          have a6:∀(l:List Field) (ka kb:List CK),l.foldl (λ acc f=>acc.bind λ ks=>if f.name ≠ "_" /\f.offset=ks.length then
            (match eqTy P d f.type,(P.info? f.type).map (·.size) with
             | some n,some m=>if n.length=m then some (ks++n) else none
             | _,_=>none) else none) (some ka)=some kb->∃V,kb=ka++V:=by
           intro l
           induction l with
           | nil=>intro ka kb hh;simp at hh;exact⟨[],by simp[hh]⟩
           | cons g s e0 =>
            grind [fY]
          obtain⟨V,a8⟩:=a6 r _ _ h0
          have c7:O=n++V:=by
           grind [List.append_cancel_left]
          rw[c7]at G;have hlen:ks.length=u.length+n.length+V.length:=by rw[a8];simp;omega
          have sd:ds.drop u.length=(ds.drop u.length).take n.length++ds.drop (u.length+n.length):=by
           grind [List.drop_drop,List.take_append_drop]
          have se:es.drop u.length=(es.drop u.length).take n.length++es.drop (u.length+n.length):=by
           grind [List.drop_drop,List.take_append_drop]
          rw[sd,se]at G;obtain⟨r1,r2,e1,e2,rfl⟩:=Af n V _ _ _ _ _ (by simp;omega) (by simp;omega) G
          have E:∃agg,TyIs P f.type n.length agg/\(agg=false->n.length=1):=by
           cases d with
           | zero=>simp[eqTy]at hq
           | succ d =>
            unfold eqTy at hq
            cases a1:P.underlying f.type with
            | none=>simp[a1]at hq
            | some dd =>
             refine⟨_,⟨hs,dd,a1,rfl⟩,?_⟩;grind
          obtain⟨Q,E,h1⟩:=E;obtain⟨vx,px,qx⟩:=E4 (P:=P) (w:=w) rx E (off:=u.length) (by omega) h1;obtain⟨vy,py,qy⟩:=E4 (P:=P) (w:=w) ry E (off:=u.length) (by omega) h1;have heq:=ih f.type n hq Q E _ _ vx vy r1 qx qy e1 k' (by omega);have I:=c3 (u++n) h0 (by simp;omega) r2 ⟨V,a8,by grind⟩;simp only[Op.eqFields,if_pos S,Sem.run_bind,a7,px,py,Result.andThen_ok,heq];cases r1
          ·simp
          ·simpa using I
         grind [fY]
      grind [fY]
    grind
theorem abQ {o:Oper}{t t':TypeId}{x y:Operand}{x' y':Arg}{ks:List CK}{agg:Bool}(neg:Bool) (ho:o.op=.binOp (if neg then .neq else .eql) t x y t') (hx:cArg x=some x') (hy:cArg y=some y')
  (hd:∀i,o.dst=some i->i<nt) (ht:eqTy P 100 t=some ks) (hty:TyIs P t ks.length agg) (hg:P.eqGuardType P.depth t=false) (hsc:agg=false->ks=[.b]):gK P nt o (.eqv neg agg ks x' y'):=by
 refine gK.pure hd λ K e c w a u hp hr hs=>?_
 have rx:=aH hx hs;have S:=aH hy hs;simp only[vcOp]at u;obtain⟨Z,W,u⟩:=u;unfold veqv at u
 cases hb:eqCells ks (x'.get e).cells (y'.get e).cells with
 | none=>simp[hb]at u
 | some b =>
  simp only[hb]at u;refine⟨_,_,?_,.bool _,u⟩
  cases agg with
  | false =>
   have:=hsc rfl;subst this;generalize x'.get e=Q at *;generalize y'.get e=O at *
   have G:MU c false Q.cells (a.eval x)/\MU c false O.cells (a.eval y):=by
    constructor
    ·cases Q<;>simp[D.isAgg]at Z<;>exact⟨_,rfl,rx⟩
    ·cases O<;>simp[D.isAgg]at W<;>exact⟨_,rfl,S⟩
   have heq:=HS (P:=P) (w:=w) 100 t _ ht false hty _ _ _ _ b G.1 G.2 hb 10000 (by omega);cases Q<;>simp[D.isAgg]at Z<;>cases O<;>simp[D.isAgg]at W<;>simp only[D.cells,eqCells]at hb<;>try (cases hb;done)
   have ex:=zL rx;have U:=zL S;rw[ex,U]at heq;cases neg
   ·simp only[execOp,ho,ex,U,if_false,dj,eqGuard,binOp,Op.equal,Op.maxDepth];simp[heq]
   ·simp only[execOp,ho,ex,U,if_true,eqGuard,binOp,Op.equal,Op.maxDepth];simp[heq]
  | true =>
   generalize x'.get e=Q at *;generalize y'.get e=O at *;cases Q<;>simp[D.isAgg]at Z;cases O<;>simp[D.isAgg]at W;generalize hex:a.eval x=vx at rx;generalize I:a.eval y=vy at S;rename_i cs V
   cases rx with
   | agg _ xs hsz hone hrel =>
    cases S with
    | agg _ ys H E T =>
     have heq:=HS (P:=P) (w:=w) 100 t ks ht true hty cs V (.agg xs) (.agg ys) b ⟨xs,rfl,by simpa using hsz,λ i d hd=>⟨hone i d hd,by rw[aO];exact hrel i d hd⟩⟩
      ⟨ys,rfl,by simpa using H,λ i d hd=>⟨E i d hd,by grind [aO]⟩⟩ hb 10000 (by omega)
     cases neg
     ·simp only[execOp,ho,hex,I,if_false,dj];simp[run_eqGuard_agg w _ t x y xs ys hg,run_eql_struct,heq]
     ·simp only[execOp,ho,hex,I,if_true];simp[run_eqGuard_agg w _ t x y xs ys hg,run_neq_struct,heq]
end Go.Am
namespace Go.Am
open Go
variable [ck]
variable {P:Program}{nt:Nat}
theorem nY {c:Ctx}(hr:au c){n g:Nat}(hm:(c.h n).mine) (hρ:c.ρ n=some g):g<c.hp.size:=by
 have hs:=hr.slot n
 cases hx:c.h n with
 | box v =>
  rw[hx]at hs;obtain⟨u,cur,ty,h1,h2,_⟩:=hs;grind
 | arr e l =>
  rw[hx]at hs;obtain⟨_,_,_,⟨h1,_⟩|⟨u,cur,ty,h1,h2,_⟩⟩:=hs
  ·rw[hρ]at h1;cases h1
  grind
 | lp st B =>
  rw[hx]at hs;obtain⟨u,tmps,dfs,h1,h2,_⟩:=hs;grind
 | map kt l =>
  rw[hx]at hs;obtain⟨u,es,clock,h1,h2,_⟩:=hs;grind
 | _=>rw[hx]at hm;cases hm
theorem kr {c c':Ctx}(hle:c.le c'){n:Nat}{s:Slot}(hs:dg c n s) (hρ:s≠.free->s≠.dead->c'.ρ n=c.ρ n) (hb:∀g,s.mine->c.ρ n=some g->c'.hp[g]?=c.hp[g]?):dg c' n s:=by
 cases s with
 | free=>trivial
 | dead=>trivial
 | box v =>
  obtain⟨g,cur,ty,h1,h2,h3,h4⟩:=hs;exact⟨g,cur,ty,(hρ (by simp) (by simp)).trans h1,(hb g trivial h1).trans h2,h3,λ i d hd=>⟨(h4 i d hd).1,(h4 i d hd).2.mono hle⟩⟩
 | arr e l =>
  obtain⟨h1,h2,h3,h4⟩:=hs;refine⟨h1,h2,h3,?_⟩;rcases h4 with⟨E,u⟩|⟨g,cur,ty,E,u,H,G⟩
  ·grind
  ·exact Or.inr ⟨g,cur,ty,(hρ (by simp) (by simp)).trans E,(hb g trivial E).trans u,H,λ i j d hd=>(G i j d hd).mono hle⟩
 | frz e l =>
  obtain⟨h1,h2,h3,h4⟩:=hs;refine⟨h1,h2,h3,?_⟩;rcases h4 with⟨E,u⟩|⟨g,cur,ty,fr,E,u,H,G,I⟩
  ·grind
  ·have hg:=(Array.getElem?_eq_some_iff.1 u).1;exact Or.inr ⟨g,cur,ty,fr,(hρ (by simp) (by simp)).trans E,(hle.same hg G).trans u,H,hle.Ks hg G,λ i j d hd=>(I i j d hd).mono hle⟩
 | lp st B =>
  obtain⟨g,tmps,dfs,h1,h2,h3,h4⟩:=hs;exact⟨g,tmps,dfs,(hρ (by simp) (by simp)).trans h1,(hb g trivial h1).trans h2,h3,λ i=>(h4 i).mono hle⟩
 | map kt l =>
  obtain⟨g,es,clock,h1,h2,h3,O,h4⟩:=hs;refine⟨g,es,clock,(hρ (by simp) (by simp)).trans h1,(hb g trivial h1).trans h2,h3,O,λ i p hp=>?_⟩;obtain⟨E,u,e,H,G,I⟩:=h4 i p hp;exact⟨E,u,e,H,G.mono hle,I.mono hle⟩
structure kI (c c':Ctx) (m n g:Nat):Prop where
 X:c'.X=c.X
 hother:∀k,k≠n->k≠m->c'.h k=c.h k
 ρother:∀k,k≠n->c'.ρ k=c.ρ k
 hn:n=m\/c.h n=.free
 hm:n≠m->c'.h m=.dead/\Trans (c.h m) .dead
 mine:(c'.h n).mine
 ρn:c'.ρ n=some g
 tn:Trans (c.h n) (c'.h n)
 old:c.h n≠.free->c.ρ n=some g
 size:c.hp.size<=c'.hp.size
 hp:∀k,k<c.hp.size->k≠g->c'.hp[k]?=c.hp[k]?
 shape:∀(cur:Array Value) (ty:TypeId) (fr:Nat×Nat),c.hp[g]?=some (Obj.cells cur ty fr)->∃cur':Array Value,c'.hp[g]?=some (Obj.cells cur' ty fr)/\cur'.size=cur.size
 loop:∀(r:Loop),c.hp[g]?=some (.loop r)->∃r':Loop,c'.hp[g]?=some (.loop r')/\r'.defers=r.defers
 from':c.hp.size<=g\/((c.h m).mine/\c.ρ m=some g)
theorem kI.le {c c':Ctx}{m n g:Nat}(s:kI c c' m n g):c.le c' where
 size:=s.size
 X:=s.X
 aS k hk H:=by
  refine s.hp k hk ?_;rintro rfl;rcases s.from' with h|⟨h1,h2⟩
  ·omega
  ·exact H m h1 h2
 shape k cur ty fr hk:=by
  by_cases G:k=g
  ·subst G;exact s.shape cur ty fr hk
  ·exact⟨cur,(s.hp k (Array.getElem?_eq_some_iff.1 hk).1 G).trans hk,rfl⟩
 loop k r hk:=by
  by_cases G:k=g
  ·subst G;exact s.loop r hk
  ·exact⟨r,(s.hp k (Array.getElem?_eq_some_iff.1 hk).1 G).trans hk,rfl⟩
 names k hk:=by
  by_cases u:k=n
  ·subst u;rw[s.ρn,s.old hk]
  ·exact s.ρother k u
 tr k:=by
  by_cases u:k=n
  ·subst u;exact s.tn
  ·by_cases E:k=m
   ·subst E;obtain⟨h1,h2⟩:=s.hm (λ e=>u e.symm);rw[h1];exact h2
   ·rw[s.hother k u E];exact Trans.refl _
 born k I hm hρ hg:=by
  by_cases u:k=n
  ·subst u;rw[s.ρn]at hρ;cases hρ;rcases s.from' with h|⟨h1,h2⟩
   ·omega
   ·exact⟨m,h1,h2⟩
  ·by_cases E:k=m
   ·subst E;rw[(s.hm (λ e=>u e.symm)).1]at hm;cases hm
   ·rw[s.hother k u E]at hm;rw[s.ρother k u]at hρ;exact⟨k,hm,hρ⟩
theorem kI.heap {c c':Ctx}{m n g:Nat}(s:kI c c' m n g) (hr:au c) (hs:dg c' n (c'.h n)):au c' where
 slot k:=by
  by_cases u:k=n
  ·subst u;exact hs
  ·by_cases E:k=m
   ·subst E;rw[(s.hm (λ e=>u e.symm)).1];trivial
   ·rw[s.hother k u E];refine kr s.le (hr.slot k) (λ _ _=>s.ρother k u) (λ G H hρ=>?_);refine s.hp G (nY hr H hρ) ?_;rintro rfl;rcases s.from' with h|⟨h1,h2⟩
    ·have:=nY hr H hρ;omega
    ·exact E (hr.inj k m G H h1 hρ h2)
 inj Q O G T S V U:=by
  have key:∀k,k≠n->(c'.h k).mine->c'.ρ k=some g->False:=by
   intro k u hm hρ;by_cases E:k=m
   ·subst E;rw[(s.hm (λ e=>u e.symm)).1]at hm;cases hm
   ·rw[s.hother k u E]at hm;rw[s.ρother k u]at hρ;rcases s.from' with h|⟨h1,h2⟩
    ·have:=nY hr hm hρ;omega
    ·exact E (hr.inj k m g hm h1 hρ h2)
  by_cases h1:Q=n
  ·by_cases h2:O=n
   ·rw[h1,h2]
   ·subst h1;rw[s.ρn]at V;grind
  ·by_cases h2:O=n
   ·subst h2;rw[s.ρn]at U;grind
   ·have Z:Q≠m:=by
     rintro rfl;rw[(s.hm (λ e=>h1 e.symm)).1]at T;cases T
    have W:O≠m:=by
     rintro rfl;rw[(s.hm (λ e=>h2 e.symm)).1]at S;cases S
    rw[s.hother Q h1 Z]at T;rw[s.hother O h2 W]at S;rw[s.ρother Q h1]at V;rw[s.ρother O h2]at U;exact hr.inj Q O G T S V U
 apart k G hm hρ I:=by
  rw[s.X]at I;by_cases u:k=n
  ·subst u;rw[s.ρn]at hρ;cases hρ;rcases s.from' with h|⟨h1,h2⟩
   ·have:=hr.xlt g I;omega
   ·exact hr.apart m g h1 h2 I
  ·by_cases E:k=m
   ·subst E;rw[(s.hm (λ e=>u e.symm)).1]at hm;cases hm
   ·rw[s.hother k u E]at hm;rw[s.ρother k u]at hρ;exact hr.apart k G hm hρ I
 xlt G I:=by
  rw[s.X]at I;exact Nat.lt_of_lt_of_le (hr.xlt G I) s.size
 fin:=by
  obtain⟨N,hN⟩:=hr.fin;refine⟨N+n+m+1,λ k hk=>?_⟩;rw[s.hother k (by omega) (by omega)];exact hN k (by omega)
 glob:=hr.glob.mono s.le
 lo:=by rw[s.X];exact Nat.le_trans hr.lo s.size
theorem dC {c:Ctx}(hr:au c):∃n,pB c.h n:=by
 obtain⟨N,hN⟩:=hr.fin
 induction N with
 | zero=>exact⟨0,hN,λ k h=>by omega⟩
 | succ N u =>
  by_cases h:c.h N=.free
  ·grind
  ·refine⟨N+1,hN,λ k hk=>?_⟩;grind
theorem kI.new {c:Ctx}{n:Nat}(hn:c.h n=.free){s:Slot}(hm:s.mine) (o:Obj){hp':Array Obj}(hhp:hp'=c.hp.push o) :
  kI c ⟨ak c.ρ n (some c.hp.size),c.X,ak c.h n s,hp'⟩ n n c.hp.size where
 X:=rfl
 hother k h1 _:=by simp[ak,h1]
 ρother k h1:=by simp[ak,h1]
 hn:=Or.inl rfl
 hm h:=absurd rfl h
 mine:=by simpa[ak] using hm
 ρn:=by simp[ak]
 tn:=by rw[hn];exact .free _
 old h:=absurd hn h
 size:=by subst hhp;simp
 hp k h1 _:=by grind
 shape cur ty fr h:=by
  grind
 loop r h:=by
  grind
 from':=Or.inl (Nat.le_refl _)
theorem mF (hp:Array Obj) (o:Obj):(hp.push o)[hp.size]?=some o:=by simp
theorem T2 {o:Oper}{op:AOp}(hd:∀i,o.dst=some i->i<nt)
  (hx:∀(K:HKq) (e:LEnv) (c:Ctx) (w:World) (a:Act),vcOp P op K e c.h->c.hp=w.heap->au c->oe c nt e.get a ->
   ∃(n:Nat) (s:Slot) (d:D) (cells:Array Value) (ty:TypeId) (v:Value),c.h n=.free/\s.mine/\(execOp a.eval o).run P w=.ok (.value v) (w.alloc (.cells cells ty)) /\
    (∀c',c.le c'->c'.hp=w.heap.push (.cells cells ty)->c'.h=ak c.h n s->c'.ρ=ak c.ρ n (some w.heap.size)->dg c' n s/\aA c' d v)/\K d (ak c.h n s)):gK P nt o op:=by
 refine gK.unit λ K e c w a H hp hr hs=>?_
 obtain⟨n,s,d,cells,ty,v,kS,E,G,hrel,hk⟩:=hx K e c w a H hp hr hs;have u:=kI.new kS E (.cells cells ty) (hp':=(w.alloc (.cells cells ty)).heap) (by rw[hp];rfl);obtain⟨h1,h2⟩:=hrel _ u.le rfl rfl (by rw[hp]);refine⟨.value v,w.alloc (.cells cells ty),ak c.ρ n (some c.hp.size),ak c.h n s,d,G,Or.inr ⟨v,rfl,hd,h2⟩,u.le,u.heap hr (by simpa[ak] using h1),⟨rfl,rfl,rfl⟩,hk⟩
theorem K4 {c':Ctx}{hp:Array Obj}{n:Nat}{d:D}{vs:Array Value}{ty:TypeId}(hhp:c'.hp=hp.push (.cells vs ty)) (hρ:c'.ρ n=some hp.size) (h:iF c' d.cells vs.toList):dg c' n (.box d):=by
 refine⟨hp.size,vs,ty,hρ,by rw[hhp];exact mF _ _,by simpa using h.len,λ i x hx=>?_⟩;obtain⟨h1,h2⟩:=h.rel i x hx;grind [aO]
theorem bB {t:TypeId}{z:Value}(h:(P.info? t).bind (·.zero)=some z) (w:World):(zeroValue t).run P w=.ok z w:=by
 cases hi:P.info? t with
 | none=>simp[hi]at h
 | some i =>
  simp[hi]at h;unfold zeroValue;simp[run_typeInfo hi,h]
theorem cA (ty:TypeId) (vs:Array Value) (w:World):(newRow ty vs).run P w=.ok ⟨w.heap.size,0,none⟩ (w.alloc (.cells vs ty)):=by
 simp[newRow,run_newObj]
theorem gC {t:TypeId}{zd:D}(h:eJ P t=some zd):∃z,(P.info? t).bind (·.zero)=some z/\D.ofV z=some zd:=by
 unfold eJ at h
 cases u:(P.info? t).bind (·.zero) with
 | none=>simp[u]at h
 | some z=>grind
theorem W1 {o:Oper}{t:TypeId}{zd:D}(ho:o.op=.alloc t) (hz:eJ P t=some zd) (hd:∀i,o.dst=some i->i<nt):gK P nt o (.alloc zd):=by
 obtain⟨z,E,u⟩:=gC hz;refine T2 hd λ K e c w a G hp hr hs=>?_
 simp only[vcOp]at G;obtain⟨n,ht⟩:=dC hr;have hn:=ht.free;refine⟨n,.box zd,.ptr n 0 0,z.cells,t,.pointer (some ⟨w.heap.size,0,none⟩),hn,trivial,?_,?_,G n ht⟩
 ·simp[execOp,ho,Instr.alloc,bB E,newVar,cA]
 ·intro c' hle h1 h2 h3;refine⟨K4 h1 (by rw[h3];simp[ak]) (dB (gP u c') (gz u)),.ptrBox n 0 _ zd (by rw[h2];simp[ak]) (by rw[h3];simp[ak])⟩
theorem abT {o:Oper}{t:TypeId}{x:Operand}{x':Arg}(ho:o.op=.box t x) (hx:cArg x=some x') (hd:∀i,o.dst=some i->i<nt):gK P nt o (.box x'):=by
 refine T2 hd λ K e c w a u hp hr hs=>?_
 simp only[vcOp]at u;obtain⟨hone,u⟩:=u;have rx:=aH hx hs;obtain⟨n,ht⟩:=dC hr;have hn:=ht.free;refine⟨n,.box (x'.get e),.ptr n 0 0,(a.eval x).cells,t,.pointer (some ⟨w.heap.size,0,none⟩),hn,trivial,?_,?_,u n ht⟩
 ·simp[execOp,ho,Instr.box,newVar,cA]
 ·intro c' hle h1 h2 h3;refine⟨K4 h1 (by rw[h3];simp[ak]) ((dB rx hone).mono hle),.ptrBox n 0 _ (x'.get e) (by rw[h2];simp[ak]) (by rw[h3];simp[ak])⟩
theorem Ar {c':Ctx}{hp:Array Obj}{n esz:Nat}{els:List D}{vs:Array Value}{ty:TypeId}(hhp:c'.hp=hp.push (.cells vs ty)) (hρ:c'.ρ n=some hp.size) (he:0<esz)
  (hlen:∀e∈els,e.cells.length=esz) (hsz:els.length*esz<=vs.size) (h:∀i j d,aP els i j=some d->d.one=true/\aA c' d (vs.getD (i*esz+j) Go.undef)):dg c' n (.arr esz els) :=
 ⟨he,hlen,λ i j d hd=>(h i j d hd).1,Or.inr ⟨hp.size,vs,ty,hρ,by rw[hhp];exact mF _ _,hsz,λ i j d hd=>(h i j d hd).2⟩⟩
theorem iu {n i j:Nat}{z d:D}(h:aP (List.replicate n z) i j=some d):i<n/\z.cells[j]?=some d:=by
 grind [aP]
theorem Ku (z:Array Value) (hz:0<z.size) (n k:Nat) (hk:k<n):((Array.range n).map (λ i=>z[i % z.size]!)).getD k Go.undef=z.getD (k % z.size) Go.undef:=by
 have u:=Nat.mod_lt k hz;simp[Array.getD,hk,u]
theorem adn {o:Oper}{t elem:TypeId}{x y:Operand}{x' y':Arg}{i:TypeInfo}{zd:D}(ho:o.op=.makeSlice t x y) (hx:cArg x=some x') (hy:cArg y=some y') (hd:∀i,o.dst=some i->i<nt)
  (hu:P.underlying t=some (.slice elem)) (hi:P.info? elem=some i) (hz:eJ P elem=some zd) (hsz:zd.cells.length=i.size) (hpos:0<i.size):gK P nt o (.mk i.size i.bytes zd x' y'):=by
 obtain⟨z,I,H⟩:=gC hz;refine T2 hd λ K e c w a u hp hr hs=>?_
 simp only[vcOp]at u;have rx:=aH hx hs;have ry:=aH hy hs;generalize a7:x'.get e=dx at u rx;generalize a6:y'.get e=dy at u ry;unfold vint at u;split at u
 case h_2=>exact u.elim
 rename_i k l;split at u
 case h_2=>exact u.elim
 rename_i k' m;obtain⟨h0,h1,h2,h3,u⟩:=u;have ex:=gO rx;have ey:=gO ry;obtain⟨n,ht⟩:=dC hr;have hn:=ht.free;have G:=dB (gP H c) (gz H);have W:z.cells.size=i.size:=by rw[<- hsz, <- G.len];simp
 have wl:IntKind.i64.wrap l=l:=by grind [IntKind.wrap,IntKind.bits]
 have wm:IntKind.i64.wrap m=m:=by grind [IntKind.wrap,IntKind.bits]
 have U:¬(m<0):=by omega
 have T:¬((i.bytes:Int)*m>281474976710656):=by rw[Int.mul_comm];omega
 have S:¬(l<0):=by omega
 have Q:¬(l>m):=by omega
 have E:¬(m.toNat*i.bytes>140737488355328):=by
  grind
 let vs:=(Array.range (m.toNat*i.size)).map (λ k=>z.cells[k % z.cells.size]!)
 have V:(do let zero <- (if m.toNat*i.size=0 then pure #[] else do pure (<- zeroValue elem).cells:Sem (Array Value));pure ((Array.range (m.toNat*i.size)).map (λ k=>zero[k % zero.size]!)):Sem (Array Value)).run P w=.ok vs w:=by
  by_cases h:m.toNat*i.size=0
  ·simp[h,vs]
  ·simp[h,vs,bB I]
 have Z:vs.size=m.toNat*i.size:=by simp[vs]
 refine⟨n,.arr i.size (List.replicate l.toNat zd),.ms n 0 l.toNat,vs,elem,.slice (some ⟨w.heap.size,0,none⟩) l.toNat m.toNat,hn,trivial,?_,?_,u n ht⟩
 ·have O:(P.info? elem).map (·.size)=some i.size:=by simp[hi]
  by_cases h:m.toNat*i.size=0
  ·have a1:vs = #[]:=by grind
   rw[a1];simp[execOp,ho,ex,ey,Instr.makeSlice,run_underlying hu,asInt,asIntOf,run_typeInfo hi,wl,wm,U,T,S,Q,askRoom,E,run_sizeOf O,h,cA,Array.range_zero']
  ·simp[execOp,ho,ex,ey,Instr.makeSlice,run_underlying hu,asInt,asIntOf,run_typeInfo hi,wl,wm,U,T,S,Q,askRoom,E,run_sizeOf O,h,bB I,cA,vs]
 ·intro c' hle g1 g2 g3;have hρ:c'.ρ n=some w.heap.size:=by rw[g3];simp[ak]
  have hh:(c'.h n).row=some (i.size,List.replicate l.toNat zd):=by rw[g2];simp[ak,Slot.row]
  have a5:l.toNat*i.size<=m.toNat*i.size:=Nat.mul_le_mul_right _ (by omega);refine⟨Ar g1 hρ hpos (λ e he=>by grind) (by simp;omega) (λ a b d hd=>?_),?_⟩
  ·obtain⟨q1,q2⟩:=iu hd;have hb:b<i.size:=by grind
   obtain⟨p1,p2⟩:=G.rel b d q2;refine⟨p1,?_⟩
   have a2:a*i.size+b<m.toNat*i.size:=by
    have:(a+1)*i.size<=m.toNat*i.size:=Nat.mul_le_mul_right _ (by omega);grind
   rw[Ku z.cells (by omega) _ _ a2,W]
   have:(a*i.size+b) % i.size=b:=by
    grind [Nat.mul_comm,Nat.mul_add_mod,Nat.mod_eq_of_lt]
   rw[this, <- aO];exact p2.mono hle
  ·have:=aA.ms (c:=c') n 0 l.toNat w.heap.size i.size m.toNat _ vs elem (0,0) hh hρ (by simp) (by rw[g1];exact mF _ _) (by rw[Z];simp) (by omega) (by unfold maxLen;omega);simpa using this
end Go.Am
namespace Go.Am
open Go
variable [ck]
variable {P:Program}{nt:Nat}
theorem Ok {α:Type}(cur vs:List α) (p k:Nat) (z:α) (h:p+vs.length<=cur.length) :
  (cur.take p++vs++cur.drop (p+vs.length)).getD k z=if k<p then cur.getD k z else if k<p+vs.length then vs.getD (k-p) z else cur.getD k z:=by
 grind
theorem Aj {d:D}{j:Nat}{new:List D}(hd:d.isAgg=true\/d.one=true) (h:j+new.length<=d.cells.length) (hpos:0<new.length) (hone:∀x∈new,x.one=true) :
  (setCells d j new).cells=d.cells.take j++new++d.cells.drop (j+new.length):=by
 cases d with
 | agg cs=>rfl
 | tup ds=>simp[D.isAgg,D.one]at hd
 | undef=>simp[D.isAgg,D.one]at hd
 | _ =>
  simp only[D.cells,List.length_singleton]at h;have h0:j=0:=by omega
  have h1:new.length=1:=by omega
  obtain⟨x,rfl⟩:=List.length_eq_one_iff.1 h1;subst h0
  have hx:x.cells=[x]:=by
   have:=hone x (by simp);cases x<;>simp_all [D.one,D.cells]
  grind [setCells,D.cells]
theorem Lg {d:D}(h:∀(i:Nat) (x:D),d.cells[i]?=some x->x.one=true):d.isAgg=true\/d.one=true:=by
 by_cases ha:d.isAgg=true
 ·exact Or.inl ha
 ·refine Or.inr (h 0 d ?_);cases d<;>simp_all [D.cells,D.isAgg]
theorem setRow_size (w:World) (g:Nat) (cs:Array Value):(w.setRow g cs).heap.size=w.heap.size:=by simp[World.setRow]
theorem kI.write {c:Ctx}{n g:Nat}{w:World}{cur vs:Array Value}{ty:TypeId}{s:Slot}(hp:c.hp=w.heap) (hg:w.heap[g]?=some (.cells cur ty (0,0))) (hsz:vs.size=cur.size)
  (hm:(c.h n).mine) (hρ:c.ρ n=some g) (ht:Trans (c.h n) s) (hs:s.mine):kI c ⟨c.ρ,c.X,ak c.h n s,(w.setRow g vs).heap⟩ n n g where
 X:=rfl
 hother k h1 _:=by simp[ak,h1]
 ρother k h1:=rfl
 hn:=Or.inl rfl
 hm h:=absurd rfl h
 mine:=by simpa[ak] using hs
 ρn:=hρ
 tn:=by simpa[ak] using ht
 old _:=hρ
 size:=by grind [setRow_size]
 hp k h1 h2:=by grind [setRow_other]
 shape cur' u fr h:=by
  grind [setRow_heap]
 loop r h:=by rw[hp,hg]at h;cases h
 from':=Or.inr ⟨hm,hρ⟩
theorem IQ {w:World}{g o:Nat}{cur:Array Value}{t ty:TypeId}{v:Value}{size:Nat}(hg:w.heap[g]?=some (.cells cur ty (0,0))) (ht:(P.info? t).map (·.size)=some size)
  (hsz:v.cells.size=size) (hl:o+size<=cur.size) (h1:∀x∈v.cells.toList,x.oneCell'=true) :
  (storeVar t ⟨g,o,none⟩ v).run P w=.ok () (w.setRow g (cur.toList.take o++v.cells.toList++cur.toList.drop (o+v.cells.toList.length)).toArray):=by
 have hr:=run_storeCells_at P g o ty v.cells.toList 0 cur w hg (by simpa[hsz] using hl) h1;simp only[Nat.add_zero]at hr;unfold storeVar;simp only[Sem.run_bind,run_sizeOf ht,Result.andThen_ok,hsz];grind
theorem Qw {els:List D}{i i' j':Nat}{d' x:D}(h:aP (els.set i d') i' j'=some x):(i'=i/\d'.cells[j']?=some x/\i<els.length)\/(i'≠i/\aP els i' j'=some x):=by
 grind [aP]
theorem adm {o:Oper}{t:TypeId}{x v:Operand}{x' v':Arg}{size:Nat}(ho:o.op=.store t x v) (hx:cArg x=some x') (hv:cArg v=some v') (ht:(P.info? t).map (·.size)=some size) (hpos:0<size)
  (hd:o.dst=none):gK P nt o (.st x' v' size):=by
 refine gK.unit λ K e c w a G hp hr hs=>?_
 simp only[vcOp]at G;obtain⟨hlen,hone,G⟩:=G;have rx:=aH hx hs;have rv:=dB (aH hv hs) hone;generalize e0:x'.get e=dx at G rx;cases dx<;>try exact G.elim
 rename_i n i j;have I:(a.eval v).cells.size=size:=by rw[<- hlen, <- rv.len];simp
 have exec:∀(g q:Nat) (cur:Array Value) (ty:TypeId),a.eval x=.pointer (some ⟨g,q,none⟩)->w.heap[g]?=some (.cells cur ty (0,0))->q+size<=cur.size ->
   (execOp a.eval o).run P w=.ok .skip (w.setRow g (cur.toList.take q++(a.eval v).cells.toList++cur.toList.drop (q+(a.eval v).cells.toList.length)).toArray):=by
  intro g q cur ty he hg hl;have:=IQ (P:=P) hg ht I hl rv.Ko;simp[execOp,ho,he,Instr.storeAt,Instr.sureAddr,this]
 cases hn:c.h n<;>simp only[hn]at G<;>try exact G.elim
 ·
  rename_i d;obtain⟨rfl,hl,hk⟩:=G;have V:=hr.slot n;rw[hn]at V;obtain⟨g,cur,ty,hρ,hg,a1,E⟩:=V
  have he:a.eval x=.pointer (some ⟨g,j,none⟩):=by
   grind [Nm]
  have T:w.heap[g]?=some (.cells cur ty (0,0)):=hp ▸ hg;have c3:iF c d.cells cur.toList:=⟨by simpa using a1,λ k y hy=>⟨(E k y hy).1,by grind [aO]⟩⟩;have a6:=Lg (λ k y hy=>(E k y hy).1);have a2:=Aj (j:=j) (new:=(v'.get e).cells) a6 (by omega) (by omega) hone
  let vs:=(cur.toList.take j++(a.eval v).cells.toList++cur.toList.drop (j+(a.eval v).cells.toList.length)).toArray
  have Z:vs.size=cur.size:=by simp[vs,I];omega
  have Q:=kI.write (s:=.box (setCells d j (v'.get e).cells)) hp T Z (by rw[hn];trivial) hρ (by rw[hn];exact .boxBox _ _) trivial
  have hrel:iF c (setCells d j (v'.get e).cells).cells vs.toList:=by
   rw[a2];have e1:(v'.get e).cells.length=(a.eval v).cells.toList.length:=rv.len.symm;rw[e1];simp only[vs];exact((c3.take j).append rv).append (c3.drop _)
  refine⟨_,_,c.ρ,_,.undef,exec g j cur ty he T (by rw[a1];omega),Or.inl ⟨rfl,hd⟩,Q.le,Q.heap hr ?_,⟨rfl,rfl,rfl⟩,hk⟩;have W:=hrel.mono Q.le;simp only[af];exact⟨g,vs,ty,hρ,setRow_heap w g cur vs ty (0,0) T,by simpa using hrel.len,λ k y hy=>⟨(W.rel k y hy).1,by rw[<- aO];exact(W.rel k y hy).2⟩⟩
 ·
  rename_i esz els;obtain⟨hi,hl,hk⟩:=G;have V:=hr.slot n;rw[hn]at V;obtain⟨c8,S,H,a7⟩:=V;have U:els[i]?=some els[i]:=by simp[hi]
  obtain⟨g,he,hρ,_⟩:=mem_row hr (by rw[hn];rfl) U rx;rcases a7 with⟨h1,_⟩|⟨g',cur,ty,h1,hg,a1,E⟩
  ·rw[hρ]at h1;cases h1
  ·rw[hρ]at h1;cases h1;have T:w.heap[g]?=some (.cells cur ty (0,0)):=hp ▸ hg;have e5:els[i].cells.length=esz:=S _ (List.getElem_mem hi)
   have c9:i*esz+esz<=els.length*esz:=by
    have:=Nat.mul_le_mul_right esz (show i+1<=els.length from hi);grind
   have a6:=Lg (d:=els[i]) (λ k y hy=>H i k y (iv U hy));have a2:=Aj (j:=j) (new:=(v'.get e).cells) a6 (by omega) (by omega) hone
   let vs:=(cur.toList.take (i*esz+j)++(a.eval v).cells.toList++cur.toList.drop (i*esz+j+(a.eval v).cells.toList.length)).toArray
   have Z:vs.size=cur.size:=by simp[vs,I];omega
   have Q:=kI.write (s:=.arr esz (els.set i (setCells els[i] j (v'.get e).cells))) hp T Z (by rw[hn];trivial) hρ (by rw[hn];exact .arrArr _ _ _ (by simp)) trivial;refine⟨_,_,c.ρ,_,.undef,exec g _ cur ty he T (by omega),Or.inl ⟨rfl,hd⟩,Q.le,Q.heap hr ?_,⟨rfl,rfl,rfl⟩,hk _ U⟩;simp only[af];have c5:(setCells els[i] j (v'.get e).cells).cells.length=esz:=by grind
   have c4:(a.eval v).cells.toList.length=size:=by simpa using I
   have get:∀k,vs.getD k Go.undef=if k<i*esz+j then cur.getD k Go.undef else if k<i*esz+j+size then(a.eval v).cells.toList.getD (k-(i*esz+j)) Go.undef else cur.getD k Go.undef:=by
    intro k;rw[<- aO];simp only[vs];rw[Ok _ _ _ _ _ (by simp[I];omega),c4,aO]
   have main:∀i' O y,aP (els.set i (setCells els[i] j (v'.get e).cells)) i' O=some y->y.one=true/\aA c y (vs.getD (i'*esz+O) Go.undef):=by
    intro i' O y hy;rcases Qw hy with⟨rfl,u,_⟩|⟨hne,u⟩
    ·rw[a2]at u;have c7:O<esz:=by grind
     rw[get];by_cases c1:O<j
     ·rw[if_pos (by omega)];rw[List.append_assoc,List.getElem?_append_left (by simp;omega),List.getElem?_take,if_pos c1]at u;exact⟨H _ _ _ (iv U u),E _ _ _ (iv U u)⟩
     ·by_cases c2:O<j+size
      ·rw[if_neg (by omega),if_pos (by omega)];rw[List.append_assoc,List.getElem?_append_right (by simp;omega),List.getElem?_append_left (by simp;omega)]at u;have a8:min j els[i'].cells.length=j:=by omega
       rw[List.length_take,a8]at u;obtain⟨p1,p2⟩:=rv.rel _ _ u;grind
      ·rw[if_neg (by omega),if_neg (by omega)];rw[List.getElem?_append_right (by simp;omega),List.getElem?_drop]at u;have:j+(v'.get e).cells.length+(O-(els[i'].cells.take j++(v'.get e).cells).length)=O:=by simp;omega
       rw[this]at u;exact⟨H _ _ _ (iv U u),E _ _ _ (iv U u)⟩
    ·refine⟨H _ _ _ u,?_⟩
     have c7:O<esz:=by
      unfold aP at u
      cases hz:els[i']? with
      | none=>simp[hz]at u
      | some z =>
       simp only[hz,Option.bind_some]at u;rw[<- S z (aK hz)];exact(aq.1 u).1
     rw[get]
     have a5:i'*esz+O<i*esz+j\/i*esz+j+size<=i'*esz+O:=by
      rcases Nat.lt_or_ge i' i with c6|e4
      ·left;have:=Nat.mul_le_mul_right esz (show i'+1<=i from c6);rw[Nat.add_mul]at this;omega
      ·right;have:=Nat.mul_le_mul_right esz (show i+1<=i' by omega);rw[Nat.add_mul]at this;omega
     rcases a5 with h|h
     ·rw[if_pos h];exact E _ _ _ u
     ·rw[if_neg (by omega),if_neg (by omega)];exact E _ _ _ u
   refine⟨c8,?_,λ i' O y hy=>(main i' O y hy).1,Or.inr ⟨g,vs,ty,hρ,setRow_heap w g cur vs ty (0,0) T,by simp[Z];exact a1,λ i' O y hy=>(main i' O y hy).2.mono Q.le⟩⟩;intro z hz;rcases List.mem_or_eq_of_mem_set hz with h|h
   ·exact S z h
   ·rw[h];exact c5
end Go.Am
namespace Go.Am
open Go
variable [ck]
variable {P:Program}{nt:Nat}
def flat (els:List D):List D:=els.flatMap D.cells
theorem jd {esz:Nat}:∀{els:List D},(∀e∈els,e.cells.length=esz)->∀{i j:Nat}{d:D},aP els i j=some d->(flat els)[i*esz+j]?=some d
 | [],_,i,j,d,h=>by simp[aP]at h
 | e::r,hl,i,j,d,h=>by
  have he:=hl e (by simp);unfold flat;rw[List.flatMap_cons]
  cases i with
  | zero =>
   have h':e.cells[j]?=some d:=by simpa[aP] using h
   have u:=(aq.1 h').1;rw[Nat.zero_mul,Nat.zero_add,List.getElem?_append_left u];exact h'
  | succ i =>
   have h':aP r i j=some d:=by simpa[aP] using h
   rw[List.getElem?_append_right (by rw[he,Nat.add_mul];omega),he,show(i+1)*esz+j-esz=i*esz+j by rw[Nat.add_mul];omega];exact jd (λ e he=>hl e (by simp[he])) h'
theorem bm {esz:Nat}:∀{els:List D},(∀e∈els,e.cells.length=esz)->(flat els).length=els.length*esz
 | [],_=>by simp[flat]
 | e::r,hl=>by
  have:=bm (els:=r) (λ e he=>hl e (by simp[he]));unfold flat at this ⊢;rw[List.flatMap_cons,List.length_append,this,hl e (by simp),List.length_cons,Nat.add_mul];omega
theorem lQ (a b:List D):flat (a++b)=flat a++flat b:=by simp[flat]
theorem uW {esz:Nat}(he:0<esz){els:List D}(hl:∀e∈els,e.cells.length=esz){k:Nat}{d:D}(h:(flat els)[k]?=some d):aP els (k / esz) (k % esz)=some d:=by
 have hk:=(aq.1 h).1;rw[bm hl]at hk;have hi:k / esz<els.length:=Nat.div_lt_of_lt_mul (by rw[Nat.mul_comm];exact hk);have u:k % esz<esz:=Nat.mod_lt _ he;have hlen:=hl els[k / esz] (List.getElem_mem hi);have hc:aP els (k / esz) (k % esz)=some (els[k / esz].cells[k % esz]'(by omega)):=by simp[aP,hi,show k % esz<els[k / esz].cells.length by omega]
 have:=jd hl hc;rw[Nat.mul_comm,Nat.div_add_mod]at this;rw[hc, <- this,h]
theorem OP {c:Ctx}(hr:au c) (n:Nat):c.le ⟨c.ρ,c.X,c.h.freeze n,c.hp⟩/\au ⟨c.ρ,c.X,c.h.freeze n,c.hp⟩:=by
 cases hn:c.h n with
 | arr e l =>
  have E:c.h.freeze n=ak c.h n (.frz e l):=by simp[Heap.freeze,hn]
  rw[E]
  have sub:∀k,(ak c.h n (.frz e l) k).mine->(c.h k).mine:=by
   intro k hk;by_cases h:k=n
   ·subst h;rw[hn];trivial
   ·simpa[ak,h] using hk
  have hle:c.le ⟨c.ρ,c.X,ak c.h n (.frz e l),c.hp⟩:=by
   refine⟨Nat.le_refl _,rfl,λ _ _ _=>rfl,λ _ cur _ _ h=>⟨cur,h,rfl⟩,λ _ r h=>⟨r,h,rfl⟩,λ _ _=>rfl,λ k=>?_,λ k g hm hρ _=>⟨k,sub k hm,hρ⟩⟩;by_cases h:k=n
   ·subst h;simp only[af];rw[hn];exact .arrFrz _ _ _ (Nat.le_refl _)
   ·simp only[aa _ _ h];exact Trans.refl _
  refine⟨hle,λ k=>?_,λ H G g V U O I=>hr.inj H G g (sub H V) (sub G U) O I,λ k g hm hρ=>hr.apart k g (sub k hm) hρ,hr.xlt,?_,hr.glob.mono hle,hr.lo⟩
  ·by_cases h:k=n
   ·subst h;simp only[af];have hs:=hr.slot k;rw[hn]at hs;obtain⟨h1,h2,h3,h4⟩:=hs;refine⟨h1,h2,h3,?_⟩;rcases h4 with q|⟨g,cur,ty,u,T,S,Q⟩
    ·exact Or.inl q
    ·refine Or.inr ⟨g,cur,ty,(0,0),u,T,S,?_,λ i j d hd=>(Q i j d hd).mono hle⟩;rintro (W|⟨k',hm,hρ⟩)
     ·exact hr.apart k g (by rw[hn];trivial) u W
     ·have:=hr.inj k' k g (sub k' hm) (by rw[hn];trivial) hρ u;subst this;simp[ak,Slot.mine]at hm
   ·simp only[aa _ _ h];exact kr hle (hr.slot k) (λ _ _=>rfl) (λ _ _ _=>rfl)
  ·obtain⟨N,hN⟩:=hr.fin;refine⟨N+n+1,λ k hk=>?_⟩;simp only[aa _ _ (show k≠n by omega)];exact hN k (by omega)
 | _ =>
  have E:c.h.freeze n=c.h:=by simp[Heap.freeze,hn]
  rw[E];exact⟨Ctx.le.refl c,hr⟩
theorem dU {c:Ctx}(hr:au c) (ns:List Nat):c.le ⟨c.ρ,c.X,c.h.freezeAll ns,c.hp⟩/\au ⟨c.ρ,c.X,c.h.freezeAll ns,c.hp⟩:=by
 induction ns generalizing c with
 | nil=>exact⟨Ctx.le.refl c,hr⟩
 | cons n r u =>
  obtain⟨h1,h2⟩:=OP hr n;obtain⟨h3,h4⟩:=u h2;exact⟨h1.trans h3,h4⟩
theorem Qo {h:Heap}{n m esz:Nat}{els:List D}(hr:(h n).row=some (esz,els)):(h.freeze m n).row=some (esz,els):=by
 unfold Heap.freeze;cases hm:h m<;>simp only<;>try exact hr
 by_cases he:n=m
 ·subst he;rw[hm]at hr;simpa[ak,Slot.row] using hr
 ·simpa[ak,he] using hr
theorem Qp {h:Heap}{n m esz:Nat}{els:List D}(hr:h n=.frz esz els):h.freeze m n=.frz esz els:=by
 unfold Heap.freeze;cases hm:h m<;>simp only<;>try exact hr
 by_cases he:n=m
 ·subst he;rw[hm]at hr;cases hr
 ·simpa[ak,he] using hr
theorem C5 {n esz:Nat}{els:List D}:∀(ns:List Nat){h:Heap},h n=.frz esz els->h.freezeAll ns n=.frz esz els
 | [],_,hr=>hr
 | _::r,_,hr=>C5 r (Qp hr)
theorem ft {n esz:Nat}{els:List D}:∀(ns:List Nat){h:Heap},(h n).row=some (esz,els)->n∈ns->h.freezeAll ns n=.frz esz els
 | [],_,_,hm=>by simp at hm
 | m::r,h,hr,hm=>by
  by_cases he:n=m
  ·subst he;refine C5 r ?_;unfold Heap.freeze;cases hn:h n<;>rw[hn]at hr<;>simp[Slot.row]at hr
   ·obtain⟨rfl,rfl⟩:=hr;simp[ak]
   ·obtain⟨rfl,rfl⟩:=hr;simpa using hn
  ·simp at hm;exact ft r (Qo hr) (by rcases hm with h|h;exact absurd h he;exact h)
theorem OQ {h:Heap}{n m:Nat}(hn:h n=.free):h.freeze m n=.free:=by
 unfold Heap.freeze;cases hm:h m<;>simp only<;>try exact hn
 by_cases he:n=m
 ·subst he;rw[hm]at hn;cases hn
 ·simpa[ak,he] using hn
theorem Ae {n:Nat}:∀(ns:List Nat){h:Heap},h n=.free->h.freezeAll ns n=.free
 | [],_,hn=>hn
 | _::r,_,hn=>Ae r (OQ hn)
theorem aaK {c:Ctx}(hr:au c){n off len esz:Nat}{els:List D}{v:Value}(hn:c.h n=.frz esz els) (h:aA c (.ms n off len) v) (hl:off+len<=els.length)
  (hv:∀x,x∈(els.drop off).take len->∀y∈x.cells,y.vone=true):aA c (.sl ((els.drop off).take len)) v:=by
 have hs:=hr.slot n;rw[hn]at hs;obtain⟨h1,h2,h3,h4⟩:=hs;by_cases h0:len=0
 ·subst h0;simp only[List.take_zero]
  cases h with
  | msDead _ _ _ _ _ _ hd=>rw[hn]at hd;cases hd
  | msNil _ _ _ _ _=>exact .yA _ _ (by simp[maxLen])
  | msE _ _ _ p _ _=>exact .yA _ _ (by simp[maxLen])
  | ms _ _ _ g G cap H cur ty fr u hρ Q hg hsz hc hm=>exact .yA _ _ hm
 ·have hlen:((els.drop off).take len).length=len:=by simp;omega
  cases h with
  | msDead _ _ _ _ _ _ hd=>rw[hn]at hd;cases hd
  | msNil _ _ _ _ _=>exact absurd rfl h0
  | msE _ _ _ p _ _=>exact absurd rfl h0
  | ms _ _ _ g G cap H cur ty fr u hρ Q hg hsz hc hm =>
   rw[hn]at u;simp[Slot.row]at u;obtain⟨rfl,rfl⟩:=u;rcases h4 with⟨q,_⟩|⟨g',cur',U,a1,T,Z,q3,W,V⟩
   ·rw[hρ]at q;cases q
   ·rw[hρ]at T;cases T
    have E:∀i j d,aP ((els.drop off).take len) i j=some d->aP els (off+i) j=some d:=by
     intro i j d hd;unfold aP at hd ⊢;rw[jj]at hd;split at hd
     ·exact hd
     ·simp at hd
    have:=aA.sl (c:=c) ((els.drop off).take len) g (off*esz) cap esz (λ i j=>cur'.getD ((off+i)*esz+j) Go.undef) (by intro e0;rw[e0]at hlen;simp at hlen;omega) (by omega) hm h1
     (λ e he=>h2 e (List.mem_of_mem_drop (List.mem_of_mem_take he)))
     (λ i j d hd=>by
      unfold aP at hd
      cases I:((els.drop off).take len)[i]? with
      | none=>simp[I]at hd
      | some z =>
       simp only[I,Option.bind_some]at hd
       exact hv z (aK I) d (aK hd))
     (λ i j d hd=>by
      have S:=E i j d hd
      have O:(off+i)*esz+j<cur'.size:=by
       have:=jd h2 S;have:=(aq.1 this).1;rw[bm h2]at this;omega
      rw[show off*esz+(i*esz+j)=(off+i)*esz+j by rw[Nat.add_mul];omega]
      exact jY Z O) W (λ i j d hd=>V _ _ _ (E i j d hd))
    rw[hlen]at this;exact this
theorem Ru {c c':Ctx}(hle:c.le c') (hr':au c'){d:D}{v:Value}(h:aA c d v) (hok:rM c.h d) (hfr:∀n esz els,n∈d.nR->(c.h n).row=some (esz,els)->c'.h n=.frz esz els) :
  aA c' (d.fzc c.h) v/\(d.one=true->(d.fzc c.h).one=true):=by
 cases d with
 | ms n off len =>
  obtain⟨esz,els,u,hl,G⟩:=hok;have E:D.fzc c.h (.ms n off len)=.sl ((els.drop off).take len):=by simp[D.fzc,u]
  rw[E];exact⟨aaK hr' (hfr n esz els (by simp[D.nR]) u) (h.mono hle) hl G,λ _=>rfl⟩
 | _=>exact⟨h.mono hle,λ h=>h⟩
theorem Ed {c c':Ctx}(hle:c.le c') (hr':au c'){d:D}{v:Value}(h:aA c d v) (h1:aD d) (hok:pD c.h d) (hfr:∀n esz els,n∈d.nm->(c.h n).row=some (esz,els)->c'.h n=.frz esz els) :
  aA c' (d.fz c.h) v/\aD (d.fz c.h)/\(d.fz c.h).cells.length=d.cells.length:=by
 by_cases ha:∃cs,d=.agg cs
 ·obtain⟨cs,rfl⟩:=ha;have u:D.fz c.h (.agg cs)=.agg (cs.map (D.fzc c.h)):=rfl;rw[u]
  cases h with
  | agg _ vs hsz hone hrel =>
   have key:∀(i:Nat) (d:D),(cs.map (D.fzc c.h))[i]?=some d->d.one=true/\aA c' d (vs.getD i Go.undef):=by
    intro i d hd;rw[List.getElem?_map]at hd
    cases hi:cs[i]? with
    | none=>simp[hi]at hd
    | some x =>
     simp[hi]at hd;subst hd;have hx:=aK hi;obtain⟨I,G⟩:=Ru hle hr' (hrel i x hi) (hok x (by simpa[D.cells] using hx)) (λ n esz els hn H=>hfr n esz els (by simp only[D.nm,List.mem_flatMap];exact⟨x,hx,hn⟩) H);exact⟨G (hone i x hi),I⟩
   refine⟨.agg _ vs (by simpa using hsz) (λ i d hd=>(key i d hd).1) (λ i d hd=>(key i d hd).2),?_,by simp[D.cells]⟩;intro x hx;obtain⟨i,hi⟩:=db (show x∈cs.map (D.fzc c.h) from hx);exact(key i x hi).1
 ·have hone:d.one=true:=by
   have:=h1 d (by cases d<;>simp_all [D.cells]);exact this
  have u:D.fz c.h d=D.fzc c.h d:=by cases d<;>simp_all [D.fz]
  have O:d.nm=d.nR:=by cases d<;>simp_all [D.nm]
  rw[u];obtain⟨I,G⟩:=Ru hle hr' h (hok d (by cases d<;>simp_all [D.cells])) (by rw[<- O];exact hfr);have E:∀x:D,x.one=true->x.cells=[x]:=by intro x hx;cases x<;>simp_all [D.one,D.cells]
  refine⟨I,?_,by rw[E _ (G hone),E _ hone];rfl⟩;intro x hx;rw[E _ (G hone)]at hx;simp at hx;subst hx;exact G hone
end Go.Am
namespace Go.Am
open Go
variable [ck]
variable {P:Program}{nt:Nat}
theorem Hi {esz:Nat}{els:List D}(hl:∀e∈els,e.cells.length=esz){i:Nat}(hi:i<=els.length):(flat els).take (i*esz)=flat (els.take i):=by
 have h1:flat els=flat (els.take i)++flat (els.drop i):=by rw[<- lQ,List.take_append_drop]
 grind [bm,List.length_take]
theorem MD {esz:Nat}{els:List D}(hl:∀e∈els,e.cells.length=esz){i:Nat}(hi:i<=els.length):(flat els).drop (i*esz)=flat (els.drop i):=by
 have h1:flat els=flat (els.take i)++flat (els.drop i):=by rw[<- lQ,List.take_append_drop]
 grind [bm,List.length_take]
theorem Vh {esz:Nat}{els:List D}(hl:∀e∈els,e.cells.length=esz){i:Nat}(hi:i<els.length) (d:D) :
  flat (els.set i d)=(flat els).take (i*esz)++d.cells++(flat els).drop (i*esz+esz):=by
 rw[List.set_eq_take_append_cons_drop,if_pos hi,lQ,Hi hl (by omega),show i*esz+esz=(i+1)*esz by rw[Nat.add_mul];omega,MD hl (by omega),List.append_assoc];simp[flat]
theorem DQ (els:List D):∀(ps:List (Nat×D)),(setEls els ps).length=els.length
 | []=>rfl
 | (i,d)::r=>by rw[setEls,DQ _ r,List.length_set]
theorem DP {esz:Nat}:∀(ps:List (Nat×D)){els:List D},(∀e∈els,e.cells.length=esz)->(∀p∈ps,p.2.cells.length=esz)->∀e,e∈setEls els ps->e.cells.length=esz
 | [],_,hl,_=>hl
 | (i,d)::r,els,hl,hp=>by
  refine DP r (λ e he=>?_) (λ p h=>hp p (by simp[h]));rcases List.mem_or_eq_of_mem_set he with h|h
  ·exact hl e h
  ·rw[h];exact hp (i,d) (by simp)
theorem Ef {esz:Nat}:∀(ps:List (Nat×D)){els:List D},(∀e∈els,e.cells.length=esz)->(∀p∈ps,p.2.cells.length=esz/\p.1<els.length) ->
  fillD (flat els) (ps.map λ p=>(p.1*esz,esz,p.2.cells))=flat (setEls els ps)
 | [],_,_,_=>rfl
 | (i,d)::r,els,hl,hp=>by
  obtain⟨h1,h2⟩:=hp (i,d) (by simp);rw[List.map_cons,fillD,setEls, <- Vh hl h2];refine Ef r (λ e he=>?_) (λ p h=>?_)
  ·grind
  grind
def cPartsS (len:Nat):List (Nat×Operand)->Option (List (Nat×Arg))
 | []=>some []
 | (i,x)::r=>if i<len then match cArg x,cPartsS len r with
  | some y,some s=>some ((i,y)::s)
  | _,_=>none else none
theorem wY {len:Nat}:∀{ps:List (Nat×Operand)}{qs:List (Nat×Arg)},cPartsS len ps=some qs ->
  ps.length=qs.length/\∀(k:Nat) (p:Nat×Operand) (q:Nat×Arg),ps[k]?=some p->qs[k]?=some q->p.1=q.1/\cArg p.2=some q.2/\q.1<len
 | [],qs,h=>by grind [cPartsS]
 | (i,x)::r,qs,h=>by
  simp only[cPartsS]at h;split at h
  ·rename_i hi
   cases h2:cArg x with
   | none=>simp[h2]at h
   | some y =>
    cases h3:cPartsS len r with
    | none=>simp[h2,h3]at h
    | some s =>
     simp[h2,h3]at h;subst h;obtain⟨l,u⟩:=wY h3;grind
  ·cases h
theorem Mf {c:Ctx}{zd:D}{z:Value}(hz:iF c zd.cells z.cells.toList){esz len:Nat}(hsz:zd.cells.length=esz) (hpos:0<esz) :
  iF c (flat (List.replicate len zd)) ((Array.range (len*esz)).map (λ k=>z.cells[k % z.cells.size]!)).toList:=by
 have u:∀e,e∈List.replicate len zd->e.cells.length=esz:=λ e he=>by grind
 have E:z.cells.size=esz:=by rw[<- hsz, <- hz.len];simp
 refine⟨by rw[bm u];simp,λ k d hd=>?_⟩;have hk:=(aq.1 hd).1;rw[bm u]at hk;simp at hk;obtain⟨_,h2⟩:=iu (uW hpos u hd);obtain⟨H,G⟩:=hz.rel _ d h2;grind
theorem ZW {o:Oper}{t elem:TypeId}{len esz:Nat}{ps:Array (Nat×Operand)}{qs:List (Nat×Arg)}{zd:D}(fz:Bool) (ho:o.op=.buildSlice t len ps) (hu:P.underlying t=some (.slice elem))
  (ht:(P.info? elem).map (·.size)=some esz) (hpos:0<esz) (hz:eJ P elem=some zd) (hsz:zd.cells.length=esz) (hq:cPartsS len ps.toList=some qs) (hmax:len*esz<=16777216)
  (hd:∀i,o.dst=some i->i<nt):gK P nt o (.bldS fz esz len zd qs):=by
 obtain⟨z,c6,a2⟩:=gC hz;refine gK.unit λ K e c w a hv hp hr hs=>?_
 simp only[vcOp,Hl,MN]at hv;obtain⟨S,e9,hk⟩:=hv;obtain⟨n,a6⟩:=dC hr;have hn:=a6.free;obtain⟨hlen,G⟩:=wY hq
 let ns:List Nat:=if fz then qs.flatMap λ p=>(p.2.get e).nm else []
 let h1:Heap:=c.h.freezeAll ns
 let T:Ctx:=⟨c.ρ,c.X,h1,c.hp⟩
 obtain⟨V,c8⟩:=dU hr ns;have e0:h1 n=.free:=Ae ns hn
 let W:Nat×Arg->D:=λ p=>if fz then(p.2.get e).fz c.h else p.2.get e
 have I:∀(k:Nat) (p:Nat×Operand) (q:Nat×Arg),ps.toList[k]?=some p->qs[k]?=some q->aA T (W q) (a.eval p.2)/\aD (W q)/\(W q).cells.length=esz:=by
  intro k p q Q H;obtain⟨_,s2,_⟩:=G k p q Q H;have c4:=aK H;obtain⟨_,q2,q3⟩:=S q c4;have rel:=aH s2 hs;by_cases hf:fz=true
  ·grind [Ed,ft]
  ·have hD:W q=q.2.get e:=by simp[W,hf]
   rw[hD];exact⟨rel.mono V,q3,q2⟩
 let els:=setEls (List.replicate len zd) (qs.map λ p=>(p.1,W p))
 have E:∀e,e∈List.replicate len zd->e.cells.length=esz:=λ e he=>by grind
 have O:∀p,p∈qs.map (λ p=>(p.1,W p))->p.2.cells.length=esz/\p.1<(List.replicate len zd).length:=by
  intro p c3;simp only[List.mem_map]at c3;obtain⟨q,c9,rfl⟩:=c3;obtain⟨k,e1⟩:=db c9;have e8:k<ps.toList.length:=by grind
  have:=I k ps.toList[k] q (by simp) e1;grind
 have U:∀e∈els,e.cells.length=esz:=DP _ E (λ p hp=>(O p hp).1);have e6:els.length=len:=by grind [DQ]
 have c5:=dB (gP a2 T) (gz a2)
 let Z:=(Array.range (len*esz)).map (λ k=>z.cells[k % z.cells.size]!)
 let vals:List (Nat×Value):=ps.toList.map λ p=>(p.1,a.eval p.2)
 obtain⟨u,g1,g2,g3⟩:=KT (c:=T) (λ i=>some (i*esz,esz)) vals ((qs.map λ p=>(p.1,W p)).map λ p=>(p.1*esz,esz,p.2.cells)) Z (flat (List.replicate len zd)) (Mf c5 hsz hpos)
  (by simp[vals,hlen]) (by
   intro k p q Q H;simp only[vals,List.getElem?_map,Option.map_eq_some_iff]at Q H;obtain⟨p',hp',rfl⟩:=Q;obtain⟨e7,⟨q',a8,rfl⟩,rfl⟩:=H;obtain⟨s1,s2,s3⟩:=G k p' q' hp' a8;obtain⟨f1,f2,f3⟩:=I k p' q' hp' a8;refine⟨by simp[s1],dB f1 f2,f3,?_⟩;rw[bm E];simp only[List.length_replicate];have:=Nat.mul_le_mul_right esz (show q'.1+1<=len from s3)
   grind)
 rw[Ef _ E O]at g2
 have e5:u.size=len*esz:=by
  have:=g2.len;grind [bm]
 have a1:=kI.new (c:=T) (s:=.arr esz els) e0 trivial (.cells u elem) (hp':=(w.alloc (.cells u elem)).heap) (by simp only[T];rw[hp];rfl)
 have a7:(execOp a.eval o).run P w=.ok (.value (.slice (some ⟨w.heap.size,0,none⟩) len len)) (w.alloc (.cells u elem)):=by
  have a5:ps.map (λ(i,x)=>(i,a.eval x))=vals.toArray:=by apply Array.ext';simp[vals]
  by_cases h0:len*esz=0
  ·have c7:Z = #[]:=by grind
   rw[c7]at g1;simp[execOp,ho,a5,Instr.buildSlice,run_underlying hu,run_sizeOf ht,h0,Array.range_zero',g1,cA]
  ·simp[execOp,ho,a5,Instr.buildSlice,run_underlying hu,run_sizeOf ht,h0,show ¬(16777216<len*esz) by omega,bB c6,Z]at g1 ⊢;simp[g1,cA]
 have c2:T.hp.size=w.heap.size:=by simp only[T];rw[hp]
 refine⟨_,_,ak c.ρ n (some T.hp.size),ak h1 n (.arr esz els),.ms n 0 len,a7,Or.inr ⟨_,rfl,hd,?_⟩,V.trans a1.le,a1.heap c8 ?_,⟨rfl,rfl,rfl⟩,?_⟩
 ·have:=aA.ms (c:=⟨ak c.ρ n (some T.hp.size),c.X,ak h1 n (.arr esz els),(w.alloc (.cells u elem)).heap⟩) n 0 len w.heap.size esz len els u elem (0,0) (by simp[ak,Slot.row]) (by simp[ak,c2])
   (by omega) (mF _ _) (by rw[e5];simp) (Nat.le_refl _) (by unfold maxLen;have:=Nat.le_mul_of_pos_right len hpos;omega)
  simpa using this
 ·simp only[af];refine Ar (hp:=w.heap) rfl (by simp[ak,c2]) hpos U (by grind) (λ i j d e4=>?_);obtain⟨p1,p2⟩:=g2.rel _ d (jd U e4);rw[aO]at p2;exact⟨p1,p2.mono a1.le⟩
 grind [Heap.freezeAll]
end Go.Am
namespace Go.Am
open Go
variable [ck]
variable {P:Program}{nt:Nat}
structure Src (P:Program) (c:Ctx) (w:World) (esz:Nat) (ys:List D) (v:Value):Prop where
 uni:∀e∈ys,e.cells.length=esz
 row:∃(p:Option Addr) (cap:Nat) (news:List Value),v=.slice p ys.length cap/\ys.length<=maxLen/\iF c (flat ys) news /\
  ∀(k:Nat) (w':World),k<=ys.length->w'.heap=w.heap->(Builtin.firstCells esz k v).run P w'=.ok (news.take (k*esz)).toArray w'
theorem Q6 {c:Ctx}{w:World}(hp:c.hp=w.heap){esz:Nat}(hpos:0<esz){ys:List D}(huni:∀e∈ys,e.cells.length=esz) (hone:∀y∈ys,aD y){b o cap:Nat}
  (hcell:∀i j d,aP ys i j=some d->∃v,cellOf c.hp b (o+(i*esz+j))=some v/\aA c d v) (hm:ys.length<=maxLen):Src P c w esz ys (.slice (some ⟨b,o,none⟩) ys.length cap):=by
 let news:List Value:=(List.range (ys.length*esz)).map λ k=>(cellOf c.hp b (o+k)).getD Go.undef
 have G:news.length=ys.length*esz:=by simp[news]
 have E:∀(k:Nat) (d:D),(flat ys)[k]?=some d->cellOf c.hp b (o+k)=some (news.getD k Go.undef)/\aA c d (news.getD k Go.undef):=by
  intro k d hd;have hk:=(aq.1 hd).1;rw[bm huni]at hk;obtain⟨v,h1,h2⟩:=hcell _ _ _ (uW hpos huni hd);grind [Nat.div_add_mod]
 refine⟨huni,some ⟨b,o,none⟩,cap,news,rfl,hm,⟨by rw[G,bm huni],λ k d hd=>⟨?_,(E k d hd).2⟩⟩,λ k w' hk hw=>?_⟩
 ·have u:=aK hd;simp only[flat,List.mem_flatMap]at u;obtain⟨y,hy,O⟩:=u;exact hone y hy d O
 ·have hl:(news.take (k*esz)).length=k*esz:=by
   grind [Nat.mul_le_mul_right]
  have:=run_loadCells_list (P:=P) (w:=w') ⟨b,o,none⟩ (news.take (k*esz)) (λ j v I=>by
   rw[List.getElem?_take]at I;split at I
   ·rename_i Q
    have H:j<(flat ys).length:=by
     grind [bm]
    obtain⟨h1,_⟩:=E j (flat ys)[j] (by simp[H]);grind [Addr.add_lit,Al]
   ·cases I)
  grind [Builtin.firstCells]
theorem Jx {c:Ctx}{w:World}{esz:Nat}(p:Option Addr) (cap:Nat):Src P c w esz [] (.slice p 0 cap):=by
 refine⟨by simp,p,cap,[],rfl,by simp[maxLen],⟨rfl,by simp[flat]⟩,λ k w' hk _=>?_⟩;have u:k=0:=by simpa using hk
 subst u
 cases p with
 | none=>simp[Builtin.firstCells]
 | some a=>simp[Builtin.firstCells,loadCells,loadCellsFrom]
theorem DF {c:Ctx}{w:World}(hr:au c) (hp:c.hp=w.heap){esz:Nat}(hpos:0<esz){d:D}{v:Value}(h:aA c d v){K:List D->Prop}(hv:velems esz d c.h λ ys=>(∀y∈ys,aD y)/\K ys) :
  ∃ys,K ys/\(∀y∈ys,aD y)/\Src P c w esz ys v:=by
 unfold velems at hv;split at hv
 ·cases h;grind [Jx]
 ·rename_i xs;obtain⟨U,hone,hk⟩:=hv;refine⟨xs,hk,hone,?_⟩
  cases h with
  | yA p cap hm=>exact Jx _ _
  | sl _ b o cap I f hne hc hm he hlen Q hcell hown hrel =>
   grind [Q6,aP]
 ·rename_i n off len;obtain⟨els,G,hl,hone,hk⟩:=hv;obtain⟨_,E,O,hm⟩:=Ra hr G;have hlen:((els.drop off).take len).length=len:=by simp;omega
  refine⟨_,hk,hone,?_⟩
  cases h with
  | msDead _ _ _ _ _ _ hd=>grind [Slot.row]
  | msNil _ _ _ _ _=>grind [Jx]
  | msE _ _ _ p _ _=>grind [Jx]
  | ms _ _ _ g I cap W cur ty fr u hρ a1 hg hsz hc V =>
   rw[G]at u;simp at u;obtain⟨rfl,rfl⟩:=u;rcases hm with⟨q,_⟩|⟨g',cur',Z,a2,T,q2,q3,q4⟩
   ·rw[hρ]at q;cases q
   ·rw[hρ]at T;cases T
    have:=Q6 (P:=P) (cap:=cap) (b:=g) (o:=off*esz) hp hpos (ys:=(els.drop off).take len) (λ e he=>E e (List.mem_of_mem_drop (List.mem_of_mem_take he))) hone (λ i j d hd=>by
     have H:aP els (off+i) j=some d:=by
      unfold aP at hd ⊢;rw[jj]at hd;split at hd
      ·exact hd
      ·simp at hd
     have S:(off+i)*esz+j<cur'.size:=by
      have:=(aq.1 (jd E H)).1;rw[bm E]at this;omega
     refine⟨_,?_,q4 _ _ _ H⟩;rw[show off*esz+(i*esz+j)=(off+i)*esz+j by rw[Nat.add_mul];omega]
     exact jY q2 S) (by rw[hlen];omega)
    rw[hlen]at this;exact this
 ·exact hv.elim
def Heap.killO (h:Heap):Option Nat->Heap
 | some k=>ak h k .dead
 | none=>h
theorem KI {c:Ctx}(hr:au c){n:Nat}(hn:c.h n=.free) (m:Option Nat) (hm:∀k,m=some k->∃e l,c.h k=.arr e l){esz:Nat}(hpos:0<esz) :
  c.le ⟨ak c.ρ n none,c.X,ak (c.h.killO m) n (.arr esz []),c.hp⟩ /\
  au ⟨ak c.ρ n none,c.X,ak (c.h.killO m) n (.arr esz []),c.hp⟩:=by
 let h1:Heap:=c.h.killO m
 have E:∀k,h1 k=c.h k\/(h1 k=.dead/\∃e l,c.h k=.arr e l):=by
  intro k;simp only[h1]
  cases m with
  | none=>exact Or.inl rfl
  | some j =>
   by_cases hk:k=j
   ·subst hk;exact Or.inr ⟨by simp[Heap.killO,ak],hm k rfl⟩
   ·exact Or.inl (by simp[Heap.killO,ak,hk])
 have sub:∀k,k≠n->(ak h1 n (.arr esz []) k).mine->(c.h k).mine:=by
  intro k hk u;rw[aa _ _ hk]at u;rcases E k with h|⟨h,_⟩
  ·rw[h]at u;exact u
  ·rw[h]at u;cases u
 have hle:c.le ⟨ak c.ρ n none,c.X,ak h1 n (.arr esz []),c.hp⟩:=by
  refine⟨Nat.le_refl _,rfl,λ _ _ _=>rfl,λ _ cur _ _ h=>⟨cur,h,rfl⟩,λ _ r h=>⟨r,h,rfl⟩,λ k hk=>?_,λ k=>?_,λ k g u hρ _=>?_⟩
  ·have:k≠n:=by rintro rfl;exact hk hn
   simp[ak,this]
  ·by_cases hk:k=n
   ·subst hk;simp only[af];rw[hn];exact .free _
   ·simp only[aa _ _ hk];rcases E k with h|⟨h,e,l,h'⟩
    ·rw[h];exact Trans.refl _
    ·rw[h,h'];exact .arrDead _ _
  ·by_cases hk:k=n
   ·subst hk;simp[ak]at hρ
   ·exact⟨k,sub k hk u,by simpa[ak,hk] using hρ⟩
 refine⟨hle,λ k=>?_,λ H G g T S O I=>?_,λ k g u hρ=>?_,hr.xlt,?_,hr.glob.mono hle,hr.lo⟩
 ·by_cases hk:k=n
  ·subst hk;simp only[af];exact⟨hpos,by simp,λ i j d hd=>by simp[aP]at hd,Or.inl ⟨by simp[ak],rfl⟩⟩
  ·simp only[aa _ _ hk];show dg _ k (h1 k)
   rcases E k with h|⟨h,_⟩
   ·rw[h];exact kr hle (hr.slot k) (λ _ _=>by simp[ak,hk]) (λ _ _ _=>rfl)
   ·rw[h];trivial
 ·have n1:H≠n:=by rintro rfl;simp[ak]at O
  have Q:G≠n:=by rintro rfl;simp[ak]at I
  exact hr.inj H G g (sub H n1 T) (sub G Q S) (by simpa[ak,n1] using O) (by simpa[ak,Q] using I)
 ·have n1:k≠n:=by rintro rfl;simp[ak]at hρ
  exact hr.apart k g (sub k n1 u) (by simpa[ak,n1] using hρ)
 ·obtain⟨N,hN⟩:=hr.fin;refine⟨N+n+1,λ k hk=>?_⟩;simp only[aa _ _ (show k≠n by omega)];show h1 k=.free
  rcases E k with h|⟨h,e,l,h'⟩
  ·rw[h];exact hN k (by omega)
  ·rw[hN k (by omega)]at h';cases h'
theorem qJ {t t' e ty:TypeId}{i:TypeInfo}{z:Value}(ht:P.underlying t=some (.slice e)) (ht':∃e',P.underlying t'=some (.slice e')) (hi:P.info? e=some i) (hz:i.zero=some z)
  {w:World}{base p:Option Addr}{sLen sCap n cp:Nat}{olds news:List Value}
  (hnews:∀w':World,w'.heap=w.heap->(Builtin.firstCells i.size n (.slice p n cp)).run P w'=.ok news.toArray w')
  (holds:∀w':World,w'.heap=w.heap->(Builtin.firstCells i.size sLen (.slice base sLen sCap)).run P w'=.ok olds.toArray w')
  (h63:sLen+n<=9223372036854775807) (hby:(sLen+n)*i.bytes<=140737488355328) :
  (sLen+n<=sCap->∀w',(match base with|some a=>storeCells (a.add (sLen*i.size)) news|none=>(pure ():Sem Unit)).run P w=.ok () w' ->
   (Builtin.append_ #[t,t'] ty #[.slice base sLen sCap,.slice p n cp]).run P w=.ok (.slice base (sLen+n) sCap) w') /\
  (sCap<sLen+n->(Builtin.append_ #[t,t'] ty #[.slice base sLen sCap,.slice p n cp]).run P w =
   .ok (.slice (some ⟨w.heap.size,0,none⟩) (sLen+n) (grownCap w (sLen+n) sCap e))
    (w.drew.alloc (.cells (olds.toArray++news.toArray++Builtin.zeroCells z.cells (grownCap w (sLen+n) sCap e-(sLen+n))) e))):=by
 obtain⟨e',ht'⟩:=ht';constructor
 ·intro hle w' u
  cases base with
  | none =>
   simp only[Sem.run_pure]at u;cases u;simp[Builtin.append_,run_underlying ht,run_underlying ht',sizeOf,typeInfo,hi,Builtin.lenOf,hle,hnews w rfl]
  | some a =>
   simp only at u;simp[Builtin.append_,run_underlying ht,run_underlying ht',sizeOf,typeInfo,hi,Builtin.lenOf,hle,hnews w rfl,u]
 ·intro H;have hn:¬(sLen+n<=sCap):=by omega
  have E:¬(9223372036854775807<((sLen:Int)+(n:Int))):=by omega
  have O:=growslice_fits H hby
  have G:¬(281474976710656<Builtin.nextslicecap (sLen+n) sCap*i.bytes):=by omega
  have Q:=hnews w.drew rfl;have I:=holds w.drew rfl;simp[Builtin.append_,run_underlying ht,run_underlying ht',sizeOf,typeInfo,zeroValue,hi,hz,Builtin.lenOf,hn,E,G,Question.forced,Q,I,newRow,grownCap];congr 2;apply Array.ext';simp[List.append_assoc]
def isZ:Option Arg->Bool
 | some (.c (.int _ 0))=>true
 | _=>false
theorem OI {x:Option Arg}(h:isZ x=true) (e:LEnv) (n:Nat):vopt e x n (· = 0):=by
 unfold isZ at h;split at h
 ·exact rfl
 ·cases h
theorem Mw {c:Ctx}(hr:au c){n:Nat}(hn:Trans (c.h n) .dead) (hf:c.h n≠.free):c.le ⟨c.ρ,c.X,ak c.h n .dead,c.hp⟩/\au ⟨c.ρ,c.X,ak c.h n .dead,c.hp⟩:=by
 have sub:∀k,(ak c.h n .dead k).mine->(c.h k).mine:=by
  intro k hk;by_cases h:k=n
  ·subst h;simp[ak,Slot.mine]at hk
  ·simpa[ak,h] using hk
 have hle:c.le ⟨c.ρ,c.X,ak c.h n .dead,c.hp⟩:=by
  refine⟨Nat.le_refl _,rfl,λ _ _ _=>rfl,λ _ cur _ _ h=>⟨cur,h,rfl⟩,λ _ r h=>⟨r,h,rfl⟩,λ _ _=>rfl,λ k=>?_,λ k g hm hρ _=>⟨k,sub k hm,hρ⟩⟩;by_cases h:k=n
  ·subst h;simp only[af];exact hn
  ·simp only[aa _ _ h];exact Trans.refl _
 refine⟨hle,λ k=>?_,λ E u g O I H G=>hr.inj E u g (sub E O) (sub u I) H G,λ k g hm hρ=>hr.apart k g (sub k hm) hρ,hr.xlt,?_,hr.glob.mono hle,hr.lo⟩
 ·by_cases h:k=n
  ·subst h;simp only[af];trivial
  ·simp only[aa _ _ h];exact kr hle (hr.slot k) (λ _ _=>rfl) (λ _ _ _=>rfl)
 ·obtain⟨N,hN⟩:=hr.fin;refine⟨N+n+1,λ k hk=>?_⟩;simp only[aa _ _ (show k≠n by omega)];exact hN k (by omega)
theorem abJ {o:Oper}{t elem:TypeId}{x:Operand}{x':Arg}{n:Nat}(ho:o.op=.slice t x none none none) (hx:cArg x=some x')
  (hd:∀i,o.dst=some i->i<nt) (hu:P.underlying t=some (.array n elem)) (ht:(P.info? elem).map (·.size)=some 1):gK P nt o (.sla x' n):=by
 refine gK.unit λ K e c w a u hp hr hs=>?_
 have rx:=aH hx hs;simp only[vcOp]at u;generalize a5:x'.get e=dx at u rx;cases dx<;>try exact u.elim
 rename_i m i j;cases hm:c.h m<;>simp only[hm]at u<;>try exact u.elim
 rename_i v;cases v<;>simp only at u<;>try exact u.elim
 rename_i cs;obtain⟨rfl,a2,a1,hj,hone,hk⟩:=u;have Q:=hr.slot m;rw[hm]at Q;obtain⟨g,cur,ty,h1,h2,h3,h4⟩:=Q;obtain⟨Z,k2⟩:=Mw hr (n:=m) (by rw[hm];exact .boxDead _) (by rw[hm];simp);generalize W:a.eval x=vx at rx
 cases rx with
 | ptrDead _ _ _ _ _ V=>rw[V]at hm;cases hm
 | ptrRow _ _ _ _ _ _ E _ _=>rw[hm]at E;simp[Slot.row]at E
 | ptrBox _ _ g' v' hb hρ =>
  rw[h1]at hρ;cases hρ
  have S:(execOp a.eval o).run P w=.ok (.value (.slice (some ⟨g,j,none⟩) n n)) w:=by
   have hb:(Instr.sliceBounds false n n none none none).run P w=.ok (0,n,n) w :=
    fW (by simp) (λ v y cd h hy=>by cases h) (λ _=>rfl) (λ v y cd h hy=>by cases h) (λ _=>rfl) (λ v y cd h hy=>by cases h) (λ _=>rfl) (Nat.zero_le _) (Nat.le_refl _) (Nat.le_refl _) false
   have hne:n≠0:=by omega
   simp[execOp,ho,W,Instr.sliceAt,Instr.slice,Sem.run_bind,Result.andThen,run_underlying hu,run_sizeOf ht,hb,Instr.sureAddr,Addr.add_lit,hne]
  have hlen:((cs.drop j).take n).length=n:=by rw[List.length_take,List.length_drop];omega
  have G:∀(i:Nat) (d:D),((cs.drop j).take n)[i]?=some d->cs[j+i]?=some d:=by
   intro i d hd;rw[List.getElem?_take]at hd;split at hd
   ·rw[List.getElem?_drop]at hd;exact hd
   ·cases hd
  have cell:∀(i k:Nat) (d:D),aP ((cs.drop j).take n) i k=some d->k=0/\((cs.drop j).take n)[i]?=some d:=by
   intro i k d hd;simp only[aP,Option.bind_eq_some_iff]at hd;obtain⟨y,hy,hk⟩:=hd;have H:=hone y (aK hy);have T:y.cells=[y]:=by cases y<;>first|rfl|cases H
   rw[T]at hk
   cases k with
   | zero=>simp at hk;subst hk;exact⟨rfl,hy⟩
   | succ k=>simp at hk
  have hnown:¬(⟨c.ρ,c.X,ak c.h m .dead,c.hp⟩:Ctx).own g:=by
   rintro (hX|⟨q,hq,hρ⟩)
   ·exact hr.apart m g (by rw[hm];trivial) h1 hX
   ·by_cases I:q=m
    ·subst I;simp[ak,Slot.mine]at hq
    ·simp only[aa _ _ I]at hq;exact I (hr.inj q m g hq (by rw[hm];trivial) hρ h1)
  have hsz:cur.size=cs.length:=h3;refine⟨_,w,c.ρ,ak c.h m .dead,.sl ((cs.drop j).take n),S,Or.inr ⟨_,rfl,hd,?_⟩,?_,?_,WS.refl w,hk⟩
  ·rw[<- hp]
   have:=aA.sl (c:=⟨c.ρ,c.X,ak c.h m .dead,c.hp⟩) ((cs.drop j).take n) g j n 1 (λ i _=>cur.getD (j+i) Go.undef) (by intro h0;rw[h0]at hlen;simp at hlen;omega) (by omega) (by unfold maxLen;omega) (by omega)
    (λ y hy=>by have H:=hone y hy;cases y<;>first|rfl|cases H)
    (λ i k d hd=>hone d (aK (cell i k d hd).2))
    (λ i k d hd=>by
     obtain⟨rfl,O⟩:=cell i k d hd;have U:=(aq.1 (G i d O)).1;simp only[cellOf,h2,Nat.mul_one,Nat.add_zero];have:j+i<cur.size:=by rw[hsz];exact U
     simp[this])
    hnown
    (λ i k d hd=>by
     obtain⟨rfl,O⟩:=cell i k d hd
     exact((h4 (j+i) d (G i d O)).2).mono Z)
   rw[hlen]at this;exact this
  ·rw[<- hp];exact Z
  ·rw[<- hp];exact k2
theorem abH {o:Oper}{t elem:TypeId}{x hi mx:Operand}{x':Arg}{hi' mx':Option Arg}{esz:Nat}(ho:o.op=.slice t x none (some hi) (some mx)) (hx:cArg x=some x')
  (hhi:cOpt (some hi)=some hi') (hmx:cOpt (some mx)=some mx') (hz1:isZ hi'=true) (hz2:isZ mx'=true)
  (hd:∀i,o.dst=some i->i<nt) (hu:P.underlying t=some (.slice elem)) (ht:(P.info? elem).map (·.size)=some esz) (hpos:0<esz):gK P nt o (.slz x' esz):=by
 refine gK.unit λ K e c w a E hp hr hs=>?_
 have rx:=aH hx hs;simp only[vcOp]at E
 have form:∃p len cap,a.eval x=.slice p len cap/\∀n,pB c.h n->K (.ms n 0 0) (ak c.h n (.arr esz [])):=by
  generalize a1:x'.get e=dx at E rx;cases dx<;>try exact E.elim
  ·generalize a.eval x=vx at rx
   cases rx with
   | nil=>exact⟨_,_,_,rfl,E⟩
  ·obtain⟨p,cap,he,T,S⟩:=HT rx;exact⟨_,_,_,he,E⟩
  ·obtain⟨⟨els,u⟩,hk⟩:=E;generalize a.eval x=vx at rx
   cases rx with
   | msDead _ _ _ _ _ _ Q=>rw[Q]at u;simp[Slot.row]at u
   | msNil _ _ _ _ _=>exact⟨_,_,_,rfl,hk⟩
   | msE _ _ _ p _ _=>exact⟨_,_,_,rfl,hk⟩
   | ms _ _ _ g W cap Z cur ty fr O hρ hl hg hsz hc hm=>exact⟨_,_,_,rfl,hk⟩
 obtain⟨p,len,cap,he,hk⟩:=form;obtain⟨r,r1,-,rr⟩:=hZ (P:=P) (dflt:=0) hs hhi (OI hz1 e 0);obtain⟨m,m1,-,mr⟩:=hZ (P:=P) (dflt:=0) hs hmx (OI hz2 e 0);subst r1 m1
 have hb:(Instr.sliceBounds true len cap none (some (a.eval hi)) (some (a.eval mx))).run P w=.ok (0,0,0) w :=
  fW (by simp) (λ v y I h hy=>by cases h) (λ _=>rfl) (λ v y I h hy=>by simpa using rr v y I w (by simpa using h) (Int.le_refl _) (by simpa using hy)) (λ h=>by cases h)
   (λ v y I h hy=>by simpa using mr v y I w (by simpa using h) (Int.le_refl _) (by simpa using hy)) (λ h=>by cases h) (Nat.le_refl _) (Nat.le_refl _) (Nat.zero_le _) true
 obtain⟨n,G⟩:=dC hr;obtain⟨V,U⟩:=KI hr G.free none (λ k hk=>by cases hk) hpos;rw[hp]at V U
 have H:(execOp a.eval o).run P w=.ok (.value (.slice p 0 0)) w:=by
  simp[execOp,ho,he,Instr.sliceAt,Instr.slice,Sem.run_bind,Result.andThen,run_underlying hu,run_sizeOf ht,hb]
 exact⟨_,_,_,_,.ms n 0 0,H,Or.inr ⟨_,rfl,hd,.msE n 0 esz p [] (by simp[ak,Slot.row])⟩,V,U,WS.refl w,hk n G⟩
end Go.Am
namespace Go.Am
open Go
variable [ck]
variable {P:Program}{nt:Nat}
theorem K0 (z:Array Value) (n:Nat):(Builtin.zeroCells z n).size=n*z.size:=by simp[Builtin.zeroCells]
theorem RS {c:Ctx}{w:World}{K:HKq}(hr:au c) (hp:c.hp=w.heap){esz:Nat}(hpos:0<esz){els ys:List D}(hlens:∀e∈els,e.cells.length=esz) (hones:pe els)
  (huni:∀e∈ys,e.cells.length=esz) {olds news:List Value}(ro:iF c (flat els) olds) (rn:iF c (flat ys) news) (m:Option Nat) (hm:∀k,m=some k->∃l,c.h k=.arr esz l)
  (hk:∀n,pB c.h n->K (.ms n 0 (els.length+ys.length)) (ak (c.h.killO m) n (.arr esz (els++ys)))) (hmax:els.length+ys.length<=maxLen) :
  (∀(vs:Array Value) (ty:TypeId) (cap:Nat) (w':World),w'.heap=w.heap.push (.cells vs ty)->WS w w'->(olds++news) <+: vs.toList->cap*esz<=vs.size->els.length+ys.length<=cap->cap<=maxLen ->
   ∃ρ h' d,aA ⟨ρ,c.X,h',w'.heap⟩ d (.slice (some ⟨w.heap.size,0,none⟩) (els.length+ys.length) cap)/\c.le ⟨ρ,c.X,h',w'.heap⟩/\au ⟨ρ,c.X,h',w'.heap⟩/\K d h') /\
  (∀(p:Option Addr),els.length+ys.length=0 ->
   ∃ρ h' d,aA ⟨ρ,c.X,h',w.heap⟩ d (.slice p 0 0)/\c.le ⟨ρ,c.X,h',w.heap⟩/\au ⟨ρ,c.X,h',w.heap⟩/\K d h'):=by
 obtain⟨n,ht⟩:=dC hr;have hn:=ht.free
 have H:∀e,e∈els++ys->e.cells.length=esz:=by
  grind
 constructor
 ·intro vs ty cap w' O a1 S G hle U
  let u:Heap:=c.h.killO m
  have hne:∀k,m=some k->k≠n:=by
   grind
  have I:kI c ⟨ak c.ρ n (some w.heap.size),c.X,ak u n (.arr esz (els++ys)),w'.heap⟩ (m.getD n) n w.heap.size:=by
   refine⟨rfl,λ k h1 h2=>?_,λ k h1=>by simp[ak,h1],Or.inr hn,λ h=>?_,by simp[ak,Slot.mine],by simp[ak],by rw[hn];exact .free _,λ h=>absurd hn h,by rw[O,hp];simp,λ k h1 h2=>?_,λ cur Z fr h=>?_,λ r h=>?_,Or.inl (by rw[hp];exact Nat.le_refl _)⟩
   ·simp only[aa _ _ h1];show u k=c.h k
    simp only[u]
    cases m with
    | none=>rfl
    | some j=>simp only[Option.getD_some]at h2;simp[Heap.killO,ak,h2]
   ·cases m with
    | none=>exact absurd rfl h
    | some j =>
     simp only[Option.getD_some]at h ⊢;obtain⟨l,hl⟩:=hm j rfl;refine⟨?_,by rw[hl];exact .arrDead _ _⟩;simp only[aa _ _ (show j≠n from λ e=>h e.symm)];show u j=.dead
     simp[u,Heap.killO,ak]
   ·grind
   ·grind
   grind
  have Q:∀k,k<(olds++news).length->vs.getD k Go.undef=(olds++news).getD k Go.undef:=by
   intro k a5;obtain⟨t,ht⟩:=S;rw[<- aO, <- ht];grind
  have E:iF c (flat (els++ys)) (olds++news):=by rw[lQ];exact ro.append rn
  have hsz:(els++ys).length*esz<=vs.size:=Nat.le_trans (Nat.mul_le_mul_right _ (by simpa using hle)) G
  have hslot:dg ⟨ak c.ρ n (some w.heap.size),c.X,ak u n (.arr esz (els++ys)),w'.heap⟩ n (.arr esz (els++ys)):=by
   refine Ar (hp:=w.heap) O (by simp[ak]) hpos H hsz (λ i j d hd=>?_);have T:=jd H hd;obtain⟨p1,p2⟩:=E.rel _ d T;refine⟨p1,?_⟩;rw[Q _ (by rw[E.len];grind)];exact p2.mono I.le
  refine⟨ak c.ρ n (some w.heap.size),ak u n (.arr esz (els++ys)),.ms n 0 (els.length+ys.length),?_,I.le,I.heap hr (by grind [af]),hk n ht⟩
  have:=aA.ms (c:=⟨ak c.ρ n (some w.heap.size),c.X,ak u n (.arr esz (els++ys)),w'.heap⟩) n 0 (els.length+ys.length) w.heap.size esz cap (els++ys) vs ty (0,0) (by simp[ak,Slot.row]) (by simp[ak])
   (by simp) (by grind) (by simpa using G) hle U
  simpa using this
 ·intro p h0;have e1:els=[]:=List.eq_nil_of_length_eq_zero (by omega);have e2:ys=[]:=List.eq_nil_of_length_eq_zero (by omega);subst e1 e2;obtain⟨W,V⟩:=KI hr hn m (λ k a2=>by grind) hpos;rw[hp]at W V;refine⟨_,_,.ms n 0 0,?_,W,V,by simpa using hk n ht⟩;exact .msE n 0 esz p [] (by simp[ak,Slot.row])
theorem abX {o:Oper}{t t' elem:TypeId}{s x:Operand}{s' x':Arg}{i:TypeInfo}{zd:D}(ho:o.op=.call { callee:=.builtin .append,args:= #[s,x],argTypes:= #[t,t'] })
  (hs':cArg s=some s') (hx:cArg x=some x') (hd:∀i,o.dst=some i->i<nt) (hu:P.underlying t=some (.slice elem)) (hu':∃e',P.underlying t'=some (.slice e')) (hi:P.info? elem=some i) (hz:eJ P elem=some zd)
  (hsz:zd.cells.length=i.size) (hpos:0<i.size):gK P nt o (.app s' x' i.size i.bytes zd):=by
 obtain⟨z,j0,g4⟩:=gC hz;have g2:i.zero=some z:=by simpa[hi] using j0
 refine gK.unit λ K e c w a hv hp hr hs=>?_
 simp only[vcOp]at hv;have rs:=aH hs' hs;have rx:=aH hx hs;obtain⟨ys,hv,j1,I⟩:=DF (P:=P) (w:=w) hr hp hpos rx hv;obtain⟨p,cp,news,c3,j2,rn,e9⟩:=I.row
 have h9:z.cells.size=i.size:=by
  have:=(dB (gP g4 c) (gz g4)).len;rw[<- hsz, <- this];simp
 have g0:∀w':World,w'.heap=w.heap->(Builtin.firstCells i.size ys.length (.slice p ys.length cp)).run P w'=.ok news.toArray w':=by
  intro w' e6;have:=e9 ys.length w' (Nat.le_refl _) e6;rw[c3]at this
  have c7:news.take (ys.length*i.size)=news:=by
   rw[List.take_of_length_le];rw[rn.len,bm I.uni];exact Nat.le_refl _
  grind
 have a7:∀v w',(Builtin.append_ #[t,t'] o.type #[a.eval s,a.eval x]).run P w=.ok v w'->(execOp a.eval o).run P w=.ok (.value v) w':=by
  intro v w' h;rw[exec_builtin ho];simp[builtin,h]
 have grow:∀(els:List D) (olds:List Value) (base:Option Addr) (H G:Nat) (m:Option Nat),a.eval s=.slice base H G->H=els.length->(∀e∈els,e.cells.length=i.size)->pe els->iF c (flat els) olds ->
   (∀w':World,w'.heap=w.heap->(Builtin.firstCells i.size H (.slice base H G)).run P w'=.ok olds.toArray w')->(∀k,m=some k->∃l,c.h k=.arr i.size l) ->
   (H+ys.length)*i.bytes<=140737488355328->H+ys.length<=9223372036854775807 ->
   (∀n,pB c.h n->K (.ms n 0 (els.length+ys.length)) (ak (c.h.killO m) n (.arr i.size (els++ys))))->G<H+ys.length ->
   ∃v w' ρ h' d,(execOp a.eval o).run P w=.ok v w'/\(v=.skip/\o.dst=none\/∃x,v=.value x/\(∀i,o.dst=some i->i<nt)/\aA ⟨ρ,c.X,h',w'.heap⟩ d x) /\
    c.le ⟨ρ,c.X,h',w'.heap⟩/\au ⟨ρ,c.X,h',w'.heap⟩/\WS w w'/\K d h':=by
  intro els olds base H G m O j3 u T ro holds hm U W hk j9;subst j3;have Q:=(qJ (P:=P) (ty:=o.type) hu hu' hi g2 (w:=w) g0 holds W U).2 j9;rw[<- O, <- c3]at Q;have k0:=grownCap_ge w (els.length+ys.length) G elem;have k2:=grownCap_le_maxLen w (els.length+ys.length) G elem (by unfold maxLen;omega);have e8:olds.length=els.length*i.size:=by rw[ro.len,bm u]
  have c7:news.length=ys.length*i.size:=by rw[rn.len,bm I.uni]
  obtain⟨ρ,h',d,q1,q2,q3,q4⟩:=(RS hr hp hpos u T I.uni ro rn m hm hk (by unfold maxLen;omega)).1 _ elem (grownCap w (els.length+ys.length) G elem)
   (w.drew.alloc (.cells (olds.toArray++news.toArray++Builtin.zeroCells z.cells (grownCap w (els.length+ys.length) G elem-(els.length+ys.length))) elem)) rfl ⟨rfl,rfl,rfl⟩
   ⟨(Builtin.zeroCells z.cells (grownCap w (els.length+ys.length) G elem-(els.length+ys.length))).toList,by simp⟩
   (by simp only[Array.size_append,List.size_toArray,K0,h9,e8,c7, <- Nat.add_mul];grind) k0 k2
  exact⟨_,_,ρ,h',d,a7 _ _ Q,Or.inr ⟨_,rfl,hd,q1⟩,q2,q3,⟨rfl,rfl,rfl⟩,q4⟩
 have Z:∀(els:List D) (base:Option Addr) (m:Option Nat),a.eval s=.slice base 0 0->els=[]->(∀k,m=some k->∃l,c.h k=.arr i.size l) ->
   (ys.length*i.bytes<=140737488355328)->ys.length<=9223372036854775807 ->
   (∀n,pB c.h n->K (.ms n 0 ys.length) (ak (c.h.killO m) n (.arr i.size ys))) ->
   ∃v w' ρ h' d,(execOp a.eval o).run P w=.ok v w'/\(v=.skip/\o.dst=none\/∃x,v=.value x/\(∀i,o.dst=some i->i<nt)/\aA ⟨ρ,c.X,h',w'.heap⟩ d x) /\
    c.le ⟨ρ,c.X,h',w'.heap⟩/\au ⟨ρ,c.X,h',w'.heap⟩/\WS w w'/\K d h':=by
  intro els base m O he hm U W hk;subst he
  have holds:∀w':World,w'.heap=w.heap->(Builtin.firstCells i.size 0 (.slice base 0 0)).run P w'=.ok ([]:List Value).toArray w':=by
   intro w' _
   cases base with
   | none=>simp[Builtin.firstCells]
   | some a=>simp[Builtin.firstCells,loadCells,loadCellsFrom]
  by_cases hy:ys.length=0
  ·have Q:=(qJ (P:=P) (ty:=o.type) hu hu' hi g2 (w:=w) g0 holds (by omega) (by simpa using U)).1 (by omega) w (by
    have j4:news=[]:=List.eq_nil_of_length_eq_zero (by grind);rw[j4]
    cases base<;>simp[storeCells])
   rw[<- O, <- c3,hy]at Q;obtain⟨ρ,h',d,q1,q2,q3,q4⟩:=(RS (els:=[]) hr hp hpos (by simp) (λ i j d hd=>by simp[aP]at hd) I.uni (olds:=[]) ⟨rfl,by simp[flat]⟩ rn m hm (by simpa using hk) (by unfold maxLen;simp;omega)).2 base (by simpa using hy);grind [WS.refl]
  ·exact grow [] [] base 0 0 m O rfl (by simp) (λ i j d hd=>by simp[aP]at hd) ⟨rfl,by simp[flat]⟩ holds hm (by simpa using U) (by omega) (by simpa using hk) (by omega)
 generalize k7:s'.get e=ds at hv rs;cases ds<;>try exact hv.elim
 ·
  obtain⟨⟨U,W⟩,hk⟩:=hv;generalize O:a.eval s=vs at rs;cases rs;exact Z [] none none O rfl (by simp) U W hk
 ·
  rename_i m off len;obtain⟨els,⟨rest,hm⟩,hlen,⟨U,W⟩,j6⟩:=hv;have j7:∀n,pB c.h n->K (.ms n 0 (len+ys.length)) (ak (ak c.h m .dead) n (.arr i.size (els.drop off++ys))):=λ n t=>(j6 n t).1
  have hk:∀n,pB c.h n->K (.ms n off (len+ys.length)) (ak (ak c.h m .dead) n (.arr i.size (els++ys))):=λ n t=>by
   grind
  have e0:(els.drop off).length=len:=by rw[List.length_drop];omega
  have hslot:=hr.slot m;rw[hm]at hslot;obtain⟨_,c8,c5,e7⟩:=hslot;have u:∀e∈els,e.cells.length=i.size:=λ e he=>c8 e (List.mem_append_left _ he)
  have e1:∀i j (d:D),aP els i j=some d->aP (els++rest) i j=some d:=by
   intro i j d h;simp only[aP,Option.bind_eq_some_iff]at h ⊢;grind
  have T:pe els:=λ i j d h=>c5 i j d (e1 i j d h)
  have g7:(c.ρ m=none/\els=[])\/∃(g:Nat) (cur:Array Value) (ty:TypeId),c.ρ m=some g/\c.hp[g]?=some (.cells cur ty (0,0)) /\
    els.length*i.size<=cur.size/\∀i' j d,aP els i' j=some d->aA c d (cur.getD (i'*i.size+j) Go.undef):=by
   rcases e7 with⟨h1,h2⟩|⟨g,cur,ty,h1,h2,h3,h4⟩
   ·grind [List.append_eq_nil_iff]
   ·refine Or.inr ⟨g,cur,ty,h1,h2,Nat.le_trans (Nat.mul_le_mul_right _ (by simp)) h3,λ i' j d h=>h4 i' j d (e1 i' j d h)⟩
  generalize O:a.eval s=vs at rs;have V:∀e,e∈els.drop off->e.cells.length=i.size:=λ e he=>u e (List.mem_of_mem_drop he)
  have e4:∀k j (d:D),aP (els.drop off) k j=some d->aP els (off+k) j=some d:=λ k j d h=>by
   grind [aP]
  have c4:pe (els.drop off):=λ i j d h=>T _ _ _ (e4 _ _ _ h)
  cases rs with
  | msDead _ _ _ _ _ _ h6=>rw[hm]at h6;cases h6
  | msNil _ _ e5 S hρ =>
   have h0:els=[]:=by
    grind
   exact Z els none (some m) O h0 (λ k hk=>by cases hk;exact⟨_,hm⟩) (by simpa[h0] using U) (by simpa[h0] using W) (by grind [Heap.killO])
  | msE _ _ _ p' e5 S =>
   have h0:els.drop off=[]:=List.eq_nil_of_length_eq_zero e0;exact Z (els.drop off) p' (some m) O h0 (λ k hk=>by cases hk;exact⟨_,hm⟩) (by simpa using U) (by simpa using W) (by grind [Heap.killO])
  | ms _ _ _ g k4 cap e5 cur ty fr S hρ hl hg c1 hc g8 =>
   rw[hm]at S;simp[Slot.row]at S;obtain⟨rfl,rfl⟩:=S;rcases g7 with⟨q,_⟩|⟨g',cur',h7,q1,q2,q3,q4⟩
   ·rw[hρ]at q;cases q
   ·rw[hρ]at q1;cases q1;rw[q2]at hg;cases hg;have c9:w.heap[g]?=some (.cells cur ty (0,0)):=hp ▸ q2
    have k5:off*i.size+len*i.size<=cur.size:=by
     grind [Nat.add_mul]
    let E:=(cur.toList.drop (off*i.size)).take (len*i.size)
    have k3:E.length=len*i.size:=by simp[E];omega
    have h8:iF c (flat (els.drop off)) E:=by
     refine⟨by grind [bm],λ k d hd=>?_⟩;have g1:=(aq.1 hd).1;rw[bm V,e0]at g1;have a8:=e4 _ _ _ (uW hpos V hd);refine⟨T _ _ _ a8,?_⟩;have:=q4 _ _ _ a8;rw[Nat.add_mul,Nat.add_assoc,Nat.mul_comm (k / i.size),Nat.div_add_mod, <- aO]at this;grind
    have a2:∀w':World,w'.heap=w.heap->(Builtin.firstCells i.size len (.slice (some ⟨g,off*i.size,none⟩) len cap)).run P w'=.ok E.toArray w':=by
     intro w' e6
     have:=run_loadCells_list (P:=P) (w:=w') ⟨g,off*i.size,none⟩ E (λ j v hj=>by
      rw[Addr.add_lit,Al,e6];have g9:j<len*i.size:=by grind
      have j8:off*i.size+j<cur.size:=by omega
      rw[jY c9 j8];simp only[E,List.getElem?_take,if_pos g9,List.getElem?_drop]at hj;rw[<- aO]
      simp[List.getD,hj])
     grind [Builtin.firstCells]
    let olds:=cur.toList.take (els.length*i.size)
    have e8:olds.length=els.length*i.size:=by simp[olds];omega
    have ro:iF c (flat els) olds:=by
     refine⟨by rw[e8,bm u],λ k d hd=>?_⟩;have g1:=(aq.1 hd).1;rw[bm u]at g1;have a8:=uW hpos u hd;refine⟨T _ _ _ a8,?_⟩;have:=q4 _ _ _ a8;rw[Nat.mul_comm,Nat.div_add_mod, <- aO]at this;grind
    by_cases a6:len+ys.length<=cap
    ·
     have c7:news.length=ys.length*i.size:=by rw[rn.len,bm I.uni]
     have h5:els.length*i.size+news.length<=cur.size:=by
      rw[c7, <- Nat.add_mul];exact Nat.le_trans (Nat.mul_le_mul_right _ (by omega)) c1
     have c6:=rn.Ko;have g6:=run_storeCells_at P g (els.length*i.size) ty news 0 cur w c9 (by simpa using h5) c6;simp only[Nat.add_zero]at g6
     let vs:=(cur.toList.take (els.length*i.size)++news++cur.toList.drop (els.length*i.size+news.length)).toArray
     have Q:=(qJ (P:=P) (ty:=o.type) hu hu' hi g2 (w:=w) g0 a2 W U).1 a6 (w.setRow g vs) (by grind [Addr.add_lit,Nat.add_mul]);rw[<- O, <- c3]at Q;obtain⟨n,ht⟩:=dC hr;have hn:=ht.free;have j5:n≠m:=by grind
     have g5:vs.size=cur.size:=by simp[vs];omega
     have a1:kI c ⟨ak c.ρ n (some g),c.X,ak (ak c.h m .dead) n (.arr i.size (els++ys)),(w.setRow g vs).heap⟩ m n g:=by
      refine⟨rfl,λ k h1 h2=>by simp[ak,h1,h2],λ k h1=>by simp[ak,h1],Or.inr hn,λ h=>⟨by simp[ak,j5.symm],by rw[hm];exact .arrDead _ _⟩,by simp[ak,Slot.mine],by simp[ak],by rw[hn];exact .free _,λ h=>absurd hn h,
       by grind [setRow_size],λ k h1 h2=>by grind [setRow_other],λ cur' h7 fr h=>?_,λ r h=>?_,Or.inr ⟨by rw[hm];trivial,hρ⟩⟩
      ·grind [setRow_heap]
      ·rw[q2]at h;cases h
     have c2:∀e,e∈els++ys->e.cells.length=i.size:=by
      intro e he;rcases List.mem_append.1 he with h|h
      ·exact u e h
      ·exact I.uni e h
     have a5:iF c (flat (els++ys)) (olds++news):=by rw[lQ];exact ro.append rn
     refine⟨_,_,ak c.ρ n (some g),ak (ak c.h m .dead) n (.arr i.size (els++ys)),.ms n off (len+ys.length),a7 _ _ Q,Or.inr ⟨_,rfl,hd,?_⟩,a1.le,a1.heap hr ?_,⟨rfl,rfl,rfl⟩,hk n ht⟩
     ·have:=aA.ms (c:=⟨ak c.ρ n (some g),c.X,ak (ak c.h m .dead) n (.arr i.size (els++ys)),(w.setRow g vs).heap⟩) n off (len+ys.length) g i.size cap (els++ys) vs ty (0,0) (by simp[ak,Slot.row]) (by simp[ak])
       (by simp;omega) (setRow_heap w g cur vs ty (0,0) c9) (by rw[g5];exact c1) a6 g8
      exact this
     ·simp only[af];refine⟨hpos,c2,?_,Or.inr ⟨g,vs,ty,by simp[ak],setRow_heap w g cur vs ty (0,0) c9,?_,?_⟩⟩
      ·intro i' j' d g3;exact(a5.rel _ d (jd c2 g3)).1
      ·rw[g5];exact Nat.le_trans (Nat.mul_le_mul_right _ (show(els++ys).length<=off+cap by simp;omega)) c1
      ·intro i' j' d g3;have k1:=jd c2 g3;obtain⟨_,p2⟩:=a5.rel _ d k1;have k6:i'*i.size+j'<(olds++news).length:=by rw[a5.len];grind
       have:vs.getD (i'*i.size+j') Go.undef=(olds++news).getD (i'*i.size+j') Go.undef:=by
        rw[<- aO];grind
       rw[this];exact p2.mono a1.le
    ·exact grow (els.drop off) E _ _ cap (some m) O e0.symm V c4 h8 a2 (λ k hk=>by cases hk;exact⟨_,hm⟩) U W (by rw[e0];exact j7) (by omega)
end Go.Am
namespace Go.Am
open Go
variable [ck]
variable {P:Program}{nt:Nat}
theorem Oy {c:Ctx}{w:World}{m g esz off:Nat}{els ys:List D}{new:List Value}{cur:Array Value}{ty:TypeId}(hr:au c) (hp:c.hp=w.heap) (hm:c.h m=.arr esz els) (hρ:c.ρ m=some g)
  (hg':w.heap[g]?=some (.cells cur ty (0,0))) (q3:els.length*esz<=cur.size) (q4:∀i j d,aP els i j=some d->aA c d (cur.getD (i*esz+j) Go.undef)) (hlens:∀e∈els,e.cells.length=esz)
  (hones:∀i j d,aP els i j=some d->d.one=true) (hpos:0<esz) (hk:off+ys.length<=els.length) (hyk:∀e∈ys,e.cells.length=esz) (rnew:iF c (flat ys) new) :
  let vs:=(cur.toList.take (off*esz)++new++cur.toList.drop (off*esz+new.length)).toArray
  let h':=ak c.h m (.arr esz (els.take off++ys++els.drop (off+ys.length)))
  (storeCells ⟨g,off*esz,none⟩ new 0).run P w=.ok () (w.setRow g vs)/\c.le ⟨c.ρ,c.X,h',(w.setRow g vs).heap⟩/\au ⟨c.ρ,c.X,h',(w.setRow g vs).heap⟩:=by
 have U:new.length=ys.length*esz:=by rw[rnew.len,bm hyk]
 have W:off*esz+new.length<=cur.size:=by
  rw[U, <- Nat.add_mul];exact Nat.le_trans (Nat.mul_le_mul_right _ hk) q3
 have Q:=run_storeCells_at P g (off*esz) ty new 0 cur w hg' (by simpa using W) rnew.Ko;simp only[Nat.add_zero]at Q;intro vs h';have O:vs.size=cur.size:=by simp[vs];omega
 let E:=els.take off++ys++els.drop (off+ys.length)
 have T:E.length=els.length:=by simp[E];omega
 have G:∀e∈E,e.cells.length=esz:=by
  grind
 have H:=kI.write (s:=.arr esz E) hp hg' O (by rw[hm];trivial) hρ (by rw[hm];exact .arrArr _ _ _ (by omega)) trivial
 let u:=cur.toList.take (els.length*esz)
 have ro:iF c (flat els) u:=by
  refine⟨by grind [bm],λ j d hd=>?_⟩;have hj:=(aq.1 hd).1;rw[bm hlens]at hj;have a1:=uW hpos hlens hd;refine⟨hones _ _ _ a1,?_⟩;have:=q4 _ _ _ a1;rw[Nat.mul_comm,Nat.div_add_mod, <- aO]at this;grind
 have r2:iF c (flat E) (u.take (off*esz)++new++u.drop ((off+ys.length)*esz)):=by
  have:flat E=(flat els).take (off*esz)++flat ys++(flat els).drop ((off+ys.length)*esz):=by
   rw[Hi hlens (by omega),MD hlens (by omega)];simp[E,lQ]
  rw[this];exact((ro.take _).append rnew).append (ro.drop _)
 have V:∀j,j<els.length*esz->vs.getD j Go.undef=(u.take (off*esz)++new++u.drop ((off+ys.length)*esz)).getD j Go.undef:=by
  intro j hj;have a2:u.length=els.length*esz:=by simp[u];omega
  have e1:(off+ys.length)*esz=off*esz+new.length:=by rw[U,Nat.add_mul]
  rw[e1, <- aO];grind
 refine⟨Q,H.le,H.heap hr ?_⟩;simp only[af];refine⟨hpos,G,?_,Or.inr ⟨g,vs,ty,hρ,setRow_heap w g cur vs ty (0,0) hg',by rw[O,T];exact q3,?_⟩⟩
 ·intro i j d I;exact(r2.rel _ d (jd G I)).1
 ·intro i j d I;have Z:=jd G I;have S:=(aq.1 Z).1;rw[bm G,T]at S;rw[V _ S];exact(r2.rel _ d Z).2.mono H.le
theorem abR {o:Oper}{t t' elem:TypeId}{s x:Operand}{s' x':Arg}{esz:Nat}(ho:o.op=.call { callee:=.builtin .copy,args:= #[s,x],argTypes:= #[t,t'] })
  (hs':cArg s=some s') (hx:cArg x=some x') (hd:∀i,o.dst=some i->i<nt) (hu:P.underlying t=some (.slice elem)) (ht:(P.info? elem).map (·.size)=some esz) (hpos:0<esz):gK P nt o (.MK s' x' esz):=by
 refine gK.unit λ K e c w a U hp hr hs=>?_
 simp only[vcOp]at U;have rs:=aH hs' hs;have rx:=aH hx hs;obtain⟨ys,U,a8,E⟩:=DF (P:=P) (w:=w) hr hp hpos rx U;obtain⟨p,cp,news,W,c1,rn,c3⟩:=E.row;generalize e1:s'.get e=ds at U rs;cases ds<;>try exact U.elim
 rename_i m off len;obtain⟨els,hm,c9,hk⟩:=U;have hslot:=hr.slot m;rw[hm]at hslot;obtain⟨_,S,Q,a1⟩:=hslot
 have I:∀v w',(Builtin.copy_ #[t,t'] o.type #[a.eval s,a.eval x]).run P w=.ok v w'->(execOp a.eval o).run P w=.ok (.value v) w':=by
  intro v w' h;rw[exec_builtin ho];simp[builtin,h]
 have G:∀k,k<=ys.length->(Builtin.firstCells esz k (.slice p ys.length cp)).run P w=.ok (news.take (k*esz)).toArray w:=by
  grind
 have a5:Nat.min ys.length len=min ys.length len:=rfl
 have zero:∀(base:Option Addr) (cap:Nat),a.eval s=.slice base 0 cap->len=0 ->
   ∃v w' ρ h' d,(execOp a.eval o).run P w=.ok v w'/\(v=.skip/\o.dst=none\/∃x,v=.value x/\(∀i,o.dst=some i->i<nt)/\aA ⟨ρ,c.X,h',w'.heap⟩ d x) /\
    c.le ⟨ρ,c.X,h',w'.heap⟩/\au ⟨ρ,c.X,h',w'.heap⟩/\WS w w'/\K d h':=by
  intro base cap H h0;subst h0
  have Z:(Builtin.copy_ #[t,t'] o.type #[a.eval s,a.eval x]).run P w=.ok (goInt (0:Nat)) w:=by
   have hf:=G 0 (Nat.zero_le _);simp at hf;cases base<;>simp[Builtin.copy_,H,W,run_underlying hu,Builtin.lenOf,run_sizeOf ht,hf,storeCells]
  have hh:ak c.h m (.arr esz (els.take off++ys.take 0++els.drop (off+min ys.length 0)))=c.h:=by
   funext k;by_cases a6:k=m
   ·subst a6;simp[ak,hm]
   ·simp[ak,a6]
  rw[hh]at hk;have T:(⟨c.ρ,c.X,c.h,w.heap⟩:Ctx)=c:=by rw[<- hp]
  refine⟨_,_,c.ρ,c.h,_,I _ _ Z,Or.inr ⟨_,rfl,hd,?_⟩,by rw[T];exact Ctx.le.refl c,by rw[T];exact hr,WS.refl w,hk⟩;rw[T];simp only[Nat.min_zero,goInt];exact .int _ _
 generalize H:a.eval s=vs at rs
 cases rs with
 | msDead _ _ _ _ _ _ a7=>rw[hm]at a7;cases a7
 | msNil _ _ O u hρ=>exact zero none 0 H rfl
 | msE _ _ _ p' O u=>exact zero p' 0 H rfl
 | ms _ _ _ g c7 cap O cur ty fr u hρ hl hg c6 hc c5 =>
  rw[hm]at u;simp[Slot.row]at u;obtain⟨rfl,rfl⟩:=u;rcases a1 with⟨q,_⟩|⟨g',cur',c8,q1,q2,q3,q4⟩
  ·rw[hρ]at q;cases q
  ·rw[hρ]at q1;cases q1;rw[q2]at hg;cases hg;have e4:w.heap[g]?=some (.cells cur ty (0,0)):=hp ▸ q2;have e0:news.length=ys.length*esz:=by rw[rn.len,bm E.uni]
   have V:iF c (flat (ys.take (min ys.length len))) (news.take (min ys.length len*esz)):=by
    rw[<- Hi E.uni (by omega)];exact rn.take _
   obtain⟨c2,hle,a2⟩:=Oy (P:=P) (off:=off) hr hp hm hρ (hp ▸ q2) q3 q4 S Q hpos (by grind) (λ e he=>E.uni e (List.mem_of_mem_take he)) V;have hf:=G (min ys.length len) (by omega)
   have c4:els.take off++ys.take (min ys.length len)++els.drop (off+(ys.take (min ys.length len)).length)=els.take off++ys.take len++els.drop (off+min ys.length len):=by
    grind
   rw[c4]at a2 hle;exact⟨_,_,c.ρ,_,.int .i64 (min ys.length len:Nat),I _ _ (by simp[Builtin.copy_,H,W,run_underlying hu,Builtin.lenOf,run_sizeOf ht,a5,hf,c2,goInt]),Or.inr ⟨_,rfl,hd,.int _ _⟩,hle,a2,⟨rfl,rfl,rfl⟩,hk⟩
theorem abS {o:Oper}{t elem:TypeId}{s:Operand}{s':Arg}{i:TypeInfo}{zd:D}(ho:o.op=.call { callee:=.builtin .clear,args:= #[s],argTypes:= #[t] })
  (hs':cArg s=some s') (hd:∀i,o.dst=some i->i<nt) (hu:P.underlying t=some (.slice elem)) (hi:P.info? elem=some i) (hz:eJ P elem=some zd)
  (hsz:zd.cells.length=i.size) (hpos:0<i.size):gK P nt o (.clr s' i.size zd):=by
 obtain⟨z,a6,V⟩:=gC hz;refine gK.unit λ K e c w a hv hp hr hs=>?_
 simp only[vcOp]at hv;have rs:=aH hs' hs;generalize c6:s'.get e=ds at hv rs;cases ds<;>try exact hv.elim
 rename_i m off len;obtain⟨els,hm,a8,hk⟩:=hv;have hslot:=hr.slot m;rw[hm]at hslot;obtain⟨_,S,Q,W⟩:=hslot
 have G:∀w',(Builtin.clear_ #[t] o.type #[a.eval s]).run P w=.ok (.tuple #[]) w'->(execOp a.eval o).run P w=.ok (.value (.tuple #[])) w':=by
  intro w' h;rw[exec_builtin ho];simp[builtin,h]
 have rt:∀c:Ctx,aA c (.tup []) (.tuple #[]):=λ c=>.tup _ _ rfl (λ _ _ h=>by simp at h)
 have zero:∀(base:Option Addr) (cap:Nat),a.eval s=.slice base 0 cap->len=0 ->
   ∃v w' ρ h' d,(execOp a.eval o).run P w=.ok v w'/\(v=.skip/\o.dst=none\/∃x,v=.value x/\(∀i,o.dst=some i->i<nt)/\aA ⟨ρ,c.X,h',w'.heap⟩ d x) /\
    c.le ⟨ρ,c.X,h',w'.heap⟩/\au ⟨ρ,c.X,h',w'.heap⟩/\WS w w'/\K d h':=by
  intro base cap E h0;subst h0
  have hh:ak c.h m (.arr i.size (els.take off++List.replicate 0 zd++els.drop (off+0)))=c.h:=by
   funext k;by_cases a1:k=m
   ·subst a1;simp[ak,hm]
   ·simp[ak,a1]
  rw[hh]at hk;have a5:(⟨c.ρ,c.X,c.h,w.heap⟩:Ctx)=c:=by rw[<- hp]
  exact⟨_,_,c.ρ,c.h,_,G w (by cases base<;>simp[Builtin.clear_,E,run_underlying hu]),Or.inr ⟨_,rfl,hd,rt _⟩,by rw[a5];exact Ctx.le.refl c,by rw[a5];exact hr,WS.refl w,hk⟩
 generalize E:a.eval s=vs at rs
 cases rs with
 | msDead _ _ _ _ _ _ a2=>rw[hm]at a2;cases a2
 | msNil _ _ I u hρ=>exact zero none 0 E rfl
 | msE _ _ _ p' I u=>exact zero p' 0 E rfl
 | ms _ _ _ g c4 cap I cur ty fr u hρ hl hg c3 hc c2 =>
  by_cases c1:len=0
  ·subst c1;exact zero _ _ E rfl
  rw[hm]at u;simp[Slot.row]at u;obtain⟨rfl,rfl⟩:=u;rcases W with⟨q,_⟩|⟨g',cur',c5,q1,q2,q3,q4⟩
  ·rw[hρ]at q;cases q
  ·rw[hρ]at q1;cases q1;rw[q2]at hg;cases hg;have U:=dB (gP V c) (gz V);have O:z.cells.size=i.size:=by rw[<- hsz, <- U.len];simp
   have H:∀e,e∈List.replicate len zd->e.cells.length=i.size:=λ e he=>by rw[List.eq_of_mem_replicate he];exact hsz
   have T:iF c (flat (List.replicate len zd)) (Builtin.zeroCells z.cells len).toList:=by
    refine⟨by rw[bm H,Array.length_toList,K0,O];simp,λ j d hd=>?_⟩;have hj:=(aq.1 hd).1;rw[bm H,List.length_replicate]at hj;obtain⟨p1,p2⟩:=iu (uW hpos H hd);obtain⟨p3,p4⟩:=U.rel _ d p2;refine⟨p3,?_⟩;rw[aO]at p4 ⊢
    have:(Builtin.zeroCells z.cells len).getD j Go.undef=z.cells.getD (j % i.size) Go.undef:=by
     have h1:j % i.size<z.cells.size:=by rw[O];exact Nat.mod_lt _ hpos
     have h2:=Nat.mod_lt j hpos;simp[Builtin.zeroCells,Array.getD,O,hj,h2,Array.getElem!_eq_getD,h1]
    rw[this];exact p4
   obtain⟨a7,hle,Z⟩:=Oy (P:=P) (off:=off) hr hp hm hρ (hp ▸ q2) q3 q4 S Q hpos (by simpa using a8) H T;simp only[List.length_replicate]at hle Z;obtain⟨l',rfl⟩:∃l',len=l'+1:=⟨len-1,by omega⟩;exact⟨_,_,c.ρ,_,.tup [],G _ (by simp[Builtin.clear_,E,run_underlying hu,bB a6,a7]),Or.inr ⟨_,rfl,hd,rt _⟩,hle,Z,⟨rfl,rfl,rfl⟩,hk⟩
theorem ku {f:FuncId}(h:de P f=true) (args:Array Value) (w:World):(callFunc f args).run P w=.ok (.enter f args) w:=by
 unfold de at h
 cases u:P.funcs[f]? with
 | none=>simp[u]at h
 | some fn =>
  simp only[u,Bool.and_eq_true,Bool.not_eq_true']at h;obtain⟨h1,h2⟩:=h;have h3:fn.body≠none:=by intro hb;simp[hb]at h2
  have h4:fn.name ≠ "runtime.NumGoroutine" :=by simpa using h1
  simp[callFunc,program,Sem.run,u,h4,h3]
theorem Pa {o:Oper}{f:FuncId}{ds:List D}{K:HKq}{e:LEnv}{h:Heap}{c:Ctx}{w:World}{a:Act}{Q:Exit->Act->World->Prop}{vals:Array Value}{r:Option Nat}(hnd:∀c,o.op≠.defer c) (hd:∀i,o.dst=some i->i<nt)
  (hv:ag P f ds h K) (hh:c.h=h) (hp:c.hp=w.heap) (hr:au c) (hs:oe c nt e.get a) (hsz:vals.size=ds.length) (hrel:∀(i:Nat) (d:D),ds[i]?=some d->aA c d (vals.getD i Go.undef))
  (hrun:(execOp a.eval o).run P w=.ok (.enter f vals) w):o.wpIn (rF r) 0 P a w (Fin c w nt λ t' h'=>∃d,t'=(e.put o.dst d).get/\K d h') Q:=by
 refine kx hnd hrun ?_;refine⟨λ h=>by(cases h),?_⟩;refine(show CallsIn (rF r) 0 P f vals w _ from callsIn_wide.2 (hv c w vals hh hp hr hsz hrel)).mono ?_;rintro E w' ⟨v,r,ρ,h',rfl,h1,h2,h3,h4,u⟩;exact⟨ρ,(e.put o.dst r).get,h',h1,h2,h3,by rw[LEnv.bu];exact(hs.mono h1).put hd h4,r,rfl,u⟩
theorem T4 {o:Oper}{f:FuncId}{args:Array Operand}{ats:Array TypeId}{args':List Arg}(ho:o.op=.call { callee:=.value (.func f),args:=args,argTypes:=ats }) (ha:args.toList.mapM cArg=some args')
  (hd:∀i,o.dst=some i->i<nt) (hf:de P f=true):gK P nt o (.call f args'):=by
 intro K e h E u r c w a Q G hp hr hs;simp only[vcOp]at E;obtain⟨I,H⟩:=lJ ha hs;refine Pa u hd E G hp hr hs I H ?_;grind [execOp,resolve,Deferred.ofValue,Act.eval,invoke,ku]
theorem C4 (a b:Array Value) (i:Nat) (h:i<a.size):(a++b).getD i Go.undef=a.getD i Go.undef:=by
 simp[Array.getD,h,show i<a.size+b.size by omega,Array.getElem_append_left h]
theorem C3 (a b:Array Value) (i:Nat) (h:a.size<=i):(a++b).getD i Go.undef=b.getD (i-a.size) Go.undef:=by
 by_cases hb:i-a.size<b.size
 ·simp[Array.getD,hb,show i<a.size+b.size by omega,Array.getElem_append_right h]
 grind
theorem DT {c:Ctx}{ds es:List D}{va vb:Array Value}(ha:va.size=ds.length) (hra:∀(i:Nat) (d:D),ds[i]?=some d->aA c d (va.getD i Go.undef))
  (hrb:∀(i:Nat) (d:D),es[i]?=some d->aA c d (vb.getD i Go.undef)):∀(i:Nat) (d:D),(ds++es)[i]?=some d->aA c d ((va++vb).getD i Go.undef):=by
 grind [C4,C3]
theorem WZ {o:Oper}{x:Operand}{x':Arg}{args:Array Operand}{ats:Array TypeId}{args':List Arg}(ho:o.op=.call { callee:=.value x,args:=args,argTypes:=ats }) (hx:cArg x=some x') (ha:args.toList.mapM cArg=some args')
  (hd:∀i,o.dst=some i->i<nt):gK P nt o (.callv x' args'):=by
 intro K e h u H r c w a Q T hp hr hs;simp only[vcOp]at u;have rx:=aH hx hs;obtain⟨O,U⟩:=lJ ha hs;generalize a5:x'.get e=dx at u rx;cases dx<;>try exact u.elim
 ·rename_i f fa fb;obtain⟨hf,u⟩:=u;generalize I:a.eval x=V at rx
  cases rx with
  | fn _ _ _ va vb hsa hsb hra hrb =>
   refine Pa (vals:=va++args.map a.eval++vb) H hd u T hp hr hs (by simp[hsa,hsb,O]) ?_ ?_
   ·exact DT (by simp[hsa,O]) (DT hsa hra U) hrb
   grind [execOp,resolve,Deferred.ofValue,invoke,ku]
 ·rename_i n;obtain⟨⟨st,B,hl⟩,u⟩:=u;generalize I:a.eval x=V at rx
  cases rx with
  | yldDead _ _ hd=>grind
  | yld _ g st' B' h1 hρ =>
   obtain⟨fn,tmps,assign,body,hy,E⟩:=u c w (args.map a.eval) g T hp hr O U hρ
   have G:(execOp a.eval o).run P w=.ok (.round g fn tmps assign body) w:=by
    grind [execOp,resolve,Deferred.ofValue,invoke]
   refine kx H G ?_;rw[Oper.uponIn_round];refine⟨λ h=>by(cases h),?_⟩;refine(show RoundIn (rF r) 0 P g fn tmps assign body w _ from E).mono ?_;rintro e' w' ⟨v,r',ρ,h',rfl,S,k2,k3,Z,W⟩;exact⟨ρ,(e.put o.dst r').get,h',S,k2,k3,by rw[LEnv.bu];exact(hs.mono S).put hd Z,r',rfl,W⟩
theorem Og:∀{ys:List D}{ns:List Int},u8L ys=some ns->ys=ns.map (.int .u8)
 | [],ns,h=>by simp[u8L]at h;subst h;rfl
 | .int .u8 n::r,ns,h=>by
  simp only[u8L,Option.map_eq_some_iff]at h;obtain⟨ms,h1,rfl⟩:=h;rw[Og h1];rfl
theorem abW {o:Oper}{src dst elem:TypeId}{x:Operand}{x':Arg}(ho:o.op=.convert src dst x) (hx:cArg x=some x') (hd:∀i,o.dst=some i->i<nt)
  (hu:P.underlying src=some (.slice elem)) (he:P.underlying elem=some (.int .u8)) (hdst:P.underlying dst=some .string):gK P nt o (.b2s x'):=by
 refine gK.pure hd λ K e c w a U hp hr hs=>?_
 have rx:=aH hx hs;simp only[vcOp]at U;obtain⟨ys,hk,hone,O⟩:=DF (P:=P) (w:=w) hr hp (by omega) rx U
 cases I:u8L ys with
 | none=>simp only[I]at hk
 | some H =>
  simp only[I]at hk;have E:=Og I;obtain⟨p,cap,news,Q,T,hrel,u⟩:=O.row
  have G:flat ys=ys:=by
   rw[E];clear hk hone U I E hrel u Q O T
   induction H with
   | nil=>rfl
   | cons n r ih =>
    grind [flat,D.cells]
  have W:news=H.map (Value.int .u8):=by
   have hl:=hrel.len;rw[G,E,aE]at hl;apply List.ext_getElem
   ·rw[hl,aE]
   ·intro i h1 h2;have hi:i<H.length:=by rw[<- hl];exact h1
    have:=(hrel.rel i (.int .u8 H[i]) (by rw[G,E];simp[hi])).2;have hg:news.getD i Go.undef=news[i]:=by simp[List.getD,h1]
    rw[hg]at this;cases hn:news[i]<;>rw[hn]at this<;>cases this;simp
  refine⟨.string (strOf H),.str (strOf H),?_,.str _,hk⟩;have h0:=u ys.length w (Nat.le_refl _) rfl;have hlen:ys.length=H.length:=by rw[E,aE]
  have V:news.take (ys.length*1)=news:=by grind [List.length_map]
  rw[Q]at h0
  have S:(convert src dst (a.eval x)).run P w=.ok (.string (strOf H)) w:=by
   rw[Q,run_convert_bytes_string w src dst elem p ys.length cap hu he hdst]
   cases p with
   | none =>
    grind [Builtin.firstCells,Sem.run_pure,List.length_nil,Conv.bytesToString,strOf]
   | some Z =>
    refine run_bytesToString w Z ys.length cap H ?_;grind [Builtin.firstCells]
  simp[execOp,ho,S]
end Go.Am
namespace Go.Am
open Go
variable [ck]
variable {P:Program}{nt:Nat}
def kv:D->Value
 | .int k n=>.int k n
 | .agg [.int k a,.int k' b]=>.agg #[.int k a,.int k' b]
 | _=>Go.undef
theorem wE {k:IntKind}{d:D}(h:(KeyT.int k).okB d=true):∃n,d=.int k n:=by
 cases d<;>simp only[KeyT.okB,decide_eq_true_eq]at h<;>try (cases h;done)
 subst h;exact⟨_,rfl⟩
theorem mG {k:IntKind}{d:D}(h:(KeyT.pair k).okB d=true):∃a b,d=.agg [.int k a,.int k b]:=by
 cases d<;>try (cases h;done)
 rename_i cs
 match cs,h with
 | [.int E a,.int u b],h =>
  grind [KeyT.okB]
theorem Kx {c:Ctx}{kt:KeyT}{d:D}{v:Value}(h:kt.okB d=true) (r:aA c d v):v=kv d:=by
 cases kt with
 | int k =>
  obtain⟨n,rfl⟩:=wE h;cases r;rfl
 | pair k =>
  obtain⟨a,b,rfl⟩:=mG h
  cases r with
  | agg _ vs hsz hone hrel =>
   have h0:=hrel 0 _ rfl;have h1:=hrel 1 _ rfl;obtain⟨l⟩:=vs
   match l,hsz with
   | [x,y],_ =>
    have E:(#[x,y]:Array Value).getD 0 Go.undef=x:=rfl;have u:(#[x,y]:Array Value).getD 1 Go.undef=y:=rfl;rw[E]at h0;rw[u]at h1;cases h0;cases h1;rfl
def keyT (P:Program) (t:TypeId):Option KeyT :=
 match P.underlying t with
 | some (.int k)=>some (.int k)
 | some (.array 2 e)=>match P.underlying e,(P.info? e).map (·.size) with
  | some (.int k),some 1=>some (.pair k)
  | _,_=>none
 | _=>none
structure Wr (P:Program) (t:TypeId) (kt:KeyT):Prop where
 i:∀k,kt=.int k->P.underlying t=some (.int k)
 p:∀k,kt=.pair k->∃e,P.underlying t=some (.array 2 e)/\P.underlying e=some (.int k)/\(P.info? e).map (·.size)=some 1
theorem Mx {t:TypeId}{kt:KeyT}(h:keyT P t=some kt):Wr P t kt:=by
 unfold keyT at h;split at h
 ·rename_i k hu;cases h;exact⟨λ k' e=>by cases e;exact hu,λ k' e=>by cases e⟩
 ·rename_i e hu;split at h
  ·rename_i k h1 h2;cases h;exact⟨λ k' e=>by(cases e),λ k' u=>by grind⟩
  ·cases h
 ·cases h
theorem E1 {w:World}{t e:TypeId}{k:IntKind}(hu:P.underlying t=some (.array 2 e)) (he:P.underlying e=some (.int k)) (hs:(P.info? e).map (·.size)=some 1) (em:Bool) (n:Nat) (a b:Int) :
  (Instr.checkKey em (n+2) t (.agg #[.int k a,.int k b])).run P w=.ok () w:=by
 have E:(part e #[.int k a,.int k b] 0).run P w=.ok (.int k a) w:=by
  simp[part,isAgg,run_underlying he,Sem.run_bind,Result.andThen]
 have u:(part e #[.int k a,.int k b] 1).run P w=.ok (.int k b) w:=by
  simp[part,isAgg,run_underlying he,Sem.run_bind,Result.andThen]
 have c:∀x:Int,(Instr.checkKey em (n+1) e (.int k x)).run P w=.ok () w:=λ x=>by
  unfold Instr.checkKey;simp[Sem.run_bind,run_underlying he,Result.andThen]
 unfold Instr.checkKey;simp[Sem.run_bind,run_underlying hu,Result.andThen,List.range',run_sizeOf hs,E,u,c]
theorem Kg {w:World}{t e:TypeId}{k:IntKind}(hu:P.underlying t=some (.array 2 e)) (he:P.underlying e=some (.int k)) (hs:(P.info? e).map (·.size)=some 1) (a b c d:Int) :
  (Op.equal t (.agg #[.int k a,.int k b]) (.agg #[.int k c,.int k d])).run P w=.ok (decide (a=c)&&decide (b=d)) w:=by
 have E:∀x y:Int,(part e #[.int k x,.int k y] 0).run P w=.ok (.int k x) w:=λ x y=>by
  simp[part,isAgg,run_underlying he,Sem.run_bind,Result.andThen]
 have u:∀x y:Int,(part e #[.int k x,.int k y] 1).run P w=.ok (.int k y) w:=λ x y=>by
  simp[part,isAgg,run_underlying he,Sem.run_bind,Result.andThen]
 have q:∀x y:Int,(Op.equalIn 9999 e (.int k x) (.int k y)).run P w=.ok (decide (x=y)) w:=λ x y=>by
  rw[Op.equalIn];simp[Sem.run_bind,run_underlying he,Result.andThen];rfl
 unfold Op.equal Op.maxDepth;rw[Op.equalIn];by_cases h1:a=c
 ·by_cases h2:b=d
  ·simp[Sem.run_bind,run_underlying hu,Result.andThen,List.range',run_sizeOf hs,E,u,q,h1,h2]
  ·simp[Sem.run_bind,run_underlying hu,Result.andThen,List.range',run_sizeOf hs,E,u,q,h1,h2]
 ·simp[Sem.run_bind,run_underlying hu,Result.andThen,List.range',run_sizeOf hs,E,u,q,h1]
inductive Found (key:D) (ents:List (D×D)) (l:List MapEntry):Option (Nat×Value)->Prop
 | no (h:∀p∈ents,keySame key p.1=false):Found key ents l none
 | yes (j:Nat) (e:MapEntry) (p:D×D) (hl:l[j]?=some e) (he:ents[j]?=some p) (hs:keySame key p.1=true) (h:∀(i:Nat) (q:D×D),i<j->ents[i]?=some q->keySame key q.1=false):Found key ents l (some (j,e.val))
theorem Found.cons {key:D}{p:D×D}{ents:List (D×D)}{e:MapEntry}{l:List MapEntry}{r:Option (Nat×Value)}(hp:keySame key p.1=false) (h:Found key ents l r):Found key (p::ents) (e::l) (r.map λ q=>(q.1+1,q.2)):=by
 cases h with
 | no h=>exact .no λ q hq=>by grind
 | yes j x y h1 h2 h3 h4 =>
  refine .yes (j+1) x y (by simpa using h1) (by simpa using h2) h3 λ i q hi hq=>?_
  grind
theorem Found.get {key:D}{ents:List (D×D)}{l:List MapEntry}{r:Option (Nat×Value)}(h:Found key ents l r):(r=none/\mget ents key=none)\/∃(j:Nat) (e:MapEntry) (p:D×D),r=some (j,e.val)/\l[j]?=some e/\ents[j]?=some p/\keySame key p.1=true/\mget ents key=some p.2:=by
 cases h with
 | no h =>
  refine Or.inl ⟨rfl,?_⟩;clear l
  induction ents with
  | nil=>rfl
  | cons p r u=>grind [mget]
 | yes j e p hl he hs h =>
  refine Or.inr ⟨j,e,p,rfl,hl,he,hs,?_⟩;clear hl l
  induction j generalizing ents with
  | zero =>
   cases ents with
   | nil=>simp at he
   | cons q r=>grind [mget]
  | succ j u =>
   cases ents with
   | nil=>simp at he
   | cons q r =>
    rw[mget,if_neg (by rw[h 0 q (by omega) rfl];simp)];grind
structure Me (c:Ctx) (kt:KeyT) (ents:List (D×D)) (l:List MapEntry):Prop where
 len:l.length=ents.length
 el:∀(i:Nat) (p:D×D),ents[i]?=some p->kt.okB p.1=true/\p.2.one=true/\∃e:MapEntry,l[i]?=some e/\aA c p.1 e.key/\aA c p.2 e.val
theorem Me.tail {c:Ctx}{kt:KeyT}{p:D×D}{ents:List (D×D)}{e:MapEntry}{l:List MapEntry}(h:Me c kt (p::ents) (e::l)):kt.okB p.1=true/\p.2.one=true/\e.key=kv p.1/\aA c p.2 e.val/\Me c kt ents l:=by
 obtain⟨h1,h2,x,h3,h4,u⟩:=h.el 0 p rfl;simp at h3;subst h3;exact⟨h1,h2,Kx h1 h4,u,by simpa using h.len,λ i q hq=>by obtain⟨a,b,x,y⟩:=h.el (i+1) q (by simpa using hq);grind⟩
theorem Vl {c:Ctx}{w:World}{t:TypeId}{k:IntKind}(hu:P.underlying t=some (.int k)) (n:Int):∀(ents:List (D×D)) (l:List MapEntry),Me c (.int k) ents l->∀i,∃r,Instr.findNow (.int k) (.int k n) l i=some (r.map λ q=>(q.1+i,q.2))/\Found (.int k n) ents l r:=by
 intro ents
 induction ents with
 | nil =>
  intro l h i;have:l=[]:=List.length_eq_zero_iff.1 h.len;subst this;exact⟨none,rfl,.no λ p hp=>by cases hp⟩
 | cons p ents E =>
  intro l h i
  cases l with
  | nil=>have:=h.len;simp at this
  | cons e l =>
   obtain⟨h1,h2,h3,h4,H⟩:=h.tail;obtain⟨m,hm⟩:=wE h1;rw[hm]at h3;by_cases u:n=m
   ·refine⟨some (0,e.val),?_,.yes 0 e p rfl rfl (by rw[hm];simp[keySame,u]) λ i q hi=>by omega⟩;simp[Instr.findNow,Instr.sameNow,h3,kv,u]
   ·obtain⟨r,hr,G⟩:=E l H (i+1);refine⟨r.map λ q=>(q.1+1,q.2),?_,G.cons (by rw[hm];simp[keySame,u])⟩;simp only[Instr.findNow,Instr.sameNow,h3,kv,if_true];have:(n == m)=false:=by simpa using u
    rw[this];simp only[hr,Option.map_map,Option.some.injEq];congr 1;grind
theorem SX {c:Ctx}{w:World}{t e:TypeId}{k:IntKind}(hu:P.underlying t=some (.array 2 e)) (he:P.underlying e=some (.int k)) (hs:(P.info? e).map (·.size)=some 1) (n m:Int):∀(ents:List (D×D)) (l:List MapEntry),Me c (.pair k) ents l->∀i,
  ∃r,(Instr.findAsking t (.agg #[.int k n,.int k m]) l i).run P w=.ok (r.map λ q=>(q.1+i,q.2)) w/\Found (.agg [.int k n,.int k m]) ents l r:=by
 intro ents
 induction ents with
 | nil =>
  intro l h i;have:l=[]:=List.length_eq_zero_iff.1 h.len;subst this;exact⟨none,by simp[Instr.findAsking],.no λ p hp=>by cases hp⟩
 | cons p ents G =>
  intro l h i
  cases l with
  | nil=>have:=h.len;simp at this
  | cons x l =>
   obtain⟨h1,h2,h3,h4,I⟩:=h.tail;obtain⟨a,b,hm⟩:=mG h1;rw[hm]at h3;have q:=Kg (w:=w) hu he hs n m a b;by_cases u:n=a/\m=b
   ·refine⟨some (0,x.val),?_,.yes 0 x p rfl rfl (by rw[hm];simp[keySame,u]) λ i q hi=>by omega⟩;rw[Instr.findAsking,h3];simp only[kv,Sem.run_bind,q,Result.andThen];simp[u]
   ·obtain⟨r,hr,H⟩:=G l I (i+1)
    have E:(decide (n=a)&&decide (m=b))=false:=by
     grind
    refine⟨r.map λ q=>(q.1+1,q.2),?_,H.cons (by grind [keySame])⟩;rw[Instr.findAsking,h3];simp only[kv,Sem.run_bind,q,Result.andThen,E,dj,if_false,hr,Option.map_map];congr 2;grind
theorem KQ {c:Ctx}{w:World}{t:TypeId}{kt:KeyT}(ht:Wr P t kt){key:D}(hk:kt.okB key=true){ents:List (D×D)}{l:List MapEntry}(h:Me c kt ents l):∃r,(Instr.findKey t (kv key) l).run P w=.ok r w/\Found key ents l r:=by
 cases kt with
 | int k =>
  obtain⟨n,rfl⟩:=wE hk;obtain⟨r,h1,h2⟩:=Vl (w:=w) (ht.i k rfl) n ents l h 0;refine⟨r,?_,h2⟩;have:(r.map λ q=>(q.1+0,q.2))=r:=by cases r<;>rfl
  rw[this]at h1;exact MapKept.run_findKey (ht.i k rfl) h1
 | pair k =>
  obtain⟨a,b,rfl⟩:=mG hk;obtain⟨e,h1,h2,h3⟩:=ht.p k rfl;obtain⟨r,u,E⟩:=SX (w:=w) h1 h2 h3 a b ents l h 0;have:(r.map λ q=>(q.1+0,q.2))=r:=by cases r<;>rfl
  rw[this]at u;refine⟨r,?_,E⟩;rw[run_findKey_eq w (by rw[h1])];exact u
theorem lU {w:World}{t:TypeId}{kt:KeyT}(ht:Wr P t kt){key:D}(hk:kt.okB key=true) (em:Bool):(Instr.checkKey em 10000 t (kv key)).run P w=.ok () w:=by
 cases kt with
 | int k =>
  obtain⟨n,rfl⟩:=wE hk;unfold Instr.checkKey;simp[kv,Sem.run_bind,run_underlying (ht.i k rfl),Result.andThen]
 | pair k =>
  obtain⟨a,b,rfl⟩:=mG hk;obtain⟨e,h1,h2,h3⟩:=ht.p k rfl;exact E1 h1 h2 h3 em 9998 a b
theorem Sq {w:World}{kt:KeyT}{key:D}(hk:kt.okB key=true):(Instr.keyThatStays (kv key) (kv key)).run P w=.ok (kv key) w:=by
 cases kt with
 | int k =>
  obtain⟨n,rfl⟩:=wE hk;simp[Instr.keyThatStays,kv,Instr.sameBits]
 | pair k =>
  obtain⟨a,b,rfl⟩:=mG hk;simp[Instr.keyThatStays,kv,Instr.sameBits]
theorem Mu {c:Ctx}{w:World}(hp:c.hp=w.heap) (hr:au c){n g:Nat}{kt:KeyT}{ents ents':List (D×D)}{es es':Array MapEntry}{clock clock':Nat}(hn:c.h n=.map kt ents) (hρ:c.ρ n=some g)
  (hg:w.heap[g]?=some (.map es clock)) (hsz:es'.size=ents'.length) (hstp:MapKept.Stamped es' clock') (hel:∀(i:Nat) (p:D×D),ents'[i]?=some p->kt.okB p.1=true/\p.2.one=true/\∃e:MapEntry,es'[i]?=some e/\aA c p.1 e.key/\aA c p.2 e.val) :
  c.le ⟨c.ρ,c.X,ak c.h n (.map kt ents'),(w.putObj g (.map es' clock')).heap⟩/\au ⟨c.ρ,c.X,ak c.h n (.map kt ents'),(w.putObj g (.map es' clock')).heap⟩:=by
 have E:=(Array.getElem?_eq_some_iff.1 hg).1
 have u:kI c ⟨c.ρ,c.X,ak c.h n (.map kt ents'),(w.putObj g (.map es' clock')).heap⟩ n n g:=by
  refine⟨rfl,λ k h1 _=>by simp[ak,h1],λ _ _=>rfl,Or.inl rfl,λ h=>absurd rfl h,by simp[ak,Slot.mine],hρ,by simp only[af];rw[hn];exact .mapMap _ _ _,λ _=>hρ,
   by simp[World.putObj_size,hp],λ k _ h2=>by grind [World.putObj_heap_other],λ cur ty fr h=>(by rw[hp,hg]at h;cases h),λ r h=>(by rw[hp,hg]at h;cases h),Or.inr ⟨by rw[hn];trivial,hρ⟩⟩
 refine⟨u.le,u.heap hr ?_⟩;simp only[af];refine⟨g,es',clock',hρ,World.putObj_heap_same E,hsz,hstp,λ i p G=>?_⟩;obtain⟨h1,h2,e,h3,h4,H⟩:=hel i p G;exact⟨h1,h2,e,h3,h4.mono u.le,H.mono u.le⟩
theorem OF {c:Ctx}{w:World}(hp:c.hp=w.heap) (hr:au c){n g:Nat}{kt:KeyT}{ents:List (D×D)}(hn:c.h n=.map kt ents) (hρ:c.ρ n=some g) :
  ∃(es:Array MapEntry) (clock:Nat),w.heap[g]?=some (.map es clock)/\MapKept.Stamped es clock/\Me c kt ents es.toList:=by
 have hs:=hr.slot n;rw[hn]at hs;obtain⟨E,es,clock,h1,h2,h3,u,h4⟩:=hs;rw[hρ]at h1;cases h1;refine⟨es,clock,by rw[<- hp];exact h2,u,by simpa using h3,λ i p hi=>?_⟩;grind
theorem P7 {kt:KeyT}{a b:D}(ha:kt.okB a=true) (hb:kt.okB b=true) (h:keySame a b=true):a=b:=by
 cases kt with
 | int k =>
  grind [wE,keySame]
 | pair k =>
  grind [mG,keySame]
theorem XK {key v:D}{ents:List (D×D)}(h:∀p∈ents,keySame key p.1=false):mset ents key v=ents++[(key,v)]:=by
 induction ents with
 | nil=>rfl
 | cons p r u =>
  grind [mset]
theorem UH {key v:D}{ents:List (D×D)}{j:Nat}{p:D×D}(hj:ents[j]?=some p) (hs:keySame key p.1=true) (h:∀(i:Nat) (q:D×D),i<j->ents[i]?=some q->keySame key q.1=false):mset ents key v=ents.set j (p.1,v):=by
 induction ents generalizing j with
 | nil=>simp at hj
 | cons q r u =>
  cases j with
  | zero=>grind [mset]
  | succ j =>
   rw[mset,if_neg (by rw[h 0 q (by omega) rfl];simp),u (by simpa using hj) λ i x hi hx=>h (i+1) x (by omega) (by simpa using hx)];rfl
theorem aat {kt:KeyT}{a b:D}(ha:kt.okB a=true) (hb:kt.okB b=true) (h:kv a=kv b):keySame a b=true:=by
 cases kt with
 | int k =>
  grind [wE,kv,keySame]
 | pair k =>
  grind [mG,kv,keySame]
theorem Me.acd {c:Ctx}{kt:KeyT}{key:D}{ents:List (D×D)}{l:List MapEntry}(h:Me c kt ents l) (hk:kt.okB key=true) (hno:∀p∈ents,keySame key p.1=false){x:MapEntry}(hx:x∈l):x.key≠kv key:=by
 obtain⟨i,hi,rfl⟩:=List.mem_iff_getElem.1 hx;have hlen:=h.len;have hp:ents[i]?=some ents[i]:=aG (by omega);obtain⟨h1,h2,e,h3,h4,u⟩:=h.el i _ hp;grind [Kx,aat]
theorem abL {o:Oper}{t:TypeId}{r:Option Operand}{kt:KeyT}(ho:o.op=.makeMap t r) (hr':r=none) (hd:∀i,o.dst=some i->i<nt):gK P nt o (.mkm kt):=by
 subst hr';refine gK.unit λ K e c w a E hp hr hs=>?_
 simp only[vcOp]at E;obtain⟨n,ht⟩:=dC hr;have u:=kI.new (c:=c) (n:=n) ht.free (s:=.map kt []) trivial (.map #[] 0) (hp':=(w.alloc (.map #[] 0)).heap) (by rw[hp];rfl);have hg:(w.alloc (.map #[] 0)).heap[c.hp.size]?=some (.map #[] 0):=by rw[hp];show(w.heap.push _)[_]?=_;simp
 have hrel:au ⟨ak c.ρ n (some c.hp.size),c.X,ak c.h n (.map kt []),(w.alloc (.map #[] 0)).heap⟩:=by
  refine u.heap hr ?_;simp only[af];exact⟨c.hp.size, #[],0,by simp[ak],hg,rfl,MapKept.stamped_empty 0,λ i p hi=>by simp at hi⟩
 refine⟨.value (.map (some w.heap.size)),w.alloc (.map #[] 0),ak c.ρ n (some c.hp.size),ak c.h n (.map kt []),.mp n,?_,Or.inr ⟨_,rfl,hd,?_⟩,u.le,hrel,⟨rfl,rfl,rfl⟩,E n ht⟩
 ·simp[execOp,ho,Instr.makeMap,run_newObj]
 ·rw[<- hp];exact .mp n _ kt [] (by simp[ak]) (by simp[ak])
theorem ZS {o:Oper}{t key elem:TypeId}{x k:Operand}{x' k':Arg}{ok:Bool}{kt:KeyT}{zd:D}(ho:o.op=.lookup t x k ok) (hx:cArg x=some x') (hk:cArg k=some k') (hu:P.underlying t=some (.map key elem)) (hkt:keyT P key=some kt)
  (hz:eJ P elem=some zd) (hd:∀i,o.dst=some i->i<nt):gK P nt o (.look kt x' k' zd ok):=by
 obtain⟨z,T,S⟩:=gC hz;have I:=Mx hkt;refine gK.pure hd λ K e c w a E hp hr hs=>?_
 simp only[vcOp]at E;obtain⟨G,E⟩:=E;have rx:=aH hx hs;have rk:=aH hk hs;have W:=Kx G rk;generalize a7:x'.get e=dx at E rx;cases dx<;>try exact E.elim
 ·simp only at E;generalize O:a.eval x=vx at rx;cases rx;have Q:Me c kt [] []:=⟨rfl,λ j p h=>(by cases h)⟩;obtain⟨r,V,H⟩:=KQ (P:=P) (w:=w) I G Q;rcases H.get with⟨rfl,hm⟩|⟨j,en,p,rfl,hl,he,U,hm⟩
  ·cases ok with
   | false =>
    refine⟨z,zd,?_,gP S c,E⟩;simp[execOp,ho,Instr.lookup,run_underlying hu,O,W,lU I G,V,bB T,Result.andThen]
   | true =>
    refine⟨.tuple #[z,.bool false],_,?_,.tup [zd,.bool false] _ rfl ?_,E⟩
    ·simp[execOp,ho,Instr.lookup,run_underlying hu,O,W,lU I G,V,bB T,Result.andThen]
    ·intro i d u
     match i,u with
     | 0,u=>cases u;exact gP S c
     | 1,u=>cases u;exact .bool _
  ·cases he
 rename_i n;simp only at E;generalize Z:c.h n=sl at E;cases sl<;>try exact E.elim
 rename_i a6 ents;obtain⟨rfl,E⟩:=E;generalize O:a.eval x=vx at rx
 cases rx with
 | mpDead _ _ h=>rw[Z]at h;cases h
 | mp _ g a5 a1 h hρ =>
  obtain⟨es,clock,hg,a2,Q⟩:=OF hp hr Z hρ;obtain⟨r,V,H⟩:=KQ (P:=P) (w:=w) I G Q;rcases H.get with⟨rfl,hm⟩|⟨j,en,p,rfl,hl,he,U,hm⟩
  ·rw[hm]at E;simp only[Option.getD_none,Option.isSome_none]at E
   cases ok with
   | false =>
    refine⟨z,zd,?_,gP S c,E⟩;simp[execOp,ho,Instr.lookup,run_underlying hu,O,MapKept.run_getObj_map hg,W,lU I G,V,bB T,Result.andThen]
   | true =>
    refine⟨.tuple #[z,.bool false],_,?_,.tup [zd,.bool false] _ rfl ?_,E⟩
    ·simp[execOp,ho,Instr.lookup,run_underlying hu,O,MapKept.run_getObj_map hg,W,lU I G,V,bB T,Result.andThen]
    ·intro i d u
     match i,u with
     | 0,u=>cases u;exact gP S c
     | 1,u=>cases u;exact .bool _
  ·rw[hm]at E;simp only[Option.getD_some,Option.isSome_some]at E
   have hrel:aA c p.2 en.val:=by
    obtain⟨_,_,e2,q1,_,q2⟩:=Q.el j p he;grind
   cases ok with
   | false =>
    refine⟨en.val,p.2,?_,hrel,E⟩;simp[execOp,ho,Instr.lookup,run_underlying hu,O,MapKept.run_getObj_map hg,W,lU I G,V,Result.andThen]
   | true =>
    refine⟨.tuple #[en.val,.bool true],_,?_,.tup [p.2,.bool true] _ rfl ?_,E⟩
    ·simp[execOp,ho,Instr.lookup,run_underlying hu,O,MapKept.run_getObj_map hg,W,lU I G,V,Result.andThen]
    ·intro i d u
     match i,u with
     | 0,u=>cases u;exact hrel
     | 1,u=>cases u;exact .bool _
theorem T3 {o:Oper}{t key elem:TypeId}{x k y:Operand}{x' k' y':Arg}{kt:KeyT}(ho:o.op=.mapUpdate t x k y\/o.op=.insert t x k y) (hx:cArg x=some x') (hk:cArg k=some k') (hy:cArg y=some y') (hu:P.underlying t=some (.map key elem)) (hkt:keyT P key=some kt)
  (hd:o.dst=none):gK P nt o (.mupd kt x' k' y'):=by
 have T:=Mx hkt;have hex:∀ev,execOp ev o=execOp ev { o with op:=.mapUpdate t x k y }:=λ ev=>by grind [execOp]
 refine gK.unit λ K e c w a H hp hr hs=>?_
 simp only[vcOp]at H;obtain⟨G,hone,H⟩:=H;have rx:=aH hx hs;have rk:=aH hk hs;have ry:=aH hy hs;have ek:=Kx G rk;generalize c6:x'.get e=dx at H rx;cases dx<;>try exact H.elim
 rename_i n;simp only at H;generalize O:c.h n=sl at H;cases sl<;>try exact H.elim
 rename_i c4 ents;obtain⟨rfl,H⟩:=H;generalize W:a.eval x=vx at rx
 cases rx with
 | mpDead _ _ h=>rw[O]at h;cases h
 | mp _ g c3 c1 h hρ =>
  obtain⟨es,clock,hg,S,u⟩:=OF hp hr O hρ;obtain⟨r,hf,Q⟩:=KQ (P:=P) (w:=w) T G u;rw[ek]at rk
  cases Q with
  | no V =>
   rw[XK V]at H
   obtain⟨hle,U⟩:=Mu (es':=es.push { key:=kv (k'.get e),val:=a.eval y,born:=clock }) (clock':=clock+1) (ents':=ents++[(k'.get e,y'.get e)]) hp hr O hρ hg (by have:=u.len;simp at this;simp[this]) (MapKept.stamped_push S (λ x hx=>u.acd G V hx)) (λ i p E=>by
    have hlen:es.size=ents.length:=by have:=u.len;simpa using this
    by_cases hi:i<ents.length
    ·rw[List.getElem?_append_left hi]at E;obtain⟨h1,h2,e2,h3,h4,h5⟩:=u.el i p E;grind
    ·rw[List.getElem?_append_right (by omega)]at E;have a8:=(aq.1 E).1;simp at a8;have a7:i=ents.length:=by omega
     subst a7;simp at E;subst E;refine⟨G,hone,{ key:=kv (k'.get e),val:=a.eval y,born:=clock },?_,rk,ry⟩
     grind)
   refine⟨.skip,_,c.ρ,_,.undef,?_,Or.inl ⟨rfl,hd⟩,hle,U,⟨rfl,rfl,rfl⟩,H⟩;rw[hex];simp[execOp,Instr.mapUpdate,run_underlying hu,W,MapKept.run_getObj_map hg,ek,lU T G,hf,MapKept.run_setObj_map _ hg,World.putObj,Result.andThen]
  | yes j en p hl he I a1 =>
   rw[UH he I a1]at H;obtain⟨a2,c5,e2,q1,q2,q3⟩:=u.el j p he;rw[hl]at q1;cases q1;have c2:k'.get e=p.1:=P7 G a2 I;have Z:en.key=kv (k'.get e):=by grind [Kx]
   have a5:es[j]?=some en:=by simpa using hl
   obtain⟨hle,U⟩:=Mu (es':=es.modify j λ e'=>{ e' with key:=kv (k'.get e),val:=a.eval y }) (clock':=clock) (ents':=ents.set j (p.1,y'.get e)) hp hr O hρ hg (by have:=u.len;simpa using this) (MapKept.stamped_modify S j _ (λ _ _=>rfl) (λ x _ hx=>by grind)) (λ i q E=>by
    by_cases a6:i=j
    ·grind
    ·rw[List.getElem?_set_ne (Ne.symm a6)]at E;obtain⟨h1,h2,e2,h3,h4,h5⟩:=u.el i q E
     grind)
   refine⟨.skip,_,c.ρ,_,.undef,?_,Or.inl ⟨rfl,hd⟩,hle,U,⟨rfl,rfl,rfl⟩,H⟩;rw[hex];simp[execOp,Instr.mapUpdate,run_underlying hu,W,MapKept.run_getObj_map hg,ek,lU T G,hf,a5,Z,Sq G,MapKept.run_setObj_map _ hg,World.putObj,Result.andThen]
def cOpM (P:Program) (o:Oper):Option AOp :=
 match o.op with
 | .makeMap t none=>match P.underlying t with
  | some (.map key _)=>(keyT P key).map .mkm
  | _=>none
 | .lookup t x k ok=>match P.underlying t,cArg x,cArg k with
  | some (.map key elem),some x,some k=>match keyT P key,eJ P elem with
   | some kt,some z=>some (.look kt x k z ok)
   | _,_=>none
  | _,_,_=>none
 | .mapUpdate t x k y=>match P.underlying t,cArg x,cArg k,cArg y,o.dst with
  | some (.map key _),some x,some k,some y,none=>(keyT P key).map (.mupd · x k y)
  | _,_,_,_,_=>none
 | .insert t x k y=>match P.underlying t,cArg x,cArg k,cArg y,o.dst with
  | some (.map key _),some x,some k,some y,none=>(keyT P key).map (.mupd · x k y)
  | _,_,_,_,_=>none
 | _=>none
theorem QB {o:Oper}{op:AOp}(h:cOpM P o=some op) (hd:∀i,o.dst=some i->i<nt):gK P nt o op:=by
 unfold cOpM at h;split at h
 ·rename_i t ho;split at h
  ·rename_i key elem hu;simp at h;grind [abL]
  ·cases h
 ·grind [ZS]
 ·rename_i t x k y ho;split at h
  ·rename_i key elem G k' E hu hx hk hy hn;simp at h;grind [T3]
  ·cases h
 ·rename_i t x k y ho;split at h
  ·rename_i key elem G k' E hu hx hk hy hn;simp at h;obtain⟨kt,u,rfl⟩:=h;exact T3 (Or.inr ho) hx hk hy hu u hn
  ·cases h
 ·cases h
theorem NH {o:Oper}{op:AOp}(h:cOpM P o=some op):∀c,o.op≠.defer c:=by
 grind [cOpM]
end Go.Am
namespace Go.Am
open Go
variable [ck]
variable {P:Program}{nt:Nat}
def cTy (P:Program) (t:TypeId):Option (Nat×Bool) :=
 match (P.info? t).map (·.size),P.underlying t with
 | some n,some d=>some (n,match d with|.struct _=>true|.array _ _=>true|_=>false)
 | _,_=>none
theorem Ap {t:TypeId}{n:Nat}{b:Bool}(h:cTy P t=some (n,b)):TyIs P t n b:=by
 unfold cTy at h;split at h
 ·rename_i u d h1 h2;simp at h;obtain⟨rfl,rfl⟩:=h;exact⟨h1,d,h2,rfl⟩
 ·cases h
def cOp0 (P:Program) (fz:Bool) (o:Oper):Option AOp :=
 match o.op with
 | .move x=>(cArg x).map .mov
 | .assign x=>(cArg x).map .mov
 | .pick x y z=>match cArg x,cArg y,cArg z with
  | some x,some y,some z=>some (.pick x y z)
  | _,_,_=>none
 | .binOp op t x y _=>match cArg x,cArg y with
  | some x,some y =>
   match op,P.underlying t with
   | .eql,some .bool=>if P.eqGuardType P.depth t then none else match eqTy P 100 t,cTy P t with
    | some [.b],some (1,false)=>some (.eqv false false [.b] x y)
    | _,_=>none
   | .neq,some .bool=>if P.eqGuardType P.depth t then none else match eqTy P 100 t,cTy P t with
    | some [.b],some (1,false)=>some (.eqv true false [.b] x y)
    | _,_=>none
   | .eql,some (.struct _)=>if P.eqGuardType P.depth t then none else match eqTy P 100 t,cTy P t with
    | some ks,some (n,true)=>if ks.length=n then some (.eqv false true ks x y) else none
    | _,_=>none
   | .neq,some (.struct _)=>if P.eqGuardType P.depth t then none else match eqTy P 100 t,cTy P t with
    | some ks,some (n,true)=>if ks.length=n then some (.eqv true true ks x y) else none
    | _,_=>none
   | .eql,some (.array _ _)=>if P.eqGuardType P.depth t then none else match eqTy P 100 t,cTy P t with
    | some ks,some (n,true)=>if ks.length=n then some (.eqv false true ks x y) else none
    | _,_=>none
   | .neq,some (.array _ _)=>if P.eqGuardType P.depth t then none else match eqTy P 100 t,cTy P t with
    | some ks,some (n,true)=>if ks.length=n then some (.eqv true true ks x y) else none
    | _,_=>none
   | .eql,some (.slice _)=>match y with
    | .c .nil=>some (.nilq false x)
    | _=>none
   | .neq,some (.slice _)=>match y with
    | .c .nil=>some (.nilq true x)
    | _=>none
   | op,_=>some (.bin op x y)
  | _,_=>none
 | .unOp op _ x=>(cArg x).map (.un op)
 | .convert s d x=>match P.underlying s,P.underlying d,cArg x with
  | some _,some (.int k),some x=>some (.conv k x)
  | some (.slice e),some .string,some x=>match P.underlying e with
   | some (.int .u8)=>some (.b2s x)
   | _=>none
  | _,_,_=>none
 | .extract x i=>(cArg x).map (.ext · i)
 | .field t x f=>match P.underlying t with
  | some (.struct fs)=>match fs[f]? with
   | some fd=>match cTy P fd.type,cArg x with
    | some (n,b),some x=>some (.fld x fd.offset n b)
    | _,_=>none
   | none=>none
  | _=>none
 | .build t ps=>match eJ P t,cParts P t ps.toList,cPlace P t 0 with
  | some z,some qs,some _=>some (.bld z.cells qs)
  | _,_,_=>none
 | .buildSlice t len ps=>match P.underlying t with
  | some (.slice e)=>match (P.info? e).map (·.size),eJ P e,cPartsS len ps.toList with
   | some n,some z,some qs=>if 0<n/\z.cells.length=n/\len*n<=16777216 then some (.bldS fz n len z qs) else none
   | _,_,_=>none
  | _=>none
 | .nilCheck x=>(cArg x).map (.fadd · 0)
 | .fieldAddr t x f=>match P.underlying t with
  | some (.struct fs)=>match fs[f]? with
   | some fd=>match (P.info? fd.type).map (·.size),cArg x with
    | some n,some x=>if n≠0 then some (.fadd x fd.offset) else none
    | _,_=>none
   | none=>none
  | _=>none
 | .indexAddr t x i=>match P.underlying t,cArg x,cArg i with
  | some (.slice e),some x,some i=>match (P.info? e).map (·.size) with
   | some n=>some (.iadd x i n)
   | none=>none
  | some (.array len e),some x,some i=>match (P.info? e).map (·.size) with
   | some n=>some (.iadda x i len n)
   | none=>none
  | _,_,_=>none
 | .index t x i=>match P.underlying t,cArg x,cArg i with
  | some .string,some x,some i=>some (.sidx x i 0 0 false)
  | some (.array len e),some x,some i=>match cTy P e with
   | some (n,b)=>if 0<len then some (.sidx x i len n b) else none
   | none=>none
  | _,_,_=>none
 | .load t x=>match cTy P t,cArg x with
  | some (n,b),some x=>some (.ld x n b)
  | _,_=>none
 | .store t x v=>match (P.info? t).map (·.size),cArg x,cArg v,o.dst with
  | some n,some x,some v,none=>if 0<n then some (.st x v n) else none
  | _,_,_,_=>none
 | .alloc t=>(eJ P t).map .alloc
 | .box _ x=>(cArg x).map .box
 | .makeSlice t x y=>match P.underlying t with
  | some (.slice e)=>match P.info? e,eJ P e,cArg x,cArg y with
   | some i,some z,some x,some y=>if z.cells.length=i.size/\0<i.size then some (.mk i.size i.bytes z x y) else none
   | _,_,_,_=>none
  | _=>none
 | .slice t x lo hi mx=>match P.underlying t,cArg x,cOpt lo,cOpt hi with
  | some (.slice e),some x,some lo',some hi'=>match cOpt mx,(P.info? e).map (·.size) with
   | some mx',some n=>if mx.isSome=true/\hi.isSome=false then none else if lo.isNone=true/\hi.isSome=true/\mx.isSome=true/\isZ hi'=true/\isZ mx'=true/\0<n then some (.slz x n) else some (.GQ x lo' hi' mx' n)
   | _,_=>none
  | some .string,some x,some lo,some hi=>if mx.isSome then none else some (.sslc x lo hi)
  | some (.array n elem),some x,some _,some _=>if lo.isNone=true/\hi.isNone=true/\mx.isNone=true/\(P.info? elem).map (·.size)=some 1 then some (.sla x n) else none
  | _,_,_,_=>none
 | .makeFunc (.func f) xs ys=>match xs.toList.mapM cArg,ys.toList.mapM cArg with
  | some xs,some ys=>some (.mkf f xs ys)
  | _,_=>none
 | .call c=>match c with
  | { callee:=.builtin .len,args:=args,argTypes:=ats }=>match args.toList,ats.toList with
   | [x],[t]=>match P.underlying t,cArg x with
    | some (.slice _),some x=>some (.len x)
    | some .string,some x=>some (.slen x)
    | _,_=>none
   | _,_=>none
  | { callee:=.builtin .min,args:=args,argTypes:=_ }=>match args.toList.mapM cArg with
   | some [x,y]=>some (.mn x y)
   | some [x,y,z]=>some (.mn3 x y z)
   | _=>none
  | { callee:=.builtin .max,args:=args,argTypes:=_ }=>match args.toList.mapM cArg with
   | some [x,y]=>some (.mx x y)
   | some [x,y,z]=>some (.mx3 x y z)
   | _=>none
  | { callee:=.builtin .append,args:=args,argTypes:=ats }=>match args.toList,ats.toList with
   | [s,x],[t,t']=>match P.underlying t,P.underlying t' with
    | some (.slice e),some (.slice _)=>match P.info? e,eJ P e,cArg s,cArg x with
     | some i,some z,some s,some x=>if z.cells.length=i.size/\0<i.size then some (.app s x i.size i.bytes z) else none
     | _,_,_,_=>none
    | _,_=>none
   | _,_=>none
  | { callee:=.builtin .copy,args:=args,argTypes:=ats }=>match args.toList,ats.toList with
   | [s,x],[t,_]=>match P.underlying t with
    | some (.slice e)=>match (P.info? e).map (·.size),cArg s,cArg x with
     | some n,some s,some x=>if 0<n then some (.MK s x n) else none
     | _,_,_=>none
    | _=>none
   | _,_=>none
  | { callee:=.builtin .clear,args:=args,argTypes:=ats }=>match args.toList,ats.toList with
   | [s],[t]=>match P.underlying t with
    | some (.slice e)=>match P.info? e,eJ P e,cArg s with
     | some i,some z,some s=>if z.cells.length=i.size/\0<i.size then some (.clr s i.size z) else none
     | _,_,_=>none
    | _=>none
   | _,_=>none
  | { callee:=.value (.func f),args:=args,argTypes:=_ }=>if de P f then(args.toList.mapM cArg).map (.call f) else none
  | { callee:=.value x,args:=args,argTypes:=_ }=>match cArg x,args.toList.mapM cArg with
   | some x,some args=>some (.callv x args)
   | _,_=>none
  | _=>none
 | .makeInterface _ _=>some .dead
 | .panic _=>some .dead
 | _=>none
def deadOp (o:Oper):Option AOp :=
 match o.op with
 | .defer _=>none
 | _=>some .dead
def cOp (P:Program) (fz:Bool) (o:Oper):Option AOp :=
 match cOp0 P fz o with
 | some op=>some op
 | none=>match cOpM P o with
  | some op=>some op
  | none=>deadOp o
theorem ZF {α:Type}{a:Array α}{x:α}(h:a.toList=[x]):a = #[x]:=by grind
theorem GB {α:Type}{a:Array α}{x y:α}(h:a.toList=[x,y]):a = #[x,y]:=by grind
theorem Fb {p:Operand}{r:List Operand}{l:List Arg}(h:(p::r).mapM cArg=some l):∃y s,cArg p=some y/\r.mapM cArg=some s/\l=y::s:=by
 rw[List.mapM_cons]at h
 cases h1:cArg p with
 | none=>simp[h1]at h
 | some y =>
  cases h2:r.mapM cArg with
  | none=>simp[h1,h2]at h
  | some s=>grind
theorem ab8 {l:List Operand}(h:l.mapM cArg=some []):l=[]:=by
 cases l with
 | nil=>rfl
 | cons p r=>grind [Fb]
theorem UP {l:List Operand}{x y:Arg}(h:l.mapM cArg=some [x,y]):∃p q,l=[p,q]/\cArg p=some x/\cArg q=some y:=by
 cases l with
 | nil=>simp at h
 | cons p r =>
  obtain⟨u,s1,h1,h2,h3⟩:=Fb h;cases h3
  cases r with
  | nil=>simp at h2
  | cons q s =>
   grind [Fb,ab8]
theorem Y4 {l:List Operand}{x y z:Arg}(h:l.mapM cArg=some [x,y,z]):∃p q r,l=[p,q,r]/\cArg p=some x/\cArg q=some y/\cArg r=some z:=by
 cases l with
 | nil=>simp at h
 | cons p r =>
  grind [Fb,UP]
theorem QC {fz:Bool}{o:Oper}{op:AOp}(h:cOp0 P fz o=some op) (hd:∀i,o.dst=some i->i<nt):gK P nt o op:=by
 unfold cOp0 at h;split at h
 ·rename_i x ho;simp at h;grind [YW]
 ·rename_i x ho;simp at h;obtain⟨x',hx,rfl⟩:=h;exact YW (Or.inr ho) hx hd
 ·grind [ZP]
 ·grind [abQ,Ap,ZQ,abV]
 ·rename_i W t x ho;simp at h;grind [adl]
 ·grind [ZV,abW]
 ·rename_i x i ho;simp at h;grind [abP]
 ·grind [abO,Ap]
 ·grind [abU]
 ·grind [ZW]
 ·rename_i x ho;simp at h;grind [ZR]
 ·grind [ZU]
 ·grind [ZT,WY]
 ·grind [ZO,WX,Ap]
 ·grind [ado,Ap]
 ·grind [adm]
 ·rename_i t ho;simp at h;grind [W1]
 ·rename_i t x ho;simp at h;grind [abT]
 ·grind [adn]
 ·rename_i t x lo hi mx ho;split at h
  ·rename_i hu hx I O;split at h
   ·rename_i a1 hn;split at h
    ·cases h
    ·rename_i hc;split at h
     ·rename_i Z;obtain⟨T,S,z3,z4,z5,z6⟩:=Z;simp at h;subst h
      cases lo with
      | some v=>cases T
      | none =>
      cases hi with
      | none=>cases S
      | some hi =>
      cases mx with
      | none=>cases z3
      | some mx=>grind [abH]
     grind [abI]
   ·cases h
  ·rename_i hu hx I O;split at h
   ·cases h
   ·rename_i hc;simp at h;subst h;have hm:mx=none:=by cases mx<;>simp_all
    grind [ZM]
  ·rename_i hu hx _ _;split at h
   ·rename_i hc;obtain⟨c1,c2,c3,c4⟩:=hc;simp at h;subst h;cases lo<;>cases hi<;>cases mx<;>simp at c1 c2 c3;exact abJ ho hx hd hu c4
   ·cases h
  ·cases h
 ·grind [abM]
 ·rename_i c ho;split at h
  ·grind [ZF,abN,ZN]
  ·rename_i args u;split at h
   ·rename_i h1;obtain⟨p,q,E,e2,e3⟩:=UP h1;have:=GB E;subst this;simp at h;subst h;exact abK false ho e2 e3 hd
   ·rename_i h1;obtain⟨p,q,r,E,e2,e3,Q⟩:=Y4 h1;have:args = #[p,q,r]:=by grind
    subst this;simp at h;subst h;exact YX false ho e2 e3 Q hd
   ·cases h
  ·rename_i args u;split at h
   ·rename_i h1;obtain⟨p,q,E,e2,e3⟩:=UP h1;have:=GB E;subst this;simp at h;subst h;exact abK true ho e2 e3 hd
   ·rename_i h1;obtain⟨p,q,r,E,e2,e3,Q⟩:=Y4 h1;have:args = #[p,q,r]:=by grind
    subst this;simp at h;subst h;exact YX true ho e2 e3 Q hd
   ·cases h
  ·rename_i args u;split at h
   ·rename_i h1 h2;have E:=GB h1;have e2:=GB h2;subst E e2;split at h
    ·rename_i hu H;split at h
     ·rename_i h3 h4 h5 h6;split at h
      ·rename_i hc;simp at h;subst h;exact abX ho h5 h6 hd hu ⟨_,H⟩ h3 h4 hc.1 hc.2
      ·cases h
     ·cases h
    ·cases h
   ·cases h
  ·grind [GB,abR]
  ·rename_i args u;split at h
   ·rename_i V U;obtain⟨args⟩:=args;obtain⟨u⟩:=u;obtain rfl:args=[_]:=V;obtain rfl:u=[_]:=U;split at h
    ·split at h
     ·split at h
      ·rename_i hc;simp at h;subst h;exact abS ho ‹_› hd ‹_› ‹_› ‹_› hc.1 hc.2
      ·cases h
     ·cases h
    ·cases h
   ·cases h
  ·rename_i f args u;split at h
   ·rename_i hc;simp at h;grind [T4]
   ·cases h
  ·grind [WZ]
  ·cases h
 ·simp at h;subst h;exact λ _ _ _ G=>G.elim
 ·simp at h;subst h;exact λ _ _ _ G=>G.elim
 ·cases h
theorem H5 {o:Oper}{op:AOp}(h:deadOp o=some op):op=.dead/\∀c,o.op≠.defer c:=by
 grind [deadOp]
theorem u6 {fz:Bool}{o:Oper}{op:AOp}(h:cOp P fz o=some op) (hd:∀i,o.dst=some i->i<nt):gK P nt o op:=by
 unfold cOp at h;split at h
 ·grind [QC]
 ·split at h
  ·grind [QB]
  ·obtain⟨rfl,_⟩:=H5 h;exact λ _ _ _ u=>u.elim
end Go.Am
namespace Go.Am
open Go
variable [ck]
variable {P:Program}{nt:Nat}
theorem BZ {c:Ctx}(hr:au c) (o:Obj):c.le ⟨c.ρ,c.X,c.h,c.hp.push o⟩/\au ⟨c.ρ,c.X,c.h,c.hp.push o⟩:=by
 have get:∀g,g<c.hp.size->(c.hp.push o)[g]?=c.hp[g]?:=λ g hg=>by grind
 have hle:c.le ⟨c.ρ,c.X,c.h,c.hp.push o⟩ :=
  ⟨by simp,rfl,λ g hg _=>get g hg,λ g cur ty fr hg=>⟨cur,(get g (Array.getElem?_eq_some_iff.1 hg).1).trans hg,rfl⟩,λ g r hg=>⟨r,(get g (Array.getElem?_eq_some_iff.1 hg).1).trans hg,rfl⟩,
   λ _ _=>rfl,λ _=>Trans.refl _,λ n g hm hρ _=>⟨n,hm,hρ⟩⟩
 exact⟨hle,λ n=>kr hle (hr.slot n) (λ _ _=>rfl) (λ g hm hρ=>get g (nY hr hm hρ)),hr.inj,hr.apart,λ g u=>by have:=hr.xlt g u;simp;omega,hr.fin,hr.glob.mono hle,by rw[hle.X];exact Nat.le_trans hr.lo hle.size⟩
def fL (st:LSt) (B:fu) (tmps:Array Value) (dfs:Nat):Loop :=
 { state:=st.st,pending:=st.pend,fn:=B.fn,tmps:=tmps,params:=B.ps.toArray,assign:=B.assign,body:=B.body,defers:=dfs }
theorem Kv {c:Ctx}{w:World}(hp:c.hp=w.heap) (hr:au c){n g:Nat}{st:LSt}{B:fu}(hn:c.h n=.lp st B) (hρ:c.ρ n=some g){tmps:Array Value}{dfs:Nat}(hg:w.heap[g]?=some (.loop (fL st B tmps dfs)))
  (hsz:tmps.size=B.nt) (hrel:∀i,aA c (B.env i) (tmps.getD i Go.undef)) (st':LSt) :
  c.le ⟨c.ρ,c.X,ak c.h n (.lp st' B),(w.putObj g (.loop (fL st' B tmps dfs))).heap⟩/\au ⟨c.ρ,c.X,ak c.h n (.lp st' B),(w.putObj g (.loop (fL st' B tmps dfs))).heap⟩:=by
 have E:=(Array.getElem?_eq_some_iff.1 hg).1
 have u:kI c ⟨c.ρ,c.X,ak c.h n (.lp st' B),(w.putObj g (.loop (fL st' B tmps dfs))).heap⟩ n n g:=by
  refine⟨rfl,λ k h1 _=>by simp[ak,h1],λ _ _=>rfl,Or.inl rfl,λ h=>absurd rfl h,by simp[ak,Slot.mine],hρ,by simp only[af];rw[hn];exact .lpLp _ _ _,λ _=>hρ,
   by simp[World.putObj_size,hp],λ k _ h2=>by grind [World.putObj_heap_other],λ cur ty fr h=>(by rw[hp,hg]at h;cases h),λ r h=>?_,Or.inr ⟨by rw[hn];trivial,hρ⟩⟩
  rw[hp,hg]at h;cases h;exact⟨_,World.putObj_heap_same E,rfl⟩
 refine⟨u.le,u.heap hr ?_⟩;simp only[af];exact⟨g,tmps,dfs,hρ,World.putObj_heap_same E,hsz,λ i=>(hrel i).mono u.le⟩
theorem lf {α:Type}(f:Nat->α) (n:Nat) (x y:α):ak (ak f n x) n y=ak f n y:=by
 grind [ak]
theorem JC {c:Ctx}{w:World}(hp:c.hp=w.heap) (hr:au c){n g:Nat}{st:LSt}{B:fu}(hn:c.h n=.lp st B) (hρ:c.ρ n=some g) :
  ∃(tmps:Array Value) (dfs:Nat),w.heap[g]?=some (.loop (fL st B tmps dfs))/\tmps.size=B.nt/\∀i,aA c (B.env i) (tmps.getD i Go.undef):=by
 have hs:=hr.slot n;rw[hn]at hs;obtain⟨u,tmps,dfs,h1,h2,h3,h4⟩:=hs;rw[hρ]at h1;cases h1;exact⟨tmps,dfs,by rw[<- hp];exact h2,h3,h4⟩
theorem Fc {c c':Ctx}(hle:c.le c'){n g:Nat}{st:LSt}{B:fu}(hn:c.h n=.lp st B) (hρ:c.ρ n=some g){st':LSt}{B':fu}(hn':c'.h n=.lp st' B'):B'=B/\c'.ρ n=some g:=by
 have ht:=hle.tr n;rw[hn,hn']at ht;refine⟨by cases ht;rfl,(hle.names n (by rw[hn];simp)).trans hρ⟩
theorem Kl {a:Act}{g:Operand}{f:FuncId}{cs:Array Value}(hg:a.eval g=.func (.func f) #[] cs) (l:Nat) (w:World) :
  (resolve a.eval (rangeCall g l) 0).run P w=.ok { target:=.fn (.func f) cs,args:= #[.func (.yield l) #[] #[]] } w:=by
 simp only[resolve,hg];simp[go_sem]
theorem Ue {c:Ctx}{d:D}{ds:List D}{v:Value}{vs:Array Value}(h:aA c d v) (hs:∀(i:Nat) (x:D),ds[i]?=some x->aA c x (vs.getD i Go.undef)) :
  ∀(i:Nat) (x:D),(d::ds)[i]?=some x->aA c x ((#[v]++vs).getD i Go.undef):=by
 intro i x hx
 cases i with
 | zero =>
  simp at hx;subst hx;have e:(#[v]++vs).getD 0 Go.undef=v:=by rw[<- aO];simp
  rw[e];exact h
 | succ i =>
  simp at hx;have:=hs i x hx
  have e:(#[v]++vs).getD (i+1) Go.undef=vs.getD i Go.undef:=by
   rw[<- aO, <- aO];simp
  rw[e];exact this
theorem get_map (l:List Nat) (f:Nat->D) (i:Nat):LEnv.get (l.map λ k=>(k,f k)) i=.undef\/LEnv.get (l.map λ k=>(k,f k)) i=f i:=by
 induction l with
 | nil=>exact Or.inl rfl
 | cons k r u =>
  grind [LEnv.get]
theorem Te {g:Operand}{g':Arg}{ps:Array Nat}{aS exs:List Nat}{assign body:Code}{a' b':ACode}(hg:cArg g=some g') (hnd:ps.toList.Nodup) (hlt:∀p∈ps.toList,p<nt)
  (iha:∀(Q:LPost) (e:LEnv) (h:Heap),vcC P a' Q e h->uu P nt assign (λ x=>up (Q x)) e.get h)
  (ihb:∀(Q:LPost) (e:LEnv) (h:Heap),vcC P b' Q e h->uu P nt body (λ x=>up (Q x)) e.get h)
  {Q:LPost}{e:LEnv}{h:Heap}(hv:vcC P (.range g' ps.toList aS exs a' b') Q e h):uu P nt (.rangeFunc g ps assign body) (λ x=>up (Q x)) e.get h:=by
 intro r c w a hh hp hr E ho;simp only[vcC]at hv;have rx:=aH hg E;obtain⟨Z,g0⟩:∃Z:LEnv,Z=aS.map λ k=>(k,e.get k):=⟨_,rfl⟩
 rw[<- g0]at hv
 have hs:oe c nt Z.get a:=by
  refine⟨E.glob,E.lo,E.defers,E.size,λ i=>?_⟩;rw[g0];rcases get_map aS e.get i with h|h
  ·rw[h];exact .undef _
  ·rw[h];exact E.rel i
 generalize g'.get e=dx at hv rx;cases dx<;>try exact hv.elim
 rename_i f fs cs;obtain⟨rfl,h9,hv⟩:=hv;generalize g4:a.eval g=vg at rx
 cases rx with
 | fn _ _ _ va vb hsa hsb hra hrb =>
 have g7:va = #[]:=Array.eq_empty_of_size_eq_zero (by simpa using hsa);subst g7
 have core:∀(fn:FuncId) (c0:Ctx) (G:World) (dfs:Nat) (mark:List Deferred),c.le c0->c0.h=h->c0.hp=G.heap->au c0->WS w G->oe c0 nt Z.get { a with defers:=mark++a.defers } ->
   CallsIn (rF r) 0 P f (#[.func (.yield G.heap.size) #[] #[]]++vb) (G.alloc (.loop { state:=.ready,pending:=none,fn,tmps:=a.tmps,params:=ps,assign,body,defers:=dfs }))
    (rangePost (rF r) 0 P G.heap.size (FinX c w nt λ x=>up (Q x)) { a with defers:=mark++a.defers }):=by
  intro fn c0 G dfs mark H c4 c1 T c9 E;obtain⟨ρ0,X0,h0,e6⟩:=c0;have h8:X0=c.X:=H.X;subst h8;obtain⟨c0,h7⟩:∃c0:Ctx,c0=⟨ρ0,c.X,h0,e6⟩:=⟨_,rfl⟩;rw[<- h7]at H c4 c1 T E;have hX:c0.X=c.X:=H.X;obtain⟨n,top⟩:=dC T
  let B:fu:=⟨fn,nt,Z.get,ps.toList,assign,body⟩
  have e0:(.loop { state:=.ready,pending:=none,fn,tmps:=a.tmps,params:=ps,assign,body,defers:=dfs }:Obj)=.loop (fL .ready B a.tmps dfs):=by
   simp[fL,B,LSt.st,LSt.pend]
  rw[e0];have S:=kI.new (c:=c0) (n:=n) top.free (s:=.lp .ready B) trivial (.loop (fL .ready B a.tmps dfs)) (hp':=(G.alloc (.loop (fL .ready B a.tmps dfs))).heap) (by rw[c1];rfl);have U:c0.hp.size=G.heap.size:=by rw[c1]
  have h5:=S.heap T (by
   simp only[af];refine⟨G.heap.size,a.tmps,dfs,by simp[ak,U],?_,E.size,λ i=>(E.rel i).mono S.le⟩;show(G.heap.push _)[G.heap.size]?=_
   exact mF _ _)
  have c5:=hv n B (c4 ▸ top) rfl rfl hnd (λ p hp=>hlt p hp) iha ihb
  have hc:=c5 ⟨ak c0.ρ n (some c0.hp.size),c0.X,ak c0.h n (.lp .ready B),(G.alloc (.loop (fL .ready B a.tmps dfs))).heap⟩ (G.alloc (.loop (fL .ready B a.tmps dfs))) (#[.func (.yield G.heap.size) #[] #[]]++vb)
   (by rw[c4]) rfl h5 (by simp[hsb];omega)
   (Ue (.yld n G.heap.size .ready B (by simp[ak]) (by simp[ak,U])) (λ i d hd=>((hrb i d hd).mono H).mono S.le))
  refine(show CallsIn (rF r) 0 P f _ _ _ from callsIn_wide.2 hc).mono ?_;rintro e' w3 ⟨v,rr,ρ2,h2,rfl,W,e5,a6,_,u⟩;have e8:(⟨ak c0.ρ n (some c0.hp.size),c0.X,ak c0.h n (.lp .ready B),(G.alloc (.loop (fL .ready B a.tmps dfs))).heap⟩:Ctx).h n=.lp .ready B:=by simp[ak]
  have c8:(⟨ak c0.ρ n (some c0.hp.size),c0.X,ak c0.h n (.lp .ready B),(G.alloc (.loop (fL .ready B a.tmps dfs))).heap⟩:Ctx).ρ n=some G.heap.size:=by simp[ak,U]
  have go:∀(st:LSt),h2 n=.lp st B->st.st≠.busy->(∀(O:World),(Instr.endLoop G.heap.size).run P w3=.ok st.pend O->∀(x:Ex),Q x Z (ak h2 n .dead)->Fin c w nt (up (Q x)) { a with defers:=mark++a.defers } O) /\
    ∃O,(Instr.endLoop G.heap.size).run P w3=.ok st.pend O:=by
   intro st c3 h6;obtain⟨_,c7⟩:=Fc W e8 c8 c3;obtain⟨I,V,q1,q2,q3⟩:=JC (c:=⟨ρ2,c0.X,h2,w3.heap⟩) (w:=w3) rfl e5 c3 c7;have a2:=run_endLoop (P:=P) q1 h6;have c2:(.loop { fL st B I V with state:=.exhausted }:Obj)=.loop (fL (.over st.pend) B I V):=rfl;rw[c2]at a2;refine⟨?_,_,a2⟩;intro O g8 x hq
   have g6:O=w3.putObj G.heap.size (.loop (fL (.over st.pend) B I V)):=by
    grind
   subst g6;obtain⟨c6,g9⟩:=Kv (c:=⟨ρ2,c0.X,h2,w3.heap⟩) rfl e5 c3 c7 q1 q2 q3 (.over st.pend);obtain⟨a7,e4⟩:=Mw g9 (n:=n) (by simp only[af];exact .lpDead _ _) (by simp[ak]);simp only[lf]at a7 e4;have g5:=(((H.trans S.le).trans W).trans c6).trans a7;unfold Fin;rw[<- hX];exact⟨ρ2,Z.get,ak h2 n .dead,g5,e4,c9.trans (show WS G (w3.putObj _ _) from ⟨a6.os,a6.tape,a6.output⟩),E.mono (((S.le).trans W).trans (c6.trans a7)),Z,rfl,hq⟩
  unfold rangeEnd at u;cases a1:h2 n<;>simp only[a1]at u<;>try exact u.elim
  rename_i st B2;obtain⟨rfl,_⟩:=Fc W e8 c8 (show(⟨ρ2,c0.X,h2,w3.heap⟩:Ctx).h n=_ from a1)
  cases st with
  | ready =>
   obtain⟨g1,O,g2⟩:=go .ready a1 (by simp[LSt.st]);exact⟨none,O,g2,g1 O g2 .normal u⟩
  | done x =>
   obtain⟨g1,O,g2⟩:=go (.done x) a1 (by simp[LSt.st])
   cases x with
   | normal=>exact u.elim
   | exit id=>exact⟨some (.exit id),O,g2,wpIn_exit (g1 O g2 (.exit id) (zM u))⟩
   | ret=>exact⟨some .ret,O,g2,wpIn_ret (g1 O g2 .ret (C0 u))⟩
   | pan=>exact u.elim
   | jump l=>exact u.elim
  | busy=>exact u.elim
  | over p=>exact u.elim
 refine wpIn_rangeFunc λ fn _=>?_
 cases r with
 | none =>
  obtain⟨a8,T⟩:=BZ hr (.deferred (some []))
  have e7:¬c.own w.heap.size:=by
   rintro (hX|⟨n,hm,hρ⟩)
   ·have:=hr.xlt _ hX;rw[hp]at this;omega
   ·have:=nY hr hm hρ;rw[hp]at this;omega
  have g3:(c.hp.push (.deferred (some [])))[w.heap.size]?=some (.deferred (some [])):=by grind
  have E:oe ⟨c.ρ,c.X,c.h,c.hp.push (.deferred (some []))⟩ nt Z.get { a with defers:=[{ target:=.collected w.heap.size,args:= #[] }]++a.defers }:=by
   have hm:=hs.mono a8;have e9:=hs.defers.marks;have a5:=e9.mono a8;refine⟨hm.glob,hm.lo,⟨?_,by rw[List.singleton_append,List.filter_cons_of_neg (by simp[uc])];exact hm.defers.rest⟩,hm.size,hm.rel⟩;rw[List.singleton_append,List.filter_cons_of_pos (by simp[uc])];refine⟨λ d hd=>?_,?_⟩
   ·simp only[List.mem_cons]at hd;rcases hd with rfl|hd
    ·exact⟨w.heap.size,rfl,by have:=hs.lo;rw[hp]at this;exact this,g3,e7⟩
    ·exact a5.all d hd
   ·simp only[List.pairwise_cons];refine⟨λ d hd=>?_,a5.nd⟩;obtain⟨k,rfl,_,h1,_⟩:=e9.all d hd;grind
  refine⟨_,_,_,_,_,f, #[.func (.yield (w.heap.size+1)) #[] #[]]++vb,(w.alloc (.deferred (some []))).alloc (.loop { state:=.ready,pending:=none,fn,tmps:=a.tmps,params:=ps,assign,body,defers:=w.heap.size }),run_enterLoop_outer _ _ _ _ _,Kl g4 _ _,λ _ _=>trivial,?_,λ h=>by(cases h),?_⟩
  rotate_left
  ·have:=core fn ⟨c.ρ,c.X,c.h,c.hp.push (.deferred (some []))⟩ (w.alloc (.deferred (some []))) w.heap.size [{ target:=.collected w.heap.size,args:= #[] }] a8 hh (by rw[hp];rfl) T ⟨rfl,rfl,rfl⟩ E;grind [World.size_alloc]
  grind [invoke,ku]
 | some l0 =>
  obtain⟨rc,e1⟩:=ho l0 rfl;rw[hp]at e1;refine⟨_,_,_,_,_,f,_,_,run_enterLoop_inner e1 _ _ _ _ _,Kl g4 _ _,λ _ _=>trivial,?_,λ h=>by(cases h),core fn c w rc.defers [] (Ctx.le.refl c) hh hp hr (WS.refl w) hs⟩;grind [invoke,ku]
end Go.Am
namespace Go.Am
open Go
variable [ck]
variable {P:Program}{nt:Nat}
def AOp.aaw:AOp->Bool
 | .call _ _=>true
 | _=>false
def cXOp (P:Program) (fz:Bool) (o:Oper):Option AOp :=
 match o.op with
 | .call { callee:=.value (.func f),args:=args,argTypes:=_ }=>if de P f then(args.toList.mapM cArg).map (.call f) else none
 | .defer _=>none
 | _=>match cOp P fz o with
  | some op=>if op.aaw then none else some op
  | none=>none
def ue (P:Program) (fz:Bool) (nt:Nat) (o:Oper):Option AOper :=
 if o.dst.all (· < nt)&&o.guard.isNone then(cXOp P fz o).map (⟨o.dst,·,none⟩) else none
def isPanR (P:Program) (nt:Nat) (ops:Array Oper):Bool :=
 match ops.toList with
 | [o1,o2,o3]=>match o1.op,o2.op,o3.op,o1.dst,o2.dst with
  | .build t ps,.makeInterface t' (.tmp a'),.panic (.tmp b'),some a,some b =>
   decide (t=t')&&ps.isEmpty&&decide (a'=a)&&decide (b'=b)&&decide (a<nt)&&decide (b<nt)&&o1.guard.isNone&&o2.guard.isNone&&o3.guard.isNone &&
    (match P.underlying t with|some (.struct fs)=>fs.isEmpty|_=>false)&&(match (P.info? t).bind (·.zero) with|some (.agg cs)=>cs.isEmpty|_=>false) &&
    (match ck.panv with|.iface t0 (.agg cs)=>decide (t0=t)&&cs.isEmpty|_=>false)
  | _,_,_,_,_=>false
 | _=>false
def Fz (P:Program) (nt:Nat) (ops:Array Oper) (l:List Nat) (K KP:Env->Heap->Prop) (t:Env) (h:Heap):Prop :=
 ∀(r:Option Nat) (c:Ctx) (w:World) (a:Act) (Q:Exit->Act->World->Prop),c.h=h->c.hp=w.heap->au c->oe c nt t a->(∀a' w',Fin c w nt K a' w'->Q .normal a' w') ->
  (∀a' w',Fin c w nt KP a' w'->Q (.panic [{ v:=ck.panv,recovered:=false }]) a' w')->wpOpsIn (rF r) 0 P ops Q l a w
theorem Th {ops:Array Oper}{K KP:Env->Heap->Prop}{t:Env}{h:Heap}(hk:K t h):Fz P nt ops [] K KP t h :=
 λ _ _ _ _ _ u hp hr hs hq _=>hq _ _ (Fin.here u hp hr hs hk)
theorem Pl {id:Nat}{ops:Array Oper}{Q:Post}{t:Env}{h:Heap}(hx:Fz P nt ops (List.range ops.size) (Q .normal) (Q .pan) t h):uu P nt (.region id ops false) Q t h :=
 λ r c w a E hp hr hs _=>wpIn_region (hx r c w a _ E hp hr hs (λ _ _ u=>u) (λ _ _ u=>⟨rfl,u⟩))
theorem QH {ops:Array Oper}{i:Nat}{rest:List Nat}{o:Oper}{K KP:Env->Heap->Prop}{t:Env}{h:Heap}(ho:ops[i]?=some o) (hnd:∀c,o.op≠.defer c) (hg:o.guard=none)
  (hx:MR P nt o (Fz P nt ops rest K KP) t h):Fz P nt ops (i::rest) K KP t h:=by
 intro r c w a Q U hp hr hs hq hq2;simp only[wpOpsIn,ho];rw[if_pos (by simp[Region.wanted,hg])];refine Oper.wpIn_mono (λ V w' u=>?_) (hx hnd r c w a Q U hp hr hs);obtain⟨ρ,W,h',I,T,H,S,O⟩:=u;exact O r _ w' V Q rfl rfl T S (λ G E u=>hq _ _ (Fin.from I H u)) (λ G E u=>hq2 _ _ (Fin.from I H u))
theorem QI {ops:Array Oper}{i:Nat}{rest:List Nat}{o:Oper}{f:FuncId}{args:Array Operand}{ats:Array TypeId}{args':List Arg}{K KP:Env->Heap->Prop}{e:LEnv}{h:Heap}(ho:ops[i]?=some o) (hg:o.guard=none)
  (hop:o.op=.call { callee:=.value (.func f),args:=args,argTypes:=ats }) (ha:args.toList.mapM cArg=some args') (hd:∀i,o.dst=some i->i<nt) (hf:de P f=true)
  (hx:nP P f (args'.map (·.get e)) h (λ d h'=>Fz P nt ops rest K KP (e.put o.dst d).get h') (λ h'=>KP e.get h')):Fz P nt ops (i::rest) K KP e.get h:=by
 intro r c w a Q I hp hr hs hq hq2;simp only[wpOpsIn,ho];rw[if_pos (by simp[Region.wanted,hg])];obtain⟨S,O⟩:=lJ ha hs
 have u:(execOp a.eval o).run P w=.ok (.enter f (args.map a.eval)) w:=by
  grind [execOp,resolve,Deferred.ofValue,Act.eval,invoke,ku]
 refine kx (λ c hc=>by rw[hop]at hc;cases hc) u ?_;refine⟨λ h=>by(cases h),?_⟩;refine(show CallsIn (rF r) 0 P f _ w _ from callsIn_wide.2 (hx c w _ I hp hr S O)).mono ?_;rintro T w' ⟨ρ,h',h1,h2,h3,⟨v,d,rfl,h4,G⟩|⟨rfl,G⟩⟩
 ·refine G r ⟨ρ,c.X,h',w'.heap⟩ w' _ Q rfl rfl h2 (by rw[LEnv.bu];exact(hs.mono h1).put hd h4) (λ H E hf=>hq _ _ (Fin.from h1 h3 hf)) (λ H E hf=>hq2 _ _ (Fin.from h1 h3 hf))
 ·exact hq2 _ _ ⟨ρ,e.get,h',h1,h2,h3,hs.mono h1,G⟩
theorem Pd {fz:Bool}{o:Oper}{ao:AOper}(h:ue P fz nt o=some ao):(∀i,o.dst=some i->i<nt)/\o.guard=none/\∃op,cXOp P fz o=some op/\ao=⟨o.dst,op,none⟩:=by
 unfold ue at h;split at h
 ·rename_i hc;simp only[Bool.and_eq_true]at hc;simp at h;obtain⟨op,h1,h2⟩:=h;refine⟨λ i hi=>?_,by simpa using hc.2,op,h1,h2.symm⟩;grind
 ·cases h
theorem NG {fz:Bool}{ops:Array Oper}{i:Nat}{rest:List Nat}{o:Oper}{ao:AOper}{r:List AOper}(ho:ops[i]?=some o) (hc:ue P fz nt o=some ao){KN KP:LEnv->Heap->Prop}{e:LEnv}{h:Heap}
  (hrest:∀e' h',vcOpsX P r KN KP e' h'->Fz P nt ops rest (up KN) (up KP) e'.get h') (hv:vcOpsX P (ao::r) KN KP e h):Fz P nt ops (i::rest) (up KN) (up KP) e.get h:=by
 obtain⟨hd,hg,op,hop,rfl⟩:=Pd hc;unfold cXOp at hop;split at hop
 ·rename_i f args Z O;split at hop
  ·rename_i V;simp at hop;obtain⟨U,ha,rfl⟩:=hop;simp only[vcOpsX]at hv;refine QI ho hg O ha hd V (hv.mono (λ d h' hk=>hrest _ _ hk) (λ h' hk=>⟨e,rfl,hk⟩))
  ·cases hop
 ·cases hop
 ·rename_i S;split at hop
  ·rename_i u E;split at hop
   ·cases hop
   ·rename_i T;simp at hop;subst hop;have hs:=u6 (nt:=nt) E hd
    have H:vcOp P u (λ d h'=>vcOpsX P r KN KP (e.put o.dst d) h') e h:=by
     cases u<;>first|exact hv|(exact absurd rfl T)
    refine QH ho (λ c hc=>S c hc) hg ?_;intro G r' c w a Q W hp hr I;refine Oper.wpIn_mono (λ a' w' V=>?_) (hs _ e h H G r' c w a Q W hp hr I);grind [Fin.mono]
  ·cases hop
theorem Pe {fz:Bool}{ops:Array Oper}:∀(l:List AOper) (i:Nat),(ops.toList.drop i).mapM (ue P fz nt)=some l->∀{KN KP:LEnv->Heap->Prop}{e:LEnv}{h:Heap},vcOpsX P l KN KP e h ->
  Fz P nt ops (List.range' i (ops.size-i)) (up KN) (up KP) e.get h:=by
 intro l
 induction l with
 | nil =>
  intro i hm KN KP e h E
  have h0:ops.toList.drop i=[]:=by
   cases hd:ops.toList.drop i with
   | nil=>rfl
   | cons x r =>
    rw[hd,List.mapM_cons]at hm
    cases h1:ue P fz nt x with
    | none=>simp[h1]at hm
    | some y=>cases h2:r.mapM (ue P fz nt)<;>simp[h1,h2]at hm
  have:ops.size-i=0:=by simpa using congrArg List.length h0
  rw[this];exact Th ⟨e,rfl,E⟩
 | cons O l H =>
  intro i hm KN KP e h E
  cases hd:ops.toList.drop i with
  | nil=>rw[hd]at hm;simp at hm
  | cons x r =>
   rw[hd,List.mapM_cons]at hm
   cases h1:ue P fz nt x with
   | none=>simp[h1]at hm
   | some y =>
    cases h2:r.mapM (ue P fz nt) with
    | none=>simp[h1,h2]at hm
    | some s =>
     simp[h1,h2]at hm;obtain⟨rfl,rfl⟩:=hm
     have G:i<ops.size:=by
      grind [List.drop_eq_nil_of_le]
     have u:ops.toList.drop i=ops[i]::ops.toList.drop (i+1):=by
      grind [List.drop_eq_getElem_cons]
     rw[u]at hd;simp at hd;obtain⟨rfl,rfl⟩:=hd
     have hr:List.range' i (ops.size-i)=i::List.range' (i+1) (ops.size-(i+1)):=by
      rw[show ops.size-i=(ops.size-(i+1))+1 by omega,List.range'_succ]
     rw[hr];exact NG (by simp[G]) h1 (λ I h' hk=>H (i+1) h2 hk) E
theorem Wd {id:Nat}{ops:Array Oper}(hc:isPanR P nt ops=true){Q:Post}{t:Env}{h:Heap}(hk:Q .pan (LEnv.get []) h):uu P nt (.region id ops false) Q t h:=by
 unfold isPanR at hc;split at hc<;>try (cases hc;done)
 rename_i H G E hl;split at hc<;>try (cases hc;done)
 rename_i t0 ps t' a' b' a b h1 h2 h3 d1 d2;simp only[Bool.and_eq_true,decide_eq_true_eq]at hc;obtain⟨⟨⟨⟨⟨⟨⟨⟨⟨⟨⟨rfl,a2⟩,rfl⟩,rfl⟩,ha⟩,hb⟩,g1⟩,g2⟩,g3⟩,hu⟩,hz⟩,u⟩:=hc;have O:ops = #[H,G,E]:=by grind
 subst O;have S:ps = #[]:=by simpa using a2
 subst S;split at hu<;>try (cases hu;done)
 rename_i fs V;have U:fs = #[]:=by simpa using hu
 subst U;split at hz<;>try (cases hz;done)
 rename_i cs a1;have Z:cs = #[]:=by simpa using hz
 subst Z;split at u<;>try (cases u;done)
 rename_i t1 a8 T;simp only[Bool.and_eq_true,decide_eq_true_eq]at u;obtain⟨rfl,W⟩:=u;have I:a8 = #[]:=by simpa using W
 subst I;intro r c w ac hh hp hr hs _;refine wpIn_region ?_;have a7:H.guard=none:=by simpa using g1
 have a6:G.guard=none:=by simpa using g2
 have a5:E.guard=none:=by simpa using g3
 have e1:∀w,(execOp ac.eval H).run P w=.ok (.value (.agg #[])) w:=by
  intro w;simp[execOp,h1,Instr.build,bB a1,Value.cells,run_underlying V,Instr.fill,Result.andThen]
 have sz:ac.tmps.size=nt:=hs.size
 have e2:∀w,(execOp (ac.put (some a') (.agg #[])).eval G).run P w=.ok (.value (.iface t1 (.agg #[]))) w:=by
  intro w;have:(ac.put (some a') (.agg #[])).eval (.tmp a')=.agg #[]:=by simp[Act.eval,Act.put,sz,ha]
  simp[execOp,h2,this,Instr.makeInterface,run_underlying V,Result.andThen]
 have e3:∀w,(execOp ((ac.put (some a') (.agg #[])).put (some b') (.iface t1 (.agg #[]))).eval E).run P w=.halt (.panic (.iface t1 (.agg #[]))) w:=by
  intro w;have:((ac.put (some a') (.agg #[])).put (some b') (.iface t1 (.agg #[]))).eval (.tmp b')=.iface t1 (.agg #[]):=by simp[Act.eval,Act.put,sz,hb]
  simp[execOp,h3,this,Instr.panic,goPanic]
 have rg:List.range (#[H,G,E]:Array Oper).size=[0,1,2]:=rfl;rw[rg];have i0:(#[H,G,E]:Array Oper)[0]?=some H:=rfl;have i1:(#[H,G,E]:Array Oper)[1]?=some G:=rfl;have i2:(#[H,G,E]:Array Oper)[2]?=some E:=rfl;simp only[wpOpsIn,i0,i1,i2];rw[if_pos (by simp[Region.wanted,a7])];refine kx (λ c hc=>by rw[h1]at hc;cases hc) (e1 w) ?_;rw[Oper.uponIn_value,d1,if_pos (by simp[Region.wanted,a6])];refine kx (λ c hc=>by rw[h2]at hc;cases hc) (e2 w) ?_;rw[Oper.uponIn_value,d2,if_pos (by simp[Region.wanted,a5])];refine kx (λ c hc=>by rw[h3]at hc;cases hc) (e3 w) ?_;rw[Oper.uponIn_panic];exact⟨by rw[T],Fin.here (t:=LEnv.get []) hh hp hr ⟨hs.glob,hs.lo,hs.defers,by simp[Act.put,sz],λ i=>.undef _⟩ hk⟩
end Go.Am
