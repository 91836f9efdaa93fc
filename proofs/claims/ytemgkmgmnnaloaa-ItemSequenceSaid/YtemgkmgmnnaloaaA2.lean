/- The abstract machine: what the operations of the program do, on plain data. No condition. -/
import Derived.Test.YtemgkmgmnnaloaaA1
set_option linter.unnecessarySimpa false
set_option linter.defProp false
set_option linter.unusedSectionVars false
set_option linter.unusedSimpArgs false
set_option linter.unusedVariables false
namespace Go.Am
open Go
variable [bV]
variable {P:Program}{nt:Nat}
def cOper (P:Program) (fz:Bool) (nt:Nat) (ops:Array Oper) (o:Oper):Option AOper :=
 if o.dst.all (· < nt) then
  match cOp P fz o with
  | some op=>match o.guard with
   | none=>some ⟨o.dst,op,none⟩
   | some (j,want)=>match (ops[j]?).bind (·.dst) with
    | some s=>some ⟨o.dst,op,some (s,want)⟩
    | none=>none
  | none=>none
 else none
theorem gz {o:Oper}{K K':Env->Heap->Prop}(hk:∀t h,K t h->K' t h){t:Env}{h:Heap}(hx:Gw P nt o K t h):Gw P nt o K' t h :=
 fun hnd r c w a Q hh hp hr hs=>Oper.wpIn_mono (fun _ _ hf=>Fin.mono hk hf) (hx hnd r c w a Q hh hp hr hs)
theorem mh {fz:Bool}{o:Oper}{op:AOp}(h:cOp P fz o=some op):∀c,o.op≠.defer c:=by
 unfold cOp at h
 split at h
 ·rename_i op' h0
  intro c hc
  simp[cOp0,hc]at h0
 ·split at h
  ·rename_i op' h0
   cases h
   exact Hj h0
  ·exact(Bm h).2
theorem IC {fz:Bool}{ops:Array Oper}{i:Nat}{rest:List Nat}{o:Oper}{ao:AOper}(ho:ops[i]?=some o) (hc:cOper P fz nt ops o=some ao){K:LEnv->Heap->Prop}{K2:LEnv->Heap->Prop}{e:LEnv}{h:Heap}
  (hrest:∀e' h',K e' h'->nF P nt ops rest (up K2) e'.get h') (hv:qI P ao K e h):nF P nt ops (i::rest) (up K2) e.get h:=by
 unfold cOper at hc
 split at hc
 case isFalse=>cases hc
 rename_i hdst
 have hd:∀j,o.dst=some j->j<nt:=by
  intro j hj
  rw[hj]at hdst
  simpa using hdst
 cases hop:cOp P fz o with
 | none=>simp[hop]at hc
 | some op =>
  have hs:=nE (nt:=nt) hop hd
  have main:vcOp P op (fun d h'=>K (e.put o.dst d) h') e h->Gw P nt o (nF P nt ops rest (up K2)) e.get h:=by
   intro hvc
   refine gz ?_ (hs _ e h hvc)
   rintro t' h' ⟨d,rfl,hk⟩
   exact hrest _ _ hk
  simp only[hop]at hc
  cases hg:o.guard with
  | none =>
   simp[hg]at hc
   subst hc
   refine gK ho (mh hop) none (by simp[hg]) (fun _=>rfl) hd ?_
   exact main (by simpa only[iy] using hv)
  | some p =>
   obtain⟨j,want⟩:=p
   simp only[hg]at hc
   cases hj:(ops[j]?).bind (·.dst) with
   | none=>simp[hj]at hc
   | some s =>
    simp[hj]at hc
    subst hc
    refine gK ho (mh hop) (some (s,want)) (by
     intro j' want' hgg
     rw[hg]at hgg
     cases hgg
     exact⟨s,hj,rfl⟩) (by simp[hg]) hd ?_
    simp only[iy,vguard]at hv
    cases hb:gv (e.get s)<;>simp only[hb]at hv<;>try exact hv.elim
    rename_i b
    refine⟨b,hb,fun hbw=>main (hv.1 hbw),fun hbw=>?_⟩
    have:=hrest _ _ (hv.2 hbw)
    rw[LEnv.bo]at this
    exact this
theorem EV {fz:Bool}{ops:Array Oper}:∀(l:List AOper) (i:Nat),(ops.toList.drop i).mapM (cOper P fz nt ops)=some l->∀{K:LEnv->Heap->Prop}{e:LEnv}{h:Heap},wJ P l K e h ->
  nF P nt ops (List.range' i (ops.size-i)) (up K) e.get h:=by
 intro l
 induction l with
 | nil =>
  intro i hm K e h hv
  have h0:ops.toList.drop i=[]:=by
   cases hd:ops.toList.drop i with
   | nil=>rfl
   | cons x r =>
    rw[hd,List.mapM_cons]at hm
    cases h1:cOper P fz nt ops x with
    | none=>simp[h1]at hm
    | some y=>cases h2:r.mapM (cOper P fz nt ops)<;>simp[h1,h2]at hm
  have:ops.size-i=0:=by simpa using congrArg List.length h0
  rw[this]
  exact fo ⟨e,rfl,hv⟩
 | cons ao l ih =>
  intro i hm K e h hv
  cases hd:ops.toList.drop i with
  | nil=>rw[hd]at hm;simp at hm
  | cons x r =>
   rw[hd,List.mapM_cons]at hm
   cases h1:cOper P fz nt ops x with
   | none=>simp[h1]at hm
   | some y =>
    cases h2:r.mapM (cOper P fz nt ops) with
    | none=>simp[h1,h2]at hm
    | some s =>
     simp[h1,h2]at hm
     obtain⟨rfl,rfl⟩:=hm
     have hlt:i<ops.size:=by
      rcases Nat.lt_or_ge i ops.size with h|h
      ·exact h
      ·rw[List.drop_eq_nil_of_le (by simpa using h)]at hd;cases hd
     have hcons:ops.toList.drop i=ops[i]::ops.toList.drop (i+1):=by
      rw[List.drop_eq_getElem_cons (by simpa using hlt)];simp
     rw[hcons]at hd
     simp at hd
     obtain⟨rfl,rfl⟩:=hd
     have hr:List.range' i (ops.size-i)=i::List.range' (i+1) (ops.size-(i+1)):=by
      rw[show ops.size-i=(ops.size-(i+1))+1 by omega,List.range'_succ]
     rw[hr]
     refine IC (by simp[hlt]) h1 (K:=wJ P s K) (fun e' h' hk=>ih (i+1) h2 hk) hv
def cCode (P:Program) (fz:Bool) (nt:Nat) (loops:TL) (dr:Nat->Array Oper->Option bW):Code->Option bW
 | .skip=>some .skip
 | .seq a b=>match cCode P fz nt loops dr a,cCode P fz nt loops dr b with
  | some a',some b'=>match loops (1000001+firstReg b) with
   | some (aD,vars)=>some (.seqj aD vars a' b')
   | none=>some (.seq a' b')
  | _,_=>none
 | .cond c a b=>match cArg c,cCode P fz nt loops dr a,cCode P fz nt loops dr b with
  | some c,some a,some b=>some (.cond c a b)
  | _,_,_=>none
 | .block id a=>(cCode P fz nt loops dr a).map (.block id)
 | .loop a=>match cCode P fz nt loops dr a,loops (firstReg a) with
  | some a,some (aD,vars)=>some (.loop aD vars a)
  | _,_=>none
 | .exit id=>some (.exit id)
 | .ret=>some .ret
 | .region id ops false=>match loops (8000000+id) with
  | none=>(ops.toList.mapM (cOper P fz nt ops)).map .ox
  | some ([],_)=>if isPanR P nt ops then some .panr else none
  | some (_::_,_)=>(ops.toList.mapM (m9 P fz nt)).map .regx
 | .region id ops true=>(dr id ops).map fun p=>match loops (6000001+id) with
  | some _=>.frz p
  | none=>p
 | .rangeFunc g ps assign body=>match cArg g,cCode P fz nt loops dr assign,cCode P fz nt loops dr body with
  | some g',some a',some b'=>match loops (4000001+firstReg body) with
   | some (aD,exs)=>if ps.toList.Nodup/\(ps.toList.all fun p=>decide (p<nt))=true then some (.range g' ps.toList aD exs a' b') else none
   | none=>none
  | _,_,_=>none
 | _=>none
where firstReg:Code->Nat
 | .region id _ _=>id
 | .seq a b=>if firstReg a=1000000 then firstReg b else firstReg a
 | .cond _ a b=>if firstReg a=1000000 then firstReg b else firstReg a
 | .block _ a=>firstReg a
 | .loop a=>firstReg a
 | _=>1000000
def wD (P:Program) (nt:Nat) (dr:Nat->Array Oper->Option bW):Prop :=
 ∀id ops ac,dr id ops=some ac->∀(Q:LPost) (e:LEnv) (h:Heap),vcC P ac Q e h->tI P nt (.region id ops true) (fun x=>up (Q x)) e.get h
theorem GF {K:LEnv->Heap->Prop}{Q:LPost}{K':Env->Heap->Prop}(hk:∀e h,K e h->K' e.get h):∀x t h,up (LPost.then K Q x) t h->Post.then K' (fun x=>up (Q x)) x t h:=by
 rintro x t h ⟨e,rfl,hx⟩
 cases x with
 | normal=>exact hk e h hx
 | exit id=>exact⟨e,rfl,hx⟩
 | ret=>exact⟨e,rfl,hx⟩
 | pan=>exact⟨e,rfl,hx⟩
theorem wc {x:Code}{Q:Post}{t t':Env}{h:Heap}(ht:∀i,t' i=.undef\/t' i=t i) (hx:tI P nt x Q t' h):tI P nt x Q t h:=by
 intro r c w a hh hp hr hs ho
 refine hx r c w a hh hp hr ⟨hs.glob,hs.lo,hs.defers,hs.size,fun i=>?_⟩ ho
 rcases ht i with h|h
 ·rw[h];exact .undef _
 ·rw[h];exact hs.rel i
theorem lF (vars:List Nat) (f:Nat->D) (e:LEnv) (i:Nat) (he:e.get i=.undef\/e.get i=f i):LEnv.get (vars.map (fun v=>(v,f v))++e) i=.undef\/LEnv.get (vars.map (fun v=>(v,f v))++e) i=f i:=by
 induction vars with
 | nil=>exact he
 | cons k r ih =>
  simp only[List.map_cons,List.cons_append,LEnv.get]
  split
  ·rename_i h;subst h;exact Or.inr rfl
  ·exact ih
theorem PY {aD:List Nat}{e e':LEnv}(hkeep:aD.map (LEnv.get e')=aD.map e.get):(aD.map fun k=>(k,e.get k))=aD.map fun k=>(k,e'.get k):=by
 have hk:∀k∈aD,e'.get k=e.get k:=by
  intro k hk
  obtain⟨j,hj⟩:=List.getElem?_of_mem hk
  have:=congrArg (fun l=>l[j]?) hkeep
  simpa[hj] using this
 apply List.map_congr_left
 intro k hk'
 rw[hk k hk']
theorem Qt {x:Code}{Q:Post}{t:Env}{h:Heap}(ns:List Nat) (hx:tI P nt x Q t (h.freezeAll ns)):tI P nt x Q t h:=by
 intro r c w a hh hp hr hs ho
 subst hh
 obtain⟨hle,hr'⟩:=cV hr ns
 refine wpIn_mono (hx r ⟨c.ρ,c.X,c.h.freezeAll ns,c.hp⟩ w a rfl hp hr' (hs.mono hle) (ho.mono hle)) fun x a' w' hf=>?_
 exact FinX.from hle (WS.refl w) _ _ _ hf
theorem mi {fz:Bool}{loops:TL}{dr:Nat->Array Oper->Option bW}(hdr:wD P nt dr):∀(code:Code) (ac:bW),cCode P fz nt loops dr code=some ac ->
  ∀(Q:LPost) (e:LEnv) (h:Heap),vcC P ac Q e h->tI P nt code (fun x=>up (Q x)) e.get h:=by
 intro code
 induction code with
 | skip=>intro ac hc Q e h hv;simp[cCode]at hc;subst hc;exact OE ⟨e,rfl,hv⟩
 | exit id=>intro ac hc Q e h hv;simp[cCode]at hc;subst hc;exact OH ⟨e,rfl,hv⟩
 | ret=>intro ac hc Q e h hv;simp[cCode]at hc;subst hc;exact Qs ⟨e,rfl,hv⟩
 | seq a b iha ihb =>
  intro ac hc Q e h hv
  simp only[cCode]at hc
  split at hc
  ·rename_i a' b' ha hb
   split at hc
   ·rename_i aD vars _
    simp at hc;subst hc
    obtain⟨J,h1,h2⟩:=hv
    refine Kz (xH ?_ (iha a' ha _ e h h2))
    refine GF ?_
    rintro e' h' ⟨hkeep,hJ⟩
    have hk:(aD.map fun k=>(k,e.get k))=aD.map fun k=>(k,e'.get k):=PY hkeep
    refine wc (fun i=>lF vars e'.get _ i ?_) (ihb b' hb Q _ h' (h1 e'.get h' hJ))
    rw[hk]
    exact get_map aD e'.get i
   ·simp at hc;subst hc
    refine Kz (xH ?_ (iha a' ha _ e h hv))
    exact GF (fun e h hx=>ihb b' hb Q e h hx)
  ·cases hc
 | cond c a b iha ihb =>
  intro ac hc Q e h hv
  simp only[cCode]at hc
  split at hc
  ·rename_i c' a' b' hcc ha hb
   simp at hc;subst hc
   simp only[vcC]at hv
   cases ht:c'.get e<;>simp only[ht]at hv<;>try exact hv.elim
   rename_i t
   refine OI (b:=t) (fun c a _ hs=>?_) ?_
   ·have:=aB hcc hs
    rw[ht]at this
    exact qT this
   ·cases t
    ·exact ihb b' hb Q e h (hv.2 rfl)
    ·exact iha a' ha Q e h (hv.1 rfl)
  ·cases hc
 | block id a iha =>
  intro ac hc Q e h hv
  simp only[cCode]at hc
  cases ha:cCode P fz nt loops dr a with
  | none=>simp[ha]at hc
  | some a' =>
   simp[ha]at hc;subst hc
   refine LS (xH ?_ (iha a' ha _ e h hv))
   rintro x t h ⟨e',rfl,hx⟩
   cases x with
   | normal=>exact⟨e',rfl,hx⟩
   | ret=>exact⟨e',rfl,hx⟩
   | pan=>exact⟨e',rfl,hx⟩
   | exit id' =>
    simp only[LPost.block]at hx
    simp only[Post.block]
    split
    ·rename_i hid;rw[if_pos hid]at hx;exact⟨e',rfl,hx⟩
    ·rename_i hid;rw[if_neg hid]at hx;exact⟨e',rfl,hx⟩
 | loop a iha =>
  intro ac hc Q e h hv
  simp only[cCode]at hc
  split at hc
  ·rename_i a' aD vars ha _
   simp at hc;subst hc
   obtain⟨I,n₀,h0,hround⟩:=hv
   let E:(Nat->D)->LEnv:=fun f=>vars.map (fun v=>(v,f v))++aD.map (fun k=>(k,e.get k))
   refine OG (fun n t h=>∃f:Nat->D,I n (vars.map f) h/\∀i,(E f).get i=.undef\/(E f).get i=t i) n₀ ⟨e.get,h0,fun i=>lF vars e.get _ i (get_map aD e.get i)⟩ ?_
   rintro n t h' ⟨f,hI,hE⟩
   refine wc hE (xH ?_ (iha a' ha _ (E f) h' (hround n f h' hI)))
   refine GF ?_
   rintro e' h'' ⟨hkeep,m,hm,hI'⟩
   refine⟨m,hm,e'.get,hI',fun i=>lF vars e'.get _ i ?_⟩
   have:(aD.map fun k=>(k,e.get k))=aD.map fun k=>(k,e'.get k):=by
    have hk:∀k∈aD,e'.get k=e.get k:=by
     intro k hk
     obtain⟨j,hj⟩:=List.getElem?_of_mem hk
     have:=congrArg (fun l=>l[j]?) hkeep
     simpa[hj] using this
    apply List.map_congr_left
    intro k hk'
    rw[hk k hk']
   rw[this]
   exact get_map aD e'.get i
  ·cases hc
 | region id ops draw =>
  intro ac hc Q e h hv
  cases draw with
  | false =>
   simp only[cCode]at hc
   split at hc
   ·cases hl:ops.toList.mapM (cOper P fz nt ops) with
    | none=>simp[hl]at hc
    | some l =>
     simp[hl]at hc;subst hc
     refine JG ?_
     have:=EV l 0 (by simpa using hl) hv
     rw[Nat.sub_zero, <- List.range_eq_range']at this
     exact this
   ·split at hc
    ·rename_i hp
     cases hc
     exact OF hp ⟨[],rfl,hv []⟩
    ·cases hc
   ·cases hl:ops.toList.mapM (m9 P fz nt) with
    | none=>simp[hl]at hc
    | some l =>
     simp[hl]at hc;subst hc
     refine IF ?_
     have:=IB l 0 (by simpa using hl) hv
     rw[Nat.sub_zero, <- List.range_eq_range']at this
     exact this
  | true =>
   simp only[cCode]at hc
   cases hl:dr id ops with
   | none=>simp[hl]at hc
   | some p =>
    simp only[hl,Option.map_some,Option.some.injEq]at hc
    cases hlo:loops (6000001+id) with
    | none =>
     rw[hlo]at hc
     simp only at hc
     subst hc
     exact hdr id ops p hl Q e h hv
    | some _ =>
     rw[hlo]at hc
     simp only at hc
     subst hc
     obtain⟨ns,hv⟩:=hv
     exact Qt ns (hdr id ops p hl Q e _ hv)
 | rangeFunc g ps assign body iha ihb =>
  intro ac hc Q e h hv
  simp only[cCode]at hc
  split at hc
  ·rename_i g' a' b' hg ha hb
   split at hc
   ·split at hc
    ·rename_i hps
     simp at hc;subst hc
     refine LR hg hps.1 (fun p hp=>by simpa using List.all_eq_true.1 hps.2 p hp) (fun Q e h hv=>iha a' ha Q e h hv) (fun Q e h hv=>ihb b' hb Q e h hv) hv
    ·cases hc
   ·cases hc
  ·cases hc
 | _=>intro ac hc;simp[cCode]at hc
end Go.Am
namespace Go.Am
open Go
variable [bV]
variable {P:Program}
inductive RV where
 | t (i:Nat)
 | cell (i size:Nat) (agg:Bool)
structure aK where
 nt:Nat
 code:bW
 res:List RV
def Mk (P:Program) (r:RV) (e:LEnv) (h:Heap) (K:D->Prop):Prop :=
 match r with
 | .t i=>K (e.get i)
 | .cell i size agg=>vcOp P (.ld (.t i) size agg) (fun d _=>K d) e h
def vcRess (P:Program):List RV->LEnv->Heap->(List D->Prop)->Prop
 | [],_,_,K=>K []
 | r::s,e,h,K=>Mk P r e h fun d=>vcRess P s e h fun ds=>K (d::ds)
def iI (P:Program) (rs:List RV) (K:HK) (e:LEnv) (h:Heap):Prop :=
 match rs with
 | [r]=>Mk P r e h (K · h)
 | rs=>vcRess P rs e h fun ds=>K (.tup ds) h
def params:List D->Nat->LEnv
 | [],_=>[]
 | d::r,i=>(i,d)::params r (i+1)
def Ml (P:Program) (F:aK) (ds:List D) (K:HK) (h:Heap):Prop :=
 ds.length<=F.nt/\vcC P F.code (fun x e h'=>match x with
  | .exit _=>False
  | .pan=>False
  | _=>iI P F.res K e h') (params ds 0) h
def cRes (P:Program):ResultVar->Option RV
 | .tmp i=>some (.t i)
 | .cell i t=>match cTy P t with
  | some (n,b)=>some (.cell i n b)
  | none=>none
def cFn (P:Program) (fz:Bool) (f:FuncId) (loops:TL) (dr:Nat->Array Oper->Option bW):Option aK :=
 match P.funcs[f]? with
 | some fn=>match fn.body with
  | some body=>match cCode P fz fn.ntmps loops dr body,fn.results.toList.mapM (cRes P) with
   | some code,some res=>some ⟨fn.ntmps,code,res⟩
   | _,_=>none
  | none=>none
 | none=>none
theorem lj:∀(ds:List D) (k i:Nat),(params ds k).get i=if k<=i/\i<k+ds.length then ds.getD (i-k) .undef else .undef
 | [],k,i=>by simp[params,LEnv.get]
 | d::r,k,i=>by
  simp only[params,LEnv.get,lj r (k+1) i,List.length_cons]
  by_cases h:i=k
  ·subst h;simp
  ·rw[if_neg h]
   by_cases h2:k+1<=i/\i<k+1+r.length
   ·rw[if_pos h2,if_pos (by omega),show i-k=(i-(k+1))+1 by omega];simp
   ·rw[if_neg h2,if_neg (by omega)]
theorem Ap (vals:Array Value) (n i:Nat):(vals++Array.replicate n Go.undef).getD i Go.undef=vals.getD i Go.undef:=by
 by_cases h:i<vals.size
 ·exact tY _ _ _ h
 ·rw[tX _ _ _ (by omega)]
  simp[Array.getD,h]
def HS (tmps:Array Value):ResultVar->Sem Value
 | .tmp t=>pure (tmps.getD t Go.undef)
 | .cell x t=>do loadVar t (<- asAddr (tmps.getD x Go.undef))
theorem J4 {c:Ctx}{w:World}{nt:Nat}{e:LEnv}{a:Act}(hp:c.hp=w.heap) (hr:aj c) (hs:jV c nt e.get a){r:ResultVar}{rv:RV}(hc:cRes P r=some rv){K:D->Prop}(hv:Mk P rv e c.h K) :
  ∃v d,(HS a.tmps r).run P w=.ok v w/\au c d v/\K d:=by
 cases r with
 | tmp i =>
  simp[cRes]at hc;subst hc
  exact⟨_,_,rfl,hs.rel i,hv⟩
 | cell i t =>
  simp only[cRes]at hc
  split at hc
  ·rename_i n b ht
   simp at hc;subst hc
   have ty:=jH ht
   let o:Oper:=⟨none,.load t (.tmp i),0, "", #[],none⟩
   have hv':vcOp P (.ld (.t i) n b) (fun d _=>K d) e c.h:=hv
   have rx:=hs.rel i
   simp only[vcOp,Arg.get]at hv'
   have fin:∀(g o' j:Nat) (cs:List D),a.tmps.getD i Go.undef=.pointer (some ⟨g,o'+j,none⟩)->Mem c g o' cs->vpart cs j n b K ->
     ∃v d,(HS a.tmps (.cell i t)).run P w=.ok v w/\au c d v/\K d:=by
    intro g o' j cs he hm hvp
    obtain⟨v,d,h1,h2,h3⟩:=pK (P:=P) hp hm ty hvp
    refine⟨v,d,?_,h2,h3⟩
    simp only[HS,he]
    simp[asAddr,h1]
   generalize hgx:e.get i=dx at hv' rx
   cases dx<;>try exact hv'.elim
   ·rename_i m k j
    cases hn:c.h m<;>simp only[hn]at hv'<;>try exact hv'.elim
    ·obtain⟨rfl,hv'⟩:=hv'
     obtain⟨g,he,_,_,hm⟩:=GU hr hn rx
     exact fin g 0 j _ (by rw[he];simp) hm hv'
    ·obtain⟨hi,hv'⟩:=hv'
     rename_i esz els
     have hdd:els[k]?=some els[k]:=by simp[hi]
     obtain⟨g,he,_,hm⟩:=mem_row hr (by rw[hn];rfl) hdd rx
     exact fin g _ j _ he hm (hv' _ hdd)
    ·obtain⟨hi,hv'⟩:=hv'
     rename_i esz els
     have hdd:els[k]?=some els[k]:=by simp[hi]
     obtain⟨g,he,_,hm⟩:=mem_row hr (by rw[hn];rfl) hdd rx
     exact fin g _ j _ he hm (hv' _ hdd)
   ·rename_i d j
    obtain⟨g,o',he,hm⟩:=Nx rx
    exact fin g o' j _ he hm hv'
  ·cases hc
theorem MI {c:Ctx}{w:World}{nt:Nat}{e:LEnv}{a:Act}(hp:c.hp=w.heap) (hr:aj c) (hs:jV c nt e.get a):∀(rs:List ResultVar) (rvs:List RV),rs.mapM (cRes P)=some rvs->∀{K:List D->Prop},vcRess P rvs e c.h K ->
  ∃(vs:List Value) (ds:List D),(rs.mapM (HS a.tmps)).run P w=.ok vs w/\vs.length=ds.length/\ds.length=rs.length/\(∀(i:Nat) (d:D),ds[i]?=some d->au c d (vs.getD i Go.undef))/\K ds:=by
 intro rs
 induction rs with
 | nil =>
  intro rvs hm K hv
  simp at hm;subst hm
  exact⟨[],[],by simp,rfl,rfl,by simp,hv⟩
 | cons r s ih =>
  intro rvs hm K hv
  rw[List.mapM_cons]at hm
  cases h1:cRes P r with
  | none=>simp[h1]at hm
  | some rv =>
   cases h2:s.mapM (cRes P) with
   | none=>simp[h1,h2]at hm
   | some rvs' =>
    simp[h1,h2]at hm
    subst hm
    simp only[vcRess]at hv
    obtain⟨v,d,g1,g2,g3⟩:=J4 (P:=P) hp hr hs h1 hv
    obtain⟨vs,ds,k1,k2,k5,k3,k4⟩:=ih rvs' h2 g3
    refine⟨v::vs,d::ds,?_,by simp[k2],by simp[k5],fun i x hx=>?_,k4⟩
    ·rw[List.mapM_cons]
     simp only[Sem.run_bind,g1,Result.andThen_ok,k1,Sem.run_pure]
    ·cases i with
     | zero=>simp at hx;subst hx;simpa using g2
     | succ i=>simp at hx;simpa using k3 i x hx
theorem Ek (fn:Func) (tmps:Array Value):results fn tmps=(do let vs <- fn.results.mapM (HS tmps);pure (if h:vs.size=1 then vs[0] else .tuple vs)):=by
 unfold results
 congr 1
theorem qS {c:Ctx}{w:World}{nt:Nat}{e:LEnv}{a:Act}(hp:c.hp=w.heap) (hr:aj c) (hs:jV c nt e.get a){fn:Func}{rvs:List RV}(hm:fn.results.toList.mapM (cRes P)=some rvs){K:HK}
  (hv:iI P rvs K e c.h):∃v d,(results fn a.tmps).run P w=.ok v w/\au c d v/\K d c.h:=by
 have one:∀r rv,fn.results.toList=[r]->rvs=[rv]->∃v d,(results fn a.tmps).run P w=.ok v w/\au c d v/\K d c.h:=by
  rintro r rv hfr rfl
  rw[hfr]at hm
  have hc:cRes P r=some rv:=by
   rw[List.mapM_cons]at hm
   cases h1:cRes P r with
   | none=>simp[h1]at hm
   | some x=>simp[h1]at hm;rw[hm]
  obtain⟨v,d,g1,g2,g3⟩:=J4 (P:=P) (K:=fun d=>K d c.h) hp hr hs hc hv
  have harr:fn.results = #[r]:=by apply Array.ext';simpa using hfr
  refine⟨v,d,?_,g2,g3⟩
  rw[Ek,harr]
  simp[g1]
 have many:fn.results.toList.length≠1->vcRess P rvs e c.h (fun ds=>K (.tup ds) c.h)->∃v d,(results fn a.tmps).run P w=.ok v w/\au c d v/\K d c.h:=by
  intro hne hv'
  obtain⟨vs,ds,k1,k2,k5,k3,k4⟩:=MI (P:=P) hp hr hs _ _ hm hv'
  refine⟨.tuple vs.toArray,.tup ds,?_,.tup _ _ (by simpa using k2) (fun i d hd=>by rw[<- aI];exact k3 i d hd),k4⟩
  rw[Ek,Array.mapM_eq_mapM_toList]
  have hvs:vs.length≠1:=by rw[k2,k5];exact hne
  simp[k1,hvs]
 cases hfr:fn.results.toList with
 | nil =>
  rw[hfr]at hm;simp at hm;subst hm
  exact many (by simp[hfr]) hv
 | cons r s =>
  cases s with
  | nil =>
   have hm':=hm
   rw[hfr,List.mapM_cons]at hm'
   cases h1:cRes P r with
   | none=>simp[h1]at hm'
   | some x=>simp[h1]at hm';exact one r x hfr hm'.symm
  | cons r' s' =>
   have hm':=hm
   rw[hfr,List.mapM_cons]at hm'
   cases h1:cRes P r with
   | none=>simp[h1]at hm'
   | some x =>
    rw[List.mapM_cons]at hm'
    cases h2:cRes P r' with
    | none=>simp[h1,h2]at hm'
    | some x' =>
     cases h3:s'.mapM (cRes P) with
     | none=>simp[h1,h2,h3]at hm'
     | some x''=>simp[h1,h2,h3]at hm';subst hm';exact many (by simp[hfr]) hv
structure jr (c c':Ctx):Prop where
 ρ:c'.ρ=c.ρ
 h:c'.h=c.h
 X:∀g,c'.X g↔c.X g
 size:c'.hp.size=c.hp.size
 cells:∀(g:Nat) (cur:Array Value) (ty:TypeId) (fr:Nat×Nat),c.hp[g]?=some (Obj.cells cur ty fr)->c'.hp[g]?=some (Obj.cells cur ty fr)
 loops:∀(g:Nat) (r:Loop),c.hp[g]?=some (Obj.loop r)->c'.hp[g]?=some (Obj.loop r)
 maps:∀(g:Nat) (es:Array MapEntry) (k:Nat),c.hp[g]?=some (Obj.map es k)->c'.hp[g]?=some (Obj.map es k)
theorem jr.own {c c':Ctx}(s:jr c c') (g:Nat):c'.own g↔c.own g:=by
 unfold Ctx.own
 rw[s.ρ,s.h,s.X g]
theorem jr.cell {c c':Ctx}(s:jr c c'){b o:Nat}{v:Value}(h:cellOf c.hp b o=some v):cellOf c'.hp b o=some v:=by
 unfold cellOf at h ⊢
 split at h
 ·rename_i cur ty fr hb
  rw[s.cells b cur ty fr hb]
  exact h
 ·cases h
theorem au.av {c c':Ctx}(s:jr c c'){d:D}{v:Value}(h:au c d v):au c' d v:=by
 have hown:∀{g},¬c.own g->¬c'.own g:=fun hn h=>hn ((s.own _).1 h)
 induction h with
 | undef v=>exact .undef v
 | nil=>exact .nil
 | nilfn=>exact .nilfn
 | nilmap=>exact .nilmap
 | int k n=>exact .int k n
 | bool b=>exact .bool b
 | str s=>exact .str s
 | slE p cap hm=>exact .slE p cap hm
 | sl xs b o cap esz f hne hc hm he hlen hone hcell ho _ ih=>exact .sl xs b o cap esz f hne hc hm he hlen hone (fun i j d hd=>s.cell (hcell i j d hd)) (hown ho) ih
 | msDead n off len p l k hd=>exact .msDead n off len p l k (by rw[s.h];exact hd)
 | msNil n esz els hrow hρ=>exact .msNil n esz els (by rw[s.h];exact hrow) (by rw[s.ρ];exact hρ)
 | ms n off len g esz cap els cur ty fr hrow hρ hl hg hs hc hm=>exact .ms n off len g esz cap els cur ty fr (by rw[s.h];exact hrow) (by rw[s.ρ];exact hρ) hl (s.cells _ _ _ _ hg) hs hc hm
 | msE n off esz p els hrow=>exact .msE n off esz p els (by rw[s.h];exact hrow)
 | ptrDead n i j b o hd=>exact .ptrDead n i j b o (by rw[s.h];exact hd)
 | ptrBox n j g v hb hρ=>exact .ptrBox n j g v (by rw[s.h];exact hb) (by rw[s.ρ];exact hρ)
 | ptrRow n i j g esz els hrow hρ hi=>exact .ptrRow n i j g esz els (by rw[s.h];exact hrow) (by rw[s.ρ];exact hρ) hi
 | vp e j b o f hone hcell ho hb _ ih=>exact .vp e j b o f hone (fun k d hd=>s.cell (hcell k d hd)) (hown ho) (by rw[s.size];exact hb) ih
 | agg cs vs hsz hone _ ih=>exact .agg cs vs hsz hone ih
 | tup ds vs hsz _ ih=>exact .tup ds vs hsz ih
 | fn f a b va vb hsa hsb _ _ iha ihb=>exact .fn f a b va vb hsa hsb iha ihb
 | yld n g st B hl hρ=>exact .yld n g st B (by rw[s.h];exact hl) (by rw[s.ρ];exact hρ)
 | yldDead n g hd=>exact .yldDead n g (by rw[s.h];exact hd)
 | mp n g kt l hl hρ=>exact .mp n g kt l (by rw[s.h];exact hl) (by rw[s.ρ];exact hρ)
 | mpDead n p hd=>exact .mpDead n p (by rw[s.h];exact hd)
theorem cU.av {c c':Ctx}(s:jr c c'){n:Nat}{x:Slot}(h:cU c n x):cU c' n x:=by
 cases x with
 | free=>trivial
 | dead=>trivial
 | box v =>
  obtain⟨g,cur,ty,h1,h2,h3,h4⟩:=h
  exact⟨g,cur,ty,by rw[s.ρ];exact h1,s.cells _ _ _ _ h2,h3,fun i d hd=>⟨(h4 i d hd).1,(h4 i d hd).2.av s⟩⟩
 | arr e l =>
  obtain⟨h1,h2,h3,h4⟩:=h
  refine⟨h1,h2,h3,?_⟩
  rcases h4 with⟨q1,q2⟩|⟨g,cur,ty,q1,q2,q3,q4⟩
  ·exact Or.inl ⟨by rw[s.ρ];exact q1,q2⟩
  ·exact Or.inr ⟨g,cur,ty,by rw[s.ρ];exact q1,s.cells _ _ _ _ q2,q3,fun i j d hd=>(q4 i j d hd).av s⟩
 | frz e l =>
  obtain⟨h1,h2,h3,h4⟩:=h
  refine⟨h1,h2,h3,?_⟩
  rcases h4 with⟨q1,q2⟩|⟨g,cur,ty,fr,q1,q2,q3,q4,q5⟩
  ·exact Or.inl ⟨by rw[s.ρ];exact q1,q2⟩
  ·exact Or.inr ⟨g,cur,ty,fr,by rw[s.ρ];exact q1,s.cells _ _ _ _ q2,q3,fun h=>q4 ((s.own g).1 h),fun i j d hd=>(q5 i j d hd).av s⟩
 | lp st B =>
  obtain⟨g,tmps,dfs,h1,h2,h3,h4⟩:=h
  exact⟨g,tmps,dfs,by rw[s.ρ];exact h1,s.loops _ _ h2,h3,fun i=>(h4 i).av s⟩
 | map kt l =>
  obtain⟨g,es,clock,h1,h2,h3,h4⟩:=h
  refine⟨g,es,clock,by rw[s.ρ];exact h1,s.maps _ _ _ h2,h3,fun i p hp=>?_⟩
  obtain⟨q1,q2,e,q3,q4,q5⟩:=h4 i p hp
  exact⟨q1,q2,e,q3,q4.av s,q5.av s⟩
theorem aj.av {c c':Ctx}(s:jr c c') (hr:aj c) (hg:dU c') (hl:c'.X.lo<=c'.hp.size):aj c':=by
 refine⟨fun n=>?_,?_,?_,fun g hX=>?_,?_,hg,hl⟩
 ·rw[s.h];exact(hr.slot n).av s
 ·rw[s.h,s.ρ];exact hr.inj
 ·rw[s.h,s.ρ];intro n g hm hρ hX;exact hr.apart n g hm hρ ((s.X g).1 hX)
 ·rw[s.size];exact hr.xlt g ((s.X g).1 hX)
 ·rw[s.h];exact hr.fin
theorem Ctx.le.Po {c c':Ctx}(h:c.le c') (X X':XT) (hX:X'=X):(⟨c.ρ,X,c.h,c.hp⟩:Ctx).le ⟨c'.ρ,X',c'.h,c'.hp⟩ :=
 ⟨h.size,hX,h.aD,h.shape,h.loop,h.names,h.tr,h.born⟩
theorem HV {c:Ctx}{ρ:Nat->Option Nat}{h:Heap}{w:World}(hglob:dU c) (hlo:c.X.lo=c.hp.size) (hle:c.le ⟨ρ,c.X,h,w.heap⟩) (hr:aj ⟨ρ,c.X,h,w.heap⟩){d:Deferred}(hm:Mark ⟨ρ,c.X,h,w.heap⟩ d) :
  ∃k w',d.target=.collected k/\(Instr.takeDeferred k).run P w=.ok [] w'/\WS w w'/\c.le ⟨ρ,c.X,h,w'.heap⟩/\aj ⟨ρ,c.X,h,w'.heap⟩/\jr ⟨ρ,c.X,h,w.heap⟩ ⟨ρ,c.X,h,w'.heap⟩ /\
   ∀d',d'≠d->Mark ⟨ρ,c.X,h,w.heap⟩ d'->Mark ⟨ρ,c.X,h,w'.heap⟩ d':=by
 obtain⟨k,rfl,hk1,hk2,hk3⟩:=hm
 have hlt:k<w.heap.size:=(Array.getElem?_eq_some_iff.1 hk2).1
 have hkc:c.hp.size<=k:=by
  have h1:c.X.lo<=k:=hk1
  rw[hlo]at h1;exact h1
 have other:∀g,g≠k->(w.putObj k (.deferred none)).heap[g]?=w.heap[g]?:=fun g hg=>World.putObj_heap_other hg
 have same:jr ⟨ρ,c.X,h,w.heap⟩ ⟨ρ,c.X,h,(w.putObj k (.deferred none)).heap⟩:=by
  refine⟨rfl,rfl,fun _=>Iff.rfl,World.putObj_size,fun g cur ty fr hg=>?_,fun g r hg=>?_,fun g es q hg=>?_⟩
  ·rw[<- hg]
   refine other g ?_
   rintro rfl
   have:=hk2.symm.trans hg
   cases this
  ·rw[<- hg]
   refine other g ?_
   rintro rfl
   have:=hk2.symm.trans hg
   cases this
  ·rw[<- hg]
   refine other g ?_
   rintro rfl
   have:=hk2.symm.trans hg
   cases this
 have hle':c.le ⟨ρ,c.X,h,(w.putObj k (.deferred none)).heap⟩:=by
  refine⟨by rw[World.putObj_size];exact hle.size,rfl,fun g hg hn=>?_,fun g cur ty fr hg=>?_,fun g r hg=>?_,hle.names,hle.tr,hle.born⟩
  ·exact(other g (by omega)).trans (hle.aD g hg hn)
  ·obtain⟨cur',h1,h2⟩:=hle.shape g cur ty fr hg
   exact⟨cur',same.cells _ _ _ _ h1,h2⟩
  ·obtain⟨r',h1,h2⟩:=hle.loop g r hg
   exact⟨r',same.loops _ _ h1,h2⟩
 have hg':dU ⟨ρ,c.X,h,(w.putObj k (.deferred none)).heap⟩:=hglob.mono hle'
 refine⟨k,w.putObj k (.deferred none),rfl,run_takeDeferred hk2,⟨rfl,rfl,rfl⟩,hle',hr.av same hg' (by rw[World.putObj_size];exact hr.lo),same,?_⟩
 rintro d' hne ⟨k',rfl,u1,u2,u3⟩
 have hne:k'≠k:=by
  rintro rfl
  exact hne rfl
 exact⟨k',rfl,u1,(other k' hne).trans u2,fun ho=>u3 ((same.own k').1 ho)⟩
theorem jV.pop {c:Ctx}{ρ:Nat->Option Nat}{h:Heap}{w w':World}{nt:Nat}{e:LEnv}{tmps:Array Value}{d:Deferred}{ds:List Deferred}(hs:jV ⟨ρ,c.X,h,w.heap⟩ nt e.get { tmps:=tmps,defers:=d::ds }) (hd:mZ d=true) (hr:aj ⟨ρ,c.X,h,w'.heap⟩)
  (same:jr ⟨ρ,c.X,h,w.heap⟩ ⟨ρ,c.X,h,w'.heap⟩) (hmk:∀d',d'≠d->Mark ⟨ρ,c.X,h,w.heap⟩ d'->Mark ⟨ρ,c.X,h,w'.heap⟩ d'):jV ⟨ρ,c.X,h,w'.heap⟩ nt e.get { tmps:=tmps,defers:=ds }:=by
 obtain⟨⟨m1,m2⟩,hrest⟩:=hs.defers
 simp only at m1 m2 hrest
 rw[List.filter_cons_of_pos hd]at m1 m2
 rw[List.filter_cons_of_neg (by simp[hd])]at hrest
 rw[List.pairwise_cons]at m2
 exact⟨hr.glob,hr.lo,⟨⟨fun d' hd'=>hmk d' (fun e=>m2.1 d' hd' e.symm) (m1 d' (by simp only[List.mem_cons];exact Or.inr hd')),m2.2⟩,hrest⟩,hs.size,fun i=>(hs.rel i).av same⟩
theorem jC {fn:Func}{R:Ending->World->Prop}{c:Ctx}{nt:Nat}{e:LEnv}(hglob:dU c) (hdf:c.X.dfs=[]){u:FrameMode}(hu:u≠.run):∀(ds:List Deferred) (ρ:Nat->Option Nat) (h:Heap) (w:World) (tmps:Array Value),c.X.lo=c.hp.size->c.le ⟨ρ,c.X,h,w.heap⟩ ->
  aj ⟨ρ,c.X,h,w.heap⟩->jV ⟨ρ,c.X,h,w.heap⟩ nt e.get { tmps:=tmps,defers:=ds } ->
  (∀w',c.le ⟨ρ,c.X,h,w'.heap⟩->aj ⟨ρ,c.X,h,w'.heap⟩->WS w w'->jV ⟨ρ,c.X,h,w'.heap⟩ nt e.get { tmps:=tmps,defers:=[] }->LeavesIn Fence.wide 0 P fn tmps R [] u w') ->
  LeavesInM Fence.wide 0 P fn tmps R ds u w:=by
 intro ds
 induction ds with
 | nil =>
  intro ρ h w tmps hlo hle hr hs hk
  exact hk w hle hr (WS.refl w) hs
 | cons d ds ih =>
  intro ρ h w tmps hlo hle hr hs hk
  have hcoll:mZ d=true:=by
   cases hc:mZ d with
   | true=>rfl
   | false =>
    have:=hs.defers.rest
    simp only at this
    rw[List.filter_cons_of_pos (by simp[hc]),hdf]at this
    cases this
  have hm:Mark ⟨ρ,c.X,h,w.heap⟩ d:=hs.defers.marks.all d (by simp only;rw[List.filter_cons_of_pos hcoll];simp)
  obtain⟨k,w1,htar,hrun,ws1,hle',hr',same,hmk⟩:=HV (P:=P) hglob hlo hle hr hm
  refine⟨hu,Or.inl ⟨k,w1,htar,hrun,?_⟩⟩
  exact ih ρ h _ tmps hlo hle' hr' (jV.pop hs hcoll hr' same hmk) (fun w' l1 r1 ws2 s1=>hk w' l1 r1 (ws1.trans ws2) s1)
theorem IQ {fz:Bool}{f:FuncId}{loops:TL}{dr:Nat->Array Oper->Option bW}{F:aK}(hc:cFn P fz f loops dr=some F) (hdr:wD P F.nt dr)
  {ds:List D}{K:HK}{h:Heap}(hv:Ml P F ds K h):ag P f ds h K:=by
 unfold cFn at hc
 cases hf:P.funcs[f]? with
 | none=>simp[hf]at hc
 | some fn =>
  cases hb:fn.body with
  | none=>simp[hf,hb]at hc
  | some body =>
   simp only[hf,hb]at hc
   split at hc
   ·rename_i code res hcode hres
    simp at hc;subst hc
    obtain⟨hlen,hv⟩:=hv
    intro c0 w vals hh hp hr0 hs hrel0
    subst hh
    obtain⟨c,hcdef⟩:∃c:Ctx,c=⟨c0.ρ,⟨c0.X.p,c0.hp.size,[]⟩,c0.h,c0.hp⟩:=⟨_,rfl⟩
    have hsame:jr c0 c:=by subst hcdef;exact⟨rfl,rfl,fun _=>Iff.rfl,rfl,fun _ _ _ _ h=>h,fun _ _ h=>h,fun _ _ _ h=>h⟩
    have hlo:c.X.lo=c.hp.size:=by subst hcdef;rfl
    have hg0:dU c:=fun g o hg=>⟨by subst hcdef;exact(hr0.glob g o hg).1,fun ho=>(hr0.glob g o hg).2 ((hsame.own g).1 ho),by subst hcdef;exact(hr0.glob g o hg).3⟩
    have hr:aj c:=hr0.av hsame hg0 (by rw[hlo];exact Nat.le_refl _)
    have hp':c.hp=w.heap:=by subst hcdef;exact hp
    refine(callsIn_wide (n:=0)).1 (callsIn_of_wp_marks hf hb trivial ?_)
    let a:Act:={ tmps:=vals++Array.replicate (fn.ntmps-vals.size) Go.undef,defers:=[] }
    have hsim:jV c fn.ntmps (params ds 0).get a:=by
     refine⟨hg0,hr.lo,eP.nil (by subst hcdef;rfl),by simp[a];simp only at hlen;omega,fun i=>?_⟩
     simp only[a]
     rw[Ap,lj]
     split
     ·rename_i hi
      rw[Nat.sub_zero]
      have hil:i<ds.length:=by omega
      have:ds.getD i .undef=ds[i]:=by simp[List.getD,hil]
      rw[this]
      exact(hrel0 i _ (by simp[hil])).av hsame
     ·exact .undef _
    have hch:c.h=c0.h:=by subst hcdef;rfl
    have hcX:∀g,c.X g↔c0.X g:=hsame.X
    have:=mi hdr body code hcode _ _ _ hv none c w a hch hp' hr hsim ja.none
    refine wpIn_mono (show body.wpIn Fence.wide 0 P _ a w from this) ?_
    intro e a' w' hfin
    have done:∀x,(∀id,x≠Ex.exit id)->Fin c w fn.ntmps (up (fun e h'=>iI P res K e h')) a' w'->LeavesInM Fence.wide 0 P fn a'.tmps (fun e w'=>∃(v:Value) (r:D) (ρ:Nat->Option Nat) (h':Heap),e=.returned v/\c0.le ⟨ρ,c0.X,h',w'.heap⟩ /\
      aj ⟨ρ,c0.X,h',w'.heap⟩/\WS w w'/\au ⟨ρ,c0.X,h',w'.heap⟩ r v/\K r h') a'.defers .returning w':=by
     rintro x _ ⟨ρ,t,h',r1,r2,r3,r4,e',rfl,hk⟩
     refine jC (c:=c) hg0 (by subst hcdef;rfl) (by simp) a'.defers ρ h' w' a'.tmps hlo r1 r2 r4 (fun w2 l2 hr2 ws2 s2=>?_)
     obtain⟨v,d,g1,g2,g3⟩:=qS (P:=P) (c:=⟨ρ,c.X,h',w2.heap⟩) (a:={ tmps:=a'.tmps,defers:=[] }) rfl hr2 s2 hres hk
     have hsm:jr ⟨ρ,c.X,h',w2.heap⟩ ⟨ρ,c0.X,h',w2.heap⟩:=⟨rfl,rfl,fun g=>(hcX g).symm,rfl,fun _ _ _ _ h=>h,fun _ _ h=>h,fun _ _ _ h=>h⟩
     have hle0:c0.le ⟨ρ,c0.X,h',w2.heap⟩:=by
      have:=l2.Po c0.X c0.X rfl
      subst hcdef
      exact this
     refine⟨v,g1,v,d,ρ,h',rfl,hle0,hr2.av hsm (hr0.glob.mono hle0) (Nat.le_trans hr0.lo hle0.size),r3.trans ws2,g2.av hsm,g3⟩
    cases e with
    | normal=>exact done .normal (by simp) hfin
    | ret=>exact done .ret (by simp) hfin
    | exit id =>
     obtain⟨ρ,t,h',r1,r2,r3,r4,e',rfl,hk⟩:=hfin
     exact hk.elim
    | goto l=>exact hfin.elim
    | panic ch =>
     obtain⟨_,ρ,t,h',r1,r2,r3,r4,e',rfl,hk⟩:=hfin
     exact hk.elim
    | outgrown=>exact hfin.elim
   ·cases hc
end Go.Am
namespace Go.Am
open Go
variable [bV]
variable {P:Program}
def vcFnX (P:Program) (F:aK) (ds:List D) (K:HK) (KP:Heap->Prop) (h:Heap):Prop :=
 ds.length<=F.nt/\vcC P F.code (fun x e h'=>match x with
  | .exit _=>False
  | .pan=>KP h'
  | _=>iI P F.res K e h') (params ds 0) h
theorem Lq {fn:Func}{tmps:Array Value}{R:Ending->World->Prop}{ch:List PanicEntry}{w:World}(h:R (.panicked ch) w):LeavesIn Fence.wide 0 P fn tmps R [] (.panicking ch) w:=h
theorem LX {fz:Bool}{f:FuncId}{loops:TL}{dr:Nat->Array Oper->Option bW}{F:aK}(hc:cFn P fz f loops dr=some F) (hdr:wD P F.nt dr)
  {ds:List D}{K:HK}{KP:Heap->Prop}{h:Heap}(hv:vcFnX P F ds K KP h):km P f ds h K KP:=by
 unfold cFn at hc
 cases hf:P.funcs[f]? with
 | none=>simp[hf]at hc
 | some fn =>
  cases hb:fn.body with
  | none=>simp[hf,hb]at hc
  | some body =>
   simp only[hf,hb]at hc
   split at hc
   ·rename_i code res hcode hres
    simp at hc;subst hc
    obtain⟨hlen,hv⟩:=hv
    intro c0 w vals hh hp hr0 hs hrel0
    subst hh
    obtain⟨c,hcdef⟩:∃c:Ctx,c=⟨c0.ρ,⟨c0.X.p,c0.hp.size,[]⟩,c0.h,c0.hp⟩:=⟨_,rfl⟩
    have hsame:jr c0 c:=by subst hcdef;exact⟨rfl,rfl,fun _=>Iff.rfl,rfl,fun _ _ _ _ h=>h,fun _ _ h=>h,fun _ _ _ h=>h⟩
    have hlo:c.X.lo=c.hp.size:=by subst hcdef;rfl
    have hdf:c.X.dfs=[]:=by subst hcdef;rfl
    have hg0:dU c:=fun g o hg=>⟨by subst hcdef;exact(hr0.glob g o hg).1,fun ho=>(hr0.glob g o hg).2 ((hsame.own g).1 ho),by subst hcdef;exact(hr0.glob g o hg).3⟩
    have hr:aj c:=hr0.av hsame hg0 (by rw[hlo];exact Nat.le_refl _)
    have hp':c.hp=w.heap:=by subst hcdef;exact hp
    refine(callsIn_wide (n:=0)).1 (callsIn_of_wp_marks hf hb trivial ?_)
    let a:Act:={ tmps:=vals++Array.replicate (fn.ntmps-vals.size) Go.undef,defers:=[] }
    have hsim:jV c fn.ntmps (params ds 0).get a:=by
     refine⟨hg0,hr.lo,eP.nil hdf,by simp[a];simp only at hlen;omega,fun i=>?_⟩
     simp only[a]
     rw[Ap,lj]
     split
     ·rename_i hi
      rw[Nat.sub_zero]
      have hil:i<ds.length:=by omega
      have:ds.getD i .undef=ds[i]:=by simp[List.getD,hil]
      rw[this]
      exact(hrel0 i _ (by simp[hil])).av hsame
     ·exact .undef _
    have hch:c.h=c0.h:=by subst hcdef;rfl
    have hcX:∀g,c.X g↔c0.X g:=hsame.X
    have:=mi hdr body code hcode _ _ _ hv none c w a hch hp' hr hsim ja.none
    refine wpIn_mono (show body.wpIn Fence.wide 0 P _ a w from this) ?_
    intro e a' w' hfin
    have hsm:∀(ρ:Nat->Option Nat) (h':Heap) (w2:World),jr ⟨ρ,c.X,h',w2.heap⟩ ⟨ρ,c0.X,h',w2.heap⟩:=fun ρ h' w2=>⟨rfl,rfl,fun g=>(hcX g).symm,rfl,fun _ _ _ _ h=>h,fun _ _ h=>h,fun _ _ _ h=>h⟩
    have hle0:∀(ρ:Nat->Option Nat) (h':Heap) (w2:World),c.le ⟨ρ,c.X,h',w2.heap⟩->c0.le ⟨ρ,c0.X,h',w2.heap⟩:=by
     intro ρ h' w2 l2
     have:=l2.Po c0.X c0.X rfl
     subst hcdef
     exact this
    have done:∀x,(∀id,x≠Ex.exit id)->Fin c w fn.ntmps (up (fun e h'=>iI P res K e h')) a' w'->LeavesInM Fence.wide 0 P fn a'.tmps (fun e w'=>∃(ρ:Nat->Option Nat) (h':Heap),c0.le ⟨ρ,c0.X,h',w'.heap⟩ /\
      aj ⟨ρ,c0.X,h',w'.heap⟩/\WS w w'/\((∃(v:Value) (r:D),e=.returned v/\au ⟨ρ,c0.X,h',w'.heap⟩ r v/\K r h')\/(e=.panicked [{ v:=bV.panv,recovered:=false }]/\KP h'))) a'.defers .returning w':=by
     rintro x _ ⟨ρ,t,h',r1,r2,r3,r4,e',rfl,hk⟩
     refine jC (c:=c) hg0 hdf (by simp) a'.defers ρ h' w' a'.tmps hlo r1 r2 r4 (fun w2 l2 hr2 ws2 s2=>?_)
     obtain⟨v,d,g1,g2,g3⟩:=qS (P:=P) (c:=⟨ρ,c.X,h',w2.heap⟩) (a:={ tmps:=a'.tmps,defers:=[] }) rfl hr2 s2 hres hk
     exact⟨v,g1,ρ,h',hle0 _ _ _ l2,hr2.av (hsm _ _ _) (hr0.glob.mono (hle0 _ _ _ l2)) (Nat.le_trans hr0.lo (hle0 _ _ _ l2).size),r3.trans ws2,Or.inl ⟨v,d,rfl,g2.av (hsm _ _ _),g3⟩⟩
    cases e with
    | normal=>exact done .normal (by simp) hfin
    | ret=>exact done .ret (by simp) hfin
    | exit id =>
     obtain⟨ρ,t,h',r1,r2,r3,r4,e',rfl,hk⟩:=hfin
     exact hk.elim
    | goto l=>exact hfin.elim
    | panic ch =>
     obtain⟨rfl,ρ,t,h',r1,r2,r3,r4,e',rfl,hk⟩:=hfin
     show LeavesInM _ _ _ _ _ _ a'.defers _ _
     refine jC (c:=c) hg0 hdf (by simp) a'.defers ρ h' w' a'.tmps hlo r1 r2 r4 (fun w2 l2 hr2 ws2 s2=>?_)
     exact Lq ⟨ρ,h',hle0 _ _ _ l2,hr2.av (hsm _ _ _) (hr0.glob.mono (hle0 _ _ _ l2)) (Nat.le_trans hr0.lo (hle0 _ _ _ l2).size),r3.trans ws2,Or.inr ⟨rfl,hk⟩⟩
    | outgrown=>exact hfin.elim
   ·cases hc
def OU (P:Program) (g:FuncId) (ds:List D) (h:Heap) (K:Heap->Prop):Prop :=
 ∀(c:Ctx) (w:World) (vals:Array Value),c.h=h->c.hp=w.heap->aj c->vals.size=ds.length->(∀(i:Nat) (d:D),ds[i]?=some d->au c d (vals.getD i Go.undef)) ->
  CallsDIn Fence.wide 0 P g vals (.panicking [{ v:=bV.panv,recovered:=false }]) w fun e u w'=>∃(v:Value) (ρ:Nat->Option Nat) (h':Heap),e=.returned v/\u=.panicking [{ v:=bV.panv,recovered:=true }] /\
   c.le ⟨ρ,c.X,h',w'.heap⟩/\aj ⟨ρ,c.X,h',w'.heap⟩/\WS w w'/\K h'
def Idle (P:Program) (g:FuncId) (n:Nat):Prop :=
 ∀(w:World) (vals:Array Value),vals.size=n->CallsDIn Fence.wide 0 P g vals .returning w fun e u w'=>∃v,e=.returned v/\u=.returning/\w'=w
def cDefer (P:Program) (nt:Nat):Code->Option (FuncId×List Arg×List Arg×Nat)
 | .region _ ops false=>match ops.toList with
  | [o1,o2]=>match o1.op,o2.op,o1.dst,o2.dst with
   | .makeFunc (.func g) xs ys,.defer { callee:=.value (.tmp t'),args:=args,argTypes:=_ },some t,none=>match xs.toList.mapM cArg,ys.toList.mapM cArg with
    | some xs,some ys=>if t'=t/\args = #[]/\t<nt/\o1.guard=none/\o2.guard=none/\dW P g=true then some (g,xs,ys,t) else none
    | _,_=>none
   | _,_,_,_=>none
  | _=>none
 | _=>none
structure Gz where
 nt:Nat
 pre:List bW
 g:FuncId
 xs:List Arg
 ys:List Arg
 t:Nat
 rest:bW
 res:List RV
def cSpine (P:Program) (fz:Bool) (nt:Nat) (loops:TL) (dr:Nat->Array Oper->Option bW):Code->Option (List bW×(FuncId×List Arg×List Arg×Nat)×bW)
 | .seq a b=>match cDefer P nt a with
  | some d=>(cCode P fz nt loops dr b).map fun r=>([],d,r)
  | none=>match cCode P fz nt loops dr a,cSpine P fz nt loops dr b with
   | some a',some (l,d,r)=>some (a'::l,d,r)
   | _,_=>none
 | _=>none
def cFnD (P:Program) (fz:Bool) (f:FuncId) (loops:TL) (dr:Nat->Array Oper->Option bW):Option Gz :=
 match P.funcs[f]? with
 | some fn=>match fn.body with
  | some body=>match cSpine P fz fn.ntmps loops dr body,fn.results.toList.mapM (cRes P) with
   | some (pre,(g,xs,ys,t),rest),some res=>some ⟨fn.ntmps,pre,g,xs,ys,t,rest,res⟩
   | _,_=>none
  | none=>none
 | none=>none
def vcSpine (P:Program):List bW->LPost->(LEnv->Heap->Prop)->LEnv->Heap->Prop
 | [],_,KD,e,h=>KD e h
 | a::l,Q,KD,e,h=>vcC P a (LPost.then (vcSpine P l Q KD) Q) e h
def FinD (c:Ctx) (w:World) (nt:Nat) (Q:LPost) (d:FuncId×List Arg×List Arg×Nat) (Qd:List D->LPost) (x:Exit) (a':Act) (w':World):Prop :=
 (x≠.normal/\FinX c w nt (fun x=>up (Q x)) x a' w') \/
 ∃(ρ1:Nat->Option Nat) (h1:Heap) (w1:World) (ds:List D) (va vb:Array Value),c.le ⟨ρ1,c.X,h1,w1.heap⟩/\WS w w1/\(va++vb).size=ds.length /\
  (∀(i:Nat) (d:D),ds[i]?=some d->au ⟨ρ1,c.X,h1,w1.heap⟩ d ((va++vb).getD i Go.undef))/\ds.length=(d.2.1++d.2.2.1).length /\
  FinX ⟨ρ1,⟨c.X.p,c.X.lo,{ target:=.fn (.func d.1) vb,args:=va }::c.X.dfs⟩,h1,w1.heap⟩ w1 nt (fun x=>up (Qd ds x)) x a' w'
theorem FinD.from {c c1:Ctx}{w w1:World}{nt:Nat}{Q:LPost}{d:FuncId×List Arg×List Arg×Nat}{Qd:List D->LPost}{x:Exit}{a':Act}{w':World}(hle:c.le c1) (hw:WS w w1) (h:FinD c1 w1 nt Q d Qd x a' w'):FinD c w nt Q d Qd x a' w':=by
 rcases h with⟨h0,h⟩|⟨ρ1,h1,w2,ds,va,vb,r1,r2,r4,r5,r6,r7⟩
 ·exact Or.inl ⟨h0,FinX.from hle hw _ _ _ h⟩
 ·have hX:=hle.X
  rw[hX]at r1 r5 r7
  exact Or.inr ⟨ρ1,h1,w2,ds,va,vb,hle.trans r1,hw.trans r2,r4,r5,r6,r7⟩
theorem Bq {nt:Nat}{a:Code}{g:FuncId}{xs' ys':List Arg}{t:Nat}(h:cDefer P nt a=some (g,xs',ys',t)):∃(id:Nat) (o1 o2:Oper) (xs ys:Array Operand) (ats:Array TypeId),a=.region id #[o1,o2] false /\
  o1.op=.makeFunc (.func g) xs ys/\o2.op=.defer { callee:=.value (.tmp t),args:= #[],argTypes:=ats }/\o1.dst=some t/\o2.dst=none/\xs.toList.mapM cArg=some xs'/\ys.toList.mapM cArg=some ys'/\t<nt/\o1.guard=none/\o2.guard=none/\dW P g=true:=by
 unfold cDefer at h
 split at h<;>try (cases h;done)
 rename_i id ops
 split at h<;>try (cases h;done)
 rename_i o1 o2 hl
 have e1:=vt hl
 subst e1
 split at h<;>try (cases h;done)
 rename_i g' xs ys t' args ats t0 h1 h2 h3 h4
 split at h<;>try (cases h;done)
 rename_i xs1 ys1 hx hy
 split at h<;>try (cases h;done)
 rename_i hc
 obtain⟨rfl,rfl,c1,c2,c3,c4⟩:=hc
 cases h
 exact⟨id,o1,o2,xs,ys,ats,rfl,h1,h2,h3,h4,hx,hy,c1,c2,c3,c4⟩
theorem HM (c:Ctx) (ds:List Deferred):jr c ⟨c.ρ,⟨c.X.p,c.X.lo,ds⟩,c.h,c.hp⟩:=⟨rfl,rfl,fun _=>Iff.rfl,rfl,fun _ _ _ _ h=>h,fun _ _ h=>h,fun _ _ _ h=>h⟩
theorem Ih {c:Ctx}(h:dU c) (ds:List Deferred):dU ⟨c.ρ,⟨c.X.p,c.X.lo,ds⟩,c.h,c.hp⟩:=fun g o hg=>⟨(h g o hg).1,fun ho=>(h g o hg).2 (((HM c ds).own g).1 ho),(h g o hg).3⟩
theorem HL {fz:Bool}{nt:Nat}{loops:TL}{dr:Nat->Array Oper->Option bW}(hdr:wD P nt dr){d:FuncId×List Arg×List Arg×Nat}{rest:bW}{Q:LPost}{Qd:List D->LPost} :
  ∀(code:Code) (l:List bW),cSpine P fz nt loops dr code=some (l,d,rest)->∀(e:LEnv) (h:Heap),
   vcSpine P l Q (fun e h=>vcC P rest (Qd ((d.2.1++d.2.2.1).map (·.get e))) ((d.2.2.2,.undef)::e) h) e h ->
   ∀(c:Ctx) (w:World) (a:Act),c.h=h->c.hp=w.heap->aj c->jV c nt e.get a->code.wpIn (rF none) 0 P (FinD c w nt Q d Qd) a w:=by
 intro code
 induction code with
 | seq a b iha ihb =>
  intro l hc e h hv c w ac hh hp hr hs
  simp only[cSpine]at hc
  split at hc
  ·rename_i dd hdd
   simp at hc
   obtain⟨r,hr',rfl,rfl,rfl⟩:=hc
   obtain⟨g,xs',ys',t⟩:=dd
   obtain⟨id,o1,o2,xs,ys,ats,rfl,h1,h2,h3,h4,hx,hy,ht,g1,g2,hcal⟩:=Bq hdd
   simp only[vcSpine]at hv
   refine wpIn_seq (wpIn_region ?_)
   obtain⟨a1,a2⟩:=iq hx hs
   obtain⟨b1,b2⟩:=iq hy hs
   have e1:(execOp ac.eval o1).run P w=.ok (.value (.func (.func g) (xs.map ac.eval) (ys.map ac.eval))) w:=by
    simp only[execOp,h1,Instr.makeFunc];rfl
   have sz:=hs.size
   have e2:(execOp (ac.put (some t) (.func (.func g) (xs.map ac.eval) (ys.map ac.eval))).eval o2).run P w=.ok (.defer { target:=.fn (.func g) (ys.map ac.eval),args:=xs.map ac.eval }) w:=by
    have:(ac.put (some t) (.func (.func g) (xs.map ac.eval) (ys.map ac.eval))).eval (.tmp t)=.func (.func g) (xs.map ac.eval) (ys.map ac.eval):=by simp[Act.eval,Act.put,sz,ht]
    simp[execOp,h2,resolve,this,Deferred.ofValue,Result.andThen]
   have rg:List.range (#[o1,o2]:Array Oper).size=[0,1]:=rfl
   rw[rg]
   have i0:(#[o1,o2]:Array Oper)[0]?=some o1:=rfl
   have i1:(#[o1,o2]:Array Oper)[1]?=some o2:=rfl
   simp only[wpOpsIn,i0,i1]
   rw[if_pos (by simp[Region.wanted,g1])]
   refine gE (fun c hc=>by rw[h1]at hc;cases hc) e1 ?_
   rw[Oper.uponIn_value,h3,if_pos (by simp[Region.wanted,g2])]
   refine⟨fun _ _=>trivial,?_⟩
   rw[show(rF none).round=none from rfl,Oper.semAt_none,e2,Oper.uponIn_defer,h4]
   let D0:Deferred:={ target:=.fn (.func g) (ys.map ac.eval),args:=xs.map ac.eval }
   let c':Ctx:=⟨c.ρ,⟨c.X.p,c.X.lo,D0::c.X.dfs⟩,c.h,c.hp⟩
   have hsm:jr c c':=HM c _
   have hg':dU c':=Ih hr.glob _
   have hr2:aj c':=hr.av hsm hg' hr.lo
   let ac2:Act:={ (ac.put (some t) (.func (.func g) (xs.map ac.eval) (ys.map ac.eval))) with defers:=D0::(ac.put (some t) (.func (.func g) (xs.map ac.eval) (ys.map ac.eval))).defers }
   have hs2:jV c' nt (LEnv.get ((t,D.undef)::e)) ac2:=by
    have hput:∀(v:Value),(ac.put (some t) v).defers=ac.defers:=fun v=>rfl
    have hD0:mZ D0=false:=rfl
    refine⟨hg',hr.lo,⟨?_,?_⟩,by simp[ac2,Act.put,sz],fun i=>?_⟩
    ·show Marks c' ((D0::ac.defers).filter mZ)
     rw[List.filter_cons_of_neg (by rw[hD0];simp)]
     exact⟨fun d hd=>hs.defers.marks.all d hd,hs.defers.marks.nd⟩
    ·show(D0::ac.defers).filter _=D0::c.X.dfs
     rw[List.filter_cons_of_pos (by simp[hD0]),hs.defers.rest]
    simp only[LEnv.get]
    by_cases hi:i=t
    ·rw[if_pos hi];exact .undef _
    ·rw[if_neg hi]
     have hti:t≠i:=fun e=>hi e.symm
     have:ac2.tmps.getD i Go.undef=ac.tmps.getD i Go.undef:=by simp[ac2,Act.put,hti]
     rw[this]
     exact(hs.rel i).av hsm
   have:=mi hdr b r hr' _ _ _ hv none c' w ac2 hh hp hr2 hs2 ja.none
   refine wpIn_mono this ?_
   intro x a' w' hf
   have hce:(⟨c.ρ,c.X,c.h,w.heap⟩:Ctx)=c:=by rw[<- hp]
   refine Or.inr ⟨c.ρ,c.h,w,(xs'++ys').map (·.get e),xs.map ac.eval,ys.map ac.eval,by rw[hce];exact Ctx.le.refl c,WS.refl w,?_,?_,?_,?_⟩
   ·rw[Array.size_append,a1,b1];simp
   ·rw[hce,List.map_append];exact vG a1 a2 b2
   ·simp
   ·have hce':(⟨c.ρ,⟨c.X.p,c.X.lo,D0::c.X.dfs⟩,c.h,w.heap⟩:Ctx)=c':=by rw[<- hp]
    rw[hce']
    exact hf
  ·split at hc
   ·rename_i a' l' d' r' hca hcb
    simp at hc
    obtain⟨rfl,rfl,rfl⟩:=hc
    simp only[vcSpine]at hv
    refine wpIn_seq (wpIn_mono (mi hdr a a' hca _ _ _ hv none c w ac hh hp hr hs ja.none) ?_)
    intro x a1 w1 hx
    cases x with
    | normal =>
     obtain⟨ρ,t',h',r1,r2,r3,r4,e',rfl,r5⟩:=hx
     exact wpIn_mono (ihb l' hcb e' h' r5 ⟨ρ,c.X,h',w1.heap⟩ w1 a1 rfl rfl r2 r4) (fun e a w hf=>FinD.from r1 r3 hf)
    | exit id=>exact Or.inl ⟨by simp,Fin.mono (fun t h hk=>hk) hx⟩
    | ret=>exact Or.inl ⟨by simp,Fin.mono (fun t h hk=>hk) hx⟩
    | panic ch=>exact Or.inl ⟨by simp,hx.1,Fin.mono (fun t h hk=>hk) hx.2⟩
    | goto l=>exact hx.elim
    | outgrown=>exact hx.elim
   ·cases hc
 | _=>intro l hc;simp[cSpine]at hc
def IZ (P:Program) (F:Gz) (K:HK) (e:LEnv) (h:Heap):Prop :=
 vcSpine P F.pre (fun x e h'=>match x with
  | .ret=>iI P F.res K e h'
  | _=>False) (fun e h=>vcC P F.rest (fun x e' h'=>match x with
   | .exit _=>False
   | .pan=>OU P F.g ((F.xs++F.ys).map (·.get e)) h' (fun h''=>iI P F.res K e' h'')
   | _=>iI P F.res K e' h') ((F.t,.undef)::e) h) e h
def S2 (P:Program) (F:Gz) (ds:List D) (K:HK) (h:Heap):Prop:=ds.length<=F.nt/\IZ P F K (params ds 0) h
theorem jr.trans {a b c:Ctx}(h:jr a b) (k:jr b c):jr a c :=
 ⟨k.ρ.trans h.ρ,k.h.trans h.h,fun g=>(k.X g).trans (h.X g),k.size.trans h.size,fun g cur ty fr x=>k.cells _ _ _ _ (h.cells _ _ _ _ x),fun g r x=>k.loops _ _ (h.loops _ _ x),fun g es n x=>k.maps _ _ _ (h.maps _ _ _ x)⟩
theorem Kk {fn:Func}{R:Ending->World->Prop}{c:Ctx}{nt:Nat}{e:LEnv}(hglob:dU c) (hdf:c.X.dfs=[]) (hlo:c.X.lo=c.hp.size){g:FuncId}{va vb:Array Value}(hcal:dW P g=true){u:FrameMode}(hu:u≠.run){tmps:Array Value}{KF:Heap->Prop}
  {X':XT}(hX':X'=⟨c.X.p,c.X.lo,[{ target:=.fn (.func g) vb,args:=va }]⟩) {ρ:Nat->Option Nat}{h:Heap} :
  ∀(ds:List Deferred) (w:World),Ctx.le ⟨c.ρ,X',c.h,c.hp⟩ ⟨ρ,X',h,w.heap⟩->aj ⟨ρ,X',h,w.heap⟩->jV ⟨ρ,X',h,w.heap⟩ nt e.get { tmps:=tmps,defers:=ds } ->
   (∀(w1:World),jr ⟨ρ,X',h,w.heap⟩ ⟨ρ,c.X,h,w1.heap⟩->aj ⟨ρ,c.X,h,w1.heap⟩ ->
    CallsDIn Fence.wide 0 P g (va++vb) u w1 fun e u' w2=>∃(v:Value) (ρ':Nat->Option Nat) (h':Heap),e=.returned v/\settle u'=.returning/\Ctx.le ⟨ρ,c.X,h,w1.heap⟩ ⟨ρ',c.X,h',w2.heap⟩/\aj ⟨ρ',c.X,h',w2.heap⟩/\WS w1 w2/\KF h') ->
   (∀(w':World) (ρ':Nat->Option Nat) (h':Heap),KF h'->c.le ⟨ρ',c.X,h',w'.heap⟩->aj ⟨ρ',c.X,h',w'.heap⟩->WS w w'->jV ⟨ρ',c.X,h',w'.heap⟩ nt e.get { tmps:=tmps,defers:=[] }->LeavesIn Fence.wide 0 P fn tmps R [] .returning w') ->
   LeavesInM Fence.wide 0 P fn tmps R ds u w:=by
 intro ds
 induction ds with
 | nil =>
  intro w hle hr hs hcall hk
  have:=hs.defers.rest
  simp only[List.filter_nil]at this
  rw[hX']at this
  cases this
 | cons d ds ih =>
  intro w hle hr hs hcall hk
  have sm:∀w1:World,jr ⟨ρ,X',h,w1.heap⟩ ⟨ρ,c.X,h,w1.heap⟩:=fun w1=>⟨rfl,rfl,fun g=>by rw[hX'],rfl,fun _ _ _ _ h=>h,fun _ _ h=>h,fun _ _ _ h=>h⟩
  cases hcoll:mZ d with
  | true =>
   have hm:Mark ⟨ρ,X',h,w.heap⟩ d:=hs.defers.marks.all d (by simp only;rw[List.filter_cons_of_pos hcoll];simp)
   have hg':dU ⟨c.ρ,X',c.h,c.hp⟩:=by rw[hX'];exact Ih hglob _
   obtain⟨k,w1,htar,hrun,ws1,hle',hr',same,hmk⟩:=HV (P:=P) (c:=⟨c.ρ,X',c.h,c.hp⟩) hg' (by rw[hX'];exact hlo) hle hr hm
   refine⟨hu,Or.inl ⟨k,w1,htar,hrun,?_⟩⟩
   exact ih w1 hle' hr' (jV.pop (c:=⟨c.ρ,X',c.h,c.hp⟩) hs hcoll hr' same hmk) (fun w2 sm2 hr2=>hcall w2 (same.trans sm2) hr2) (fun w' ρ' h' kf l1 r1 ws2 s1=>hk w' ρ' h' kf l1 r1 (ws1.trans ws2) s1)
  | false =>
   have hrest:=hs.defers.rest
   simp only at hrest
   rw[List.filter_cons_of_pos (by simp[hcoll]),hX']at hrest
   injection hrest with hd hds
   subst hd
   have hgw:dU ⟨ρ,c.X,h,w.heap⟩:=hglob.mono (by have:=hle.Po c.X c.X rfl;exact this)
   have hr0:aj ⟨ρ,c.X,h,w.heap⟩:=hr.av (sm w) hgw (by have:=hle.size;simp only at this;rw[hlo];exact this)
   refine⟨hu,Or.inr ⟨fun h=>by(cases h),.func g,vb,g,va++vb,rfl,?_,fun _ _=>trivial,?_⟩⟩
   ·simp[invoke,gD hcal]
   ·refine(hcall w (sm w) hr0).mono ?_
    rintro e' u' w2 ⟨v,ρ',h',rfl,hset,l2,hr2,ws2,kf⟩
    have hle0:c.le ⟨ρ,c.X,h,w.heap⟩:=by have:=hle.Po c.X c.X rfl;exact this
    have hs2:jV ⟨ρ',c.X,h',w2.heap⟩ nt e.get { tmps:=tmps,defers:=ds }:=by
     refine⟨hr2.glob,hr2.lo,⟨Marks.mono l2 ⟨fun d hd=>?_,?_⟩,by rw[hds,hdf]⟩,hs.size,fun i=>((hs.rel i).av (sm w)).mono l2⟩
     ·have:=hs.defers.marks.all d (by simp only;rw[List.filter_cons_of_neg (by simp[hcoll])];exact hd)
      obtain⟨k,e1,e2,e3,e4⟩:=this
      exact⟨k,e1,by rw[hX']at e2;exact e2,e3,fun ho=>e4 (((sm w).own k).1 ho)⟩
     ·have:=hs.defers.marks.nd
      simp only at this
      rw[List.filter_cons_of_neg (by simp[hcoll])]at this
      exact this
    show LeavesInM _ _ _ _ _ _ ds (settle u') w2
    rw[hset]
    exact jC (c:=c) hglob hdf (by simp) ds ρ' h' w2 tmps hlo (hle0.trans l2) hr2 hs2 (fun w3 l3 hr3 ws3 s3=>hk w3 ρ' h' kf l3 hr3 (ws2.trans ws3) s3)
theorem LY {fz:Bool}{f:FuncId}{loops:TL}{dr:Nat->Array Oper->Option bW}{F:Gz}(hc:cFnD P fz f loops dr=some F) (hdr:wD P F.nt dr) (hidle:Idle P F.g (F.xs++F.ys).length)
  {ds:List D}{K:HK}{h:Heap}(hv:S2 P F ds K h):ag P f ds h K:=by
 unfold cFnD at hc
 cases hf:P.funcs[f]? with
 | none=>simp[hf]at hc
 | some fn =>
  cases hb:fn.body with
  | none=>simp[hf,hb]at hc
  | some body =>
   simp only[hf,hb]at hc
   split at hc
   ·rename_i pre g xs ys t rest res hcode hres
    simp at hc;subst hc
    obtain⟨hlen,hv⟩:=hv
    intro c0 w vals hh hp hr0 hs hrel0
    subst hh
    obtain⟨c,hcdef⟩:∃c:Ctx,c=⟨c0.ρ,⟨c0.X.p,c0.hp.size,[]⟩,c0.h,c0.hp⟩:=⟨_,rfl⟩
    have hsame:jr c0 c:=by subst hcdef;exact⟨rfl,rfl,fun _=>Iff.rfl,rfl,fun _ _ _ _ h=>h,fun _ _ h=>h,fun _ _ _ h=>h⟩
    have hlo:c.X.lo=c.hp.size:=by subst hcdef;rfl
    have hdf:c.X.dfs=[]:=by subst hcdef;rfl
    have hg0:dU c:=fun g o hg=>⟨by subst hcdef;exact(hr0.glob g o hg).1,fun ho=>(hr0.glob g o hg).2 ((hsame.own g).1 ho),by subst hcdef;exact(hr0.glob g o hg).3⟩
    have hr:aj c:=hr0.av hsame hg0 (by rw[hlo];exact Nat.le_refl _)
    have hp':c.hp=w.heap:=by subst hcdef;exact hp
    refine(callsIn_wide (n:=0)).1 (callsIn_of_wp_marks hf hb trivial ?_)
    let a:Act:={ tmps:=vals++Array.replicate (fn.ntmps-vals.size) Go.undef,defers:=[] }
    have hsim:jV c fn.ntmps (params ds 0).get a:=by
     refine⟨hg0,hr.lo,eP.nil hdf,by simp[a];simp only at hlen;omega,fun i=>?_⟩
     simp only[a]
     rw[Ap,lj]
     split
     ·rename_i hi
      rw[Nat.sub_zero]
      have hil:i<ds.length:=by omega
      have:ds.getD i .undef=ds[i]:=by simp[List.getD,hil]
      rw[this]
      exact(hrel0 i _ (by simp[hil])).av hsame
     ·exact .undef _
    have hch:c.h=c0.h:=by subst hcdef;rfl
    have hcX:∀g,c.X g↔c0.X g:=hsame.X
    have:=HL hdr (d:=(g,xs,ys,t)) (Qd:=fun cl x e' h'=>match x with
     | .exit _=>False
     | .pan=>OU P g cl h' (fun h''=>iI P res K e' h'')
     | _=>iI P res K e' h') body pre hcode _ _ hv c w a hch hp' hr hsim
    refine wpIn_mono (show body.wpIn Fence.wide 0 P _ a w from this) ?_
    intro x a' w' hfin
    have hsm:∀(ρ:Nat->Option Nat) (h':Heap) (w2:World),jr ⟨ρ,c.X,h',w2.heap⟩ ⟨ρ,c0.X,h',w2.heap⟩:=fun ρ h' w2=>⟨rfl,rfl,fun g=>(hcX g).symm,rfl,fun _ _ _ _ h=>h,fun _ _ h=>h,fun _ _ _ h=>h⟩
    have hle0:∀(ρ:Nat->Option Nat) (h':Heap) (w2:World),c.le ⟨ρ,c.X,h',w2.heap⟩->c0.le ⟨ρ,c0.X,h',w2.heap⟩:=by
     intro ρ h' w2 l2
     have:=l2.Po c0.X c0.X rfl
     subst hcdef
     exact this
    have last:∀{e':LEnv}{h':Heap}{ρ:Nat->Option Nat}{w2:World},iI P res K e' h'->c.le ⟨ρ,c.X,h',w2.heap⟩->aj ⟨ρ,c.X,h',w2.heap⟩->WS w w2->jV ⟨ρ,c.X,h',w2.heap⟩ fn.ntmps e'.get { tmps:=a'.tmps,defers:=[] } ->
      LeavesIn Fence.wide 0 P fn a'.tmps (fun e w'=>∃(v:Value) (r:D) (ρ:Nat->Option Nat) (h':Heap),e=.returned v/\c0.le ⟨ρ,c0.X,h',w'.heap⟩/\aj ⟨ρ,c0.X,h',w'.heap⟩/\WS w w'/\au ⟨ρ,c0.X,h',w'.heap⟩ r v/\K r h') [] .returning w2:=by
     intro e' h' ρ w2 hk l2 hr2 ws2 s2
     obtain⟨v,d,g1,g2,g3⟩:=qS (P:=P) (c:=⟨ρ,c.X,h',w2.heap⟩) (a:={ tmps:=a'.tmps,defers:=[] }) rfl hr2 s2 hres hk
     exact⟨v,g1,v,d,ρ,h',rfl,hle0 _ _ _ l2,hr2.av (hsm _ _ _) (hr0.glob.mono (hle0 _ _ _ l2)) (Nat.le_trans hr0.lo (hle0 _ _ _ l2).size),ws2,g2.av (hsm _ _ _),g3⟩
    rcases hfin with⟨hne,hfin⟩|⟨ρ1,h1,w1,cl,va,vb,q1,q2,q3,q4,q5,hfin⟩
    ·cases x with
     | normal=>exact absurd rfl hne
     | ret =>
      obtain⟨ρ,t,h',r1,r2,r3,r4,e',rfl,hk⟩:=hfin
      exact jC (c:=c) hg0 hdf (by simp) a'.defers ρ h' w' a'.tmps hlo r1 r2 r4 (fun w2 l2 hr2 ws2 s2=>last hk l2 hr2 (r3.trans ws2) s2)
     | exit id =>
      obtain⟨ρ,t,h',r1,r2,r3,r4,e',rfl,hk⟩:=hfin
      exact hk.elim
     | goto l=>exact hfin.elim
     | panic ch =>
      obtain⟨_,ρ,t,h',r1,r2,r3,r4,e',rfl,hk⟩:=hfin
      exact hk.elim
     | outgrown=>exact hfin.elim
    ·have hcal:dW P g=true:=by
      have:∀(code:Code) (l:List bW) (r:bW),cSpine P fz fn.ntmps loops dr code=some (l,(g,xs,ys,t),r)->dW P g=true:=by
       intro code
       induction code with
       | seq a b iha ihb =>
        intro l r hc
        simp only[cSpine]at hc
        split at hc
        ·rename_i dd hdd
         simp at hc
         obtain⟨r',_,_,rfl,_⟩:=hc
         obtain⟨_,_,_,_,_,_,_,_,_,_,_,_,_,_,_,_,hq⟩:=Bq hdd
         exact hq
        ·split at hc
         ·rename_i a' l' d' r' hca hcb
          simp at hc
          obtain⟨_,rfl,_⟩:=hc
          exact ihb _ _ hcb
         ·cases hc
       | _=>intro l r hc;simp[cSpine]at hc
      exact this body pre rest hcode
     rw[hdf]at hfin
     obtain⟨X',hX'⟩:∃X':XT,X'=⟨c.X.p,c.X.lo,[{ target:=.fn (.func g) vb,args:=va }]⟩:=⟨_,rfl⟩
     simp only at hfin
     rw[<- hX']at hfin
     have smX:∀(ρ:Nat->Option Nat) (h':Heap) (w2:World),jr ⟨ρ,X',h',w2.heap⟩ ⟨ρ,c.X,h',w2.heap⟩:=fun ρ h' w2=>⟨rfl,rfl,fun g=>by rw[hX'],rfl,fun _ _ _ _ h=>h,fun _ _ h=>h,fun _ _ _ h=>h⟩
     have l01:Ctx.le ⟨c.ρ,X',c.h,c.hp⟩ ⟨ρ1,X',h1,w1.heap⟩:=by have:=q1.Po X' X' rfl;exact this
     have idle:∀{e':LEnv},Fin ⟨ρ1,X',h1,w1.heap⟩ w1 fn.ntmps (up (fun e' h'=>iI P res K e' h')) a' w'->LeavesInM Fence.wide 0 P fn a'.tmps (fun e w'=>∃(v:Value) (r:D) (ρ:Nat->Option Nat) (h':Heap),e=.returned v/\c0.le ⟨ρ,c0.X,h',w'.heap⟩ /\
       aj ⟨ρ,c0.X,h',w'.heap⟩/\WS w w'/\au ⟨ρ,c0.X,h',w'.heap⟩ r v/\K r h') a'.defers .returning w':=by
      rintro _ ⟨ρ,t,h',r1,r2,r3,r4,e',rfl,hk⟩
      refine Kk (c:=c) hg0 hdf hlo hcal (by simp) (KF:=fun h''=>h''=h') hX' a'.defers w' (l01.trans r1) r2 r4 ?_ ?_
      ·intro w2 sm2 hr2
       refine(hidle w2 (va++vb) (q3.trans q5)).mono ?_
       rintro e u' w3 ⟨v,rfl,rfl,rfl⟩
       exact⟨v,ρ,h',rfl,rfl,Ctx.le.refl _,hr2,WS.refl _,rfl⟩
      ·rintro w2 ρ' h'' rfl l2 hr2 ws2 s2
       exact last hk l2 hr2 ((q2.trans r3).trans ws2) s2
     cases x with
     | normal=>exact idle (e':=[]) hfin
     | ret=>exact idle (e':=[]) hfin
     | exit id =>
      obtain⟨ρ,t,h',r1,r2,r3,r4,e',rfl,hk⟩:=hfin
      exact hk.elim
     | goto l=>exact hfin.elim
     | panic ch =>
      obtain⟨rfl,ρ,t,h',r1,r2,r3,r4,e',rfl,hk⟩:=hfin
      show LeavesInM _ _ _ _ _ _ a'.defers _ _
      refine Kk (c:=c) hg0 hdf hlo hcal (by simp) (KF:=fun h''=>iI P res K e' h'') hX' a'.defers w' (l01.trans r1) r2 r4 ?_ ?_
      ·intro w2 sm2 hr2
       refine(hk ⟨ρ,c.X,h',w2.heap⟩ w2 (va++vb) rfl rfl hr2 q3 (fun i d hd=>?_)).mono ?_
       ·have h0:=q4 i d hd
        have h1':au ⟨ρ1,X',h1,w1.heap⟩ d ((va++vb).getD i Go.undef):=h0.av (show jr ⟨ρ1,c.X,h1,w1.heap⟩ ⟨ρ1,X',h1,w1.heap⟩ from ⟨rfl,rfl,fun g=>by rw[hX'],rfl,fun _ _ _ _ h=>h,fun _ _ h=>h,fun _ _ _ h=>h⟩)
        exact(h1'.mono r1).av sm2
       ·rintro e u' w3 ⟨v,ρ',h'',rfl,rfl,l3,hr3,ws3,hk3⟩
        exact⟨v,ρ',h'',rfl,rfl,l3,hr3,ws3,hk3⟩
      ·rintro w2 ρ' h'' kf l2 hr2 ws2 s2
       exact last kf l2 hr2 ((q2.trans r3).trans ws2) s2
     | outgrown=>exact hfin.elim
   ·cases hc
def IY (P:Program) (f:FuncId) (ds:List D) (h:Heap) (KP:Heap->Prop) (K:HK):Prop:=km P f ds h K KP
theorem IS {fz:Bool}{f:FuncId}{loops:TL}{dr:Nat->Array Oper->Option bW}{F:aK}(hc:cFn P fz f loops dr=some F) (hdr:wD P F.nt dr)
  {ds:List D}{h:Heap}{K:HK}{KP:Heap->Prop}(hlen:Nat.ble ds.length F.nt=true) {V:(HK)->(Heap->Prop)->Prop}(hV:∀K KP,V K KP=vcC P F.code (fun x e h'=>match x with|.exit _=>False|.pan=>KP h'|_=>iI P F.res K e h') (params ds 0) h)
  (hv:V K KP):km P f ds h K KP :=
 LX hc hdr ⟨Nat.le_of_ble_eq_true hlen,Eq.mp (hV _ _) hv⟩
theorem OM {fz:Bool}{f:FuncId}{loops:TL}{dr:Nat->Array Oper->Option bW}{F:Gz}(hc:cFnD P fz f loops dr=some F) (hdr:wD P F.nt dr) (hidle:Idle P F.g (F.xs++F.ys).length)
  {ds:List D}{h:Heap}{K:HK}(hlen:Nat.ble ds.length F.nt=true) {V:(HK)->Prop}(hV:∀K,V K=IZ P F K (params ds 0) h)
  (hv:V K):ag P f ds h K :=
 LY hc hdr hidle ⟨Nat.le_of_ble_eq_true hlen,Eq.mp (hV _) hv⟩
end Go.Am
namespace Go.Am
open Go
variable [bV]
variable {P:Program}
end Go.Am
namespace Go.Am
open Go
variable [bV]
variable {P:Program}
theorem DM {d:D}(h:d.vd=true):d.vone=true\/∃cs,d=.agg cs/\∀x∈cs,x.vone=true:=by
 cases d with
 | agg cs=>exact Or.inr ⟨cs,rfl,by simpa[D.vd] using h⟩
 | _=>exact Or.inl h
theorem au.GK {c c':Ctx}(hp:c'.hp=c.hp) (ho:∀g,¬c.own g->¬c'.own g){d:D}{v:Value}(h:au c d v):(d.vd=true->au c' d v):=by
 induction h with
 | undef v=>intro hv;simp[D.vd,D.vone]at hv
 | nil=>intro _;exact .nil
 | nilfn=>intro _;exact .nilfn
 | nilmap=>intro _;exact .nilmap
 | int k n=>intro _;exact .int k n
 | bool b=>intro _;exact .bool b
 | str s=>intro _;exact .str s
 | slE p cap hm=>intro _;exact .slE p cap hm
 | sl xs b o cap esz f hne hc hm he hlen hone hcell hown _ ih =>
  intro _
  refine .sl xs b o cap esz f hne hc hm he hlen hone (fun i j d hd=>by rw[hp];exact hcell i j d hd) (ho b hown) (fun i j d hd=>ih i j d hd ?_)
  have:=hone i j d hd
  cases d<;>simp_all [D.vd,D.vone]
 | agg cs vs hsz hone _ ih =>
  intro hv
  refine .agg cs vs hsz hone (fun i d hd=>ih i d hd ?_)
  have:d.vone=true:=by
   simp only[D.vd,List.all_eq_true]at hv
   exact hv d (List.mem_of_getElem? hd)
  cases d<;>simp_all [D.vd,D.vone]
 | _=>intro hv;simp[D.vd,D.vone]at hv
theorem au.w7 {c c':Ctx}(hp:c'.hp=c.hp) (ho:∀g,¬c.own g->¬c'.own g){d:D}{v:Value}(h:au c d v) (hv:d.FB=true):au c' d v:=by
 cases h with
 | tup ds vs hsz hrel =>
  refine .tup ds vs hsz (fun i d hd=>(hrel i d hd).GK hp ho ?_)
  simp only[D.FB,List.all_eq_true]at hv
  exact hv d (List.mem_of_getElem? hd)
 | agg cs vs hsz hone hrel=>exact au.GK hp ho (.agg cs vs hsz hone hrel) hv
 | sl xs b o cap esz f hne hc hm he hlen hone hcell hown hrel=>exact au.GK hp ho (.sl xs b o cap esz f hne hc hm he hlen hone hcell hown hrel) rfl
 | slE p cap hm=>exact .slE p cap hm
 | nil=>exact .nil
 | nilfn=>exact .nilfn
 | nilmap=>exact .nilmap
 | int k n=>exact .int k n
 | bool b=>exact .bool b
 | str s=>exact .str s
 | _=>simp[D.FB,D.vd,D.vone]at hv
theorem au.Pn {c c':Ctx}{d:D}{v:Value}(h:au c d v) (hv:d.flat=true):au c' d v:=by
 have cell:∀{d:D}{v:Value},au c d v->d.flatc=true->au c' d v:=by
  intro d v h hf
  cases h with
  | nil=>exact .nil
  | nilfn=>exact .nilfn
  | nilmap=>exact .nilmap
  | int k n=>exact .int k n
  | bool b=>exact .bool b
  | str s=>exact .str s
  | _=>simp[D.flatc]at hf
 have one:∀{d:D}{v:Value},au c d v->d.Gn=true->au c' d v:=by
  intro d v h hf
  cases h with
  | agg cs vs hsz hone hrel =>
   refine .agg cs vs hsz hone (fun i d hd=>cell (hrel i d hd) ?_)
   simp only[D.Gn,List.all_eq_true]at hf
   exact hf d (List.mem_of_getElem? hd)
  | nil=>exact .nil
  | nilfn=>exact .nilfn
  | nilmap=>exact .nilmap
  | int k n=>exact .int k n
  | bool b=>exact .bool b
  | str s=>exact .str s
  | _=>simp[D.Gn,D.flatc]at hf
 cases h with
 | tup ds vs hsz hrel =>
  refine .tup ds vs hsz (fun i d hd=>one (hrel i d hd) ?_)
  simp only[D.flat,List.all_eq_true]at hv
  exact hv d (List.mem_of_getElem? hd)
 | agg cs vs hsz hone hrel=>exact one (.agg cs vs hsz hone hrel) hv
 | nil=>exact .nil
 | nilfn=>exact .nilfn
 | nilmap=>exact .nilmap
 | int k n=>exact .int k n
 | bool b=>exact .bool b
 | str s=>exact .str s
 | _=>simp[D.flat,D.Gn,D.flatc]at hv
def D.nmt:D->List Nat
 | .tup ds=>ds.flatMap D.nm
 | d=>d.nm
def ik:D->Prop
 | .tup ds=>∀x∈ds,aw x
 | d=>aw d
def p8 (h:Heap):D->Prop
 | .tup ds=>∀x∈ds,jP h x
 | d=>jP h d
theorem Kq {c c':Ctx}(hle:c.le c') (hr':aj c'){d:D}{v:Value}(h:au c d v) (h1:ik d) (hok:p8 c.h d) (hfr:∀n esz els,n∈d.nmt->(c.h n).row=some (esz,els)->c'.h n=.frz esz els) :
  au c' (d.fzt c.h) v:=by
 by_cases ht:∃ds,d=.tup ds
 ·obtain⟨ds,rfl⟩:=ht
  cases h with
  | tup _ vs hsz hrel =>
   refine .tup _ vs (by simpa using hsz) (fun i x hx=>?_)
   rw[List.getElem?_map]at hx
   cases hi:ds[i]? with
   | none=>simp[hi]at hx
   | some y =>
    simp[hi]at hx
    subst hx
    have hm:=List.mem_of_getElem? hi
    exact(vY hle hr' (hrel i y hi) (h1 y hm) (hok y hm) (fun n esz els hn hrow=>hfr n esz els (by simp only[D.nmt,List.mem_flatMap];exact⟨y,hm,hn⟩) hrow)).1
 ·have e1:D.fzt c.h d=D.fz c.h d:=by cases d<;>simp_all [D.fzt]
  have e2:d.nmt=d.nm:=by cases d<;>simp_all [D.nmt]
  have e3:aw d:=by cases d<;>simp_all [ik]
  have e4:jP c.h d:=by cases d<;>simp_all [p8]
  rw[e1]
  exact(vY hle hr' h e3 e4 (by rw[<- e2];exact hfr)).1
def aC:Heap:=fun _=>.free
theorem Mj {fz:Bool}{f:FuncId}{loops:TL}{dr:Nat->Array Oper->Option bW}{F:aK}(hc:cFn P fz f loops dr=some F) (hdr:wD P F.nt dr)
  {ds:List D}{K:D->Prop}(hv:Ml P F ds (fun r h=>ik r/\p8 h r/\(r.fzt h).FB=true/\K (r.fzt h)) aC):aF P f ds K:=by
 intro c w vals hh hp hr hs hrel
 have gQ:c.h=aC:=funext hh
 have:=IQ hc hdr hv c w vals gQ hp hr hs hrel
 refine this.mono ?_
 rintro e w' ⟨v,r,ρ,h',rfl,h1,h2,h3,h4,h5,h6,h7,h8⟩
 obtain⟨g1,g2⟩:=cV h2 r.nmt
 have hz:=Kq g1 g2 h4 h5 h6 (fun n esz els hn hrow=>dA _ hrow hn)
 have hown:∀g,¬(⟨ρ,c.X,h'.freezeAll r.nmt,w'.heap⟩:Ctx).own g->¬(⟨c.ρ,c.X,c.h,w'.heap⟩:Ctx).own g:=by
  rintro g hn (hX|⟨n,hm,_⟩)
  ·exact hn (Or.inl hX)
  ·simp only[hh n]at hm;cases hm
 refine⟨v,r.fzt h',rfl,?_,h3,au.w7 (c:=⟨ρ,c.X,h'.freezeAll r.nmt,w'.heap⟩) (c':=⟨c.ρ,c.X,c.h,w'.heap⟩) rfl hown hz h7,h7,h8⟩
 refine⟨h1.size,rfl,h1.aD,h1.shape,h1.loop,fun _ _=>rfl,fun _=>Trans.refl _,fun n g hm hρ _=>⟨n,hm,hρ⟩⟩
theorem gA {f:FuncId}{ds:List D}{h:Heap}{K:D->Prop}(hv:aF P f (ds.map (D.fz h)) K) (h1:∀d∈ds,aw d/\jP h d/\(d.fz h).vd=true) :
  ag P f ds h fun r h'=>K r/\((r.flat=true\/ds.flatMap D.nm=[])->h'=h)/\(¬(r.flat=true\/ds.flatMap D.nm=[])->h'=h.freezeAll (ds.flatMap D.nm)):=by
 intro c w vals hh hp hr hs hrel
 subst hh
 let ns:=ds.flatMap D.nm
 let h1':Heap:=c.h.freezeAll ns
 let c1:Ctx:=⟨c.ρ,c.X,h1',c.hp⟩
 obtain⟨g1,g2⟩:=cV hr ns
 let c0:Ctx:=⟨fun _=>none,⟨c1.own,0,[]⟩,aC,c.hp⟩
 have hr0:aj c0:=by
  refine⟨fun n=>trivial,fun n m g hm=>(by cases hm),fun n g hm=>(by cases hm),fun g hX=>?_,⟨0,fun n _=>rfl⟩,fun g o hg=>⟨(g2.glob g o hg).1,fun ho=>(g2.glob g o hg).2 ?_,(g2.glob g o hg).3⟩,Nat.zero_le _⟩
  rotate_left
  ·rcases ho with hX|⟨n,hm,_⟩
   ·exact hX
   ·cases hm
  have hX:c1.own g:=hX
  rcases hX with hX|⟨n,hm,hρ⟩
  ·exact hr.xlt g hX
  ·exact jw g2 hm hρ
 have hown:∀g,¬c1.own g->¬c0.own g:=by
  rintro g hn (hX|⟨n,hm,_⟩)
  ·exact hn hX
  ·cases hm
 have hargs:∀(i:Nat) (d:D),(ds.map (D.fz c.h))[i]?=some d->au c0 d (vals.getD i Go.undef):=by
  intro i d hd
  rw[List.getElem?_map]at hd
  cases hi:ds[i]? with
  | none=>simp[hi]at hd
  | some x =>
   simp[hi]at hd
   subst hd
   have hm:=List.mem_of_getElem? hi
   obtain⟨q1,q2,q3⟩:=h1 x hm
   have:=(vY (c':=c1) g1 g2 (hrel i x hi) q1 q2 (fun n esz els hn hrow=>dA ns hrow (by simp only[ns,List.mem_flatMap];exact⟨x,hm,hn⟩))).1
   exact au.GK (c:=c1) (c':=c0) rfl hown this q3
 refine(hv c0 w vals (fun _=>rfl) hp hr0 (by simpa using hs) hargs).mono ?_
 rintro e w' ⟨v,r,rfl,k1,k2,k3,hvd,k4⟩
 have hsame:∀g,g<c.hp.size->w'.heap[g]?=c.hp[g]?:=fun g hg=>k1.aD g hg (fun n hm=>by cases hm)
 have lift:∀h2:Heap,aj ⟨c.ρ,c.X,h2,c.hp⟩->(⟨c.ρ,c.X,h2,c.hp⟩:Ctx).le ⟨c.ρ,c.X,h2,w'.heap⟩/\aj ⟨c.ρ,c.X,h2,w'.heap⟩:=by
  intro h2 hr2
  have hle:(⟨c.ρ,c.X,h2,c.hp⟩:Ctx).le ⟨c.ρ,c.X,h2,w'.heap⟩ :=
   ⟨k1.size,rfl,fun g hg _=>hsame g hg,fun g cur ty fr hg=>⟨cur,(hsame g (Array.getElem?_eq_some_iff.1 hg).1).trans hg,rfl⟩,fun g r hg=>⟨r,(hsame g (Array.getElem?_eq_some_iff.1 hg).1).trans hg,rfl⟩,fun _ _=>rfl,fun _=>Trans.refl _,fun n g hm hρ _=>⟨n,hm,hρ⟩⟩
  refine⟨hle,fun n=>gC hle (hr2.slot n) (fun _ _=>rfl) (fun g hm hρ=>hsame g (jw hr2 hm hρ)),hr2.inj,hr2.apart,fun g hX=>Nat.lt_of_lt_of_le (hr2.xlt g hX) k1.size,hr2.fin,hr2.glob.mono hle,Nat.le_trans hr2.lo hle.size⟩
 by_cases hf:r.flat=true\/ds.flatMap D.nm=[]
 ·obtain⟨l1,l2⟩:=lift c.h hr
  have hrelr:au ⟨c.ρ,c.X,c.h,w'.heap⟩ r v:=by
   by_cases hr1:r.flat=true
   ·exact k3.Pn hr1
   ·have hns:ns=[]:=by rcases hf with h|h;exact absurd h hr1;exact h
    have hc1:c1.h=c.h:=by simp only[c1,h1',hns];rfl
    refine au.w7 (c:=⟨c0.ρ,c0.X,c0.h,w'.heap⟩) (c':=⟨c.ρ,c.X,c.h,w'.heap⟩) rfl ?_ k3 hvd
    rintro g hn ho
    refine hn (Or.inl ?_)
    show c1.own g
    rcases ho with hX|⟨n,hm,hρ⟩
    ·exact Or.inl hX
    ·exact Or.inr ⟨n,by rw[hc1];exact hm,hρ⟩
  exact⟨v,r,c.ρ,c.h,rfl,l1,l2,k2,hrelr,k4,fun _=>rfl,fun h=>absurd hf h⟩
 ·obtain⟨l1,l2⟩:=lift h1' g2
  have hrelr:au ⟨c.ρ,c.X,h1',w'.heap⟩ r v:=by
   refine au.w7 (c:=⟨c0.ρ,c0.X,c0.h,w'.heap⟩) (c':=⟨c.ρ,c.X,h1',w'.heap⟩) rfl ?_ k3 hvd
   rintro g hn ho
   exact hn (Or.inl ho)
  exact⟨v,r,c.ρ,h1',rfl,g1.trans l1,l2,k2,hrelr,k4,fun h=>absurd h hf,fun _=>rfl⟩
end Go.Am
namespace Go.Am
open Go
variable [bV]
variable {P:Program}{nt:Nat}
def Arg.reads:Arg->List Nat
 | .t i=>[i]
 | .c _=>[]
def nw:Option Arg->List Nat
 | some a=>a.reads
 | none=>[]
def jq (l:List Arg):List Nat:=l.flatMap Arg.reads
def AOp.reads:AOp->List Nat
 | .mov x=>x.reads
 | .un _ x=>x.reads
 | .conv _ x=>x.reads
 | .ext x _=>x.reads
 | .fld x _ _ _=>x.reads
 | .len x=>x.reads
 | .slen x=>x.reads
 | .fadd x _=>x.reads
 | .ld x _ _=>x.reads
 | .box x=>x.reads
 | .pick a b c=>a.reads++b.reads++c.reads
 | .mn3 a b c=>a.reads++b.reads++c.reads
 | .mx3 a b c=>a.reads++b.reads++c.reads
 | .dead=>[]
 | .mkm _=>[]
 | .look _ x k _ _=>x.reads++k.reads
 | .mupd _ x k v=>x.reads++k.reads++v.reads
 | .bin _ x y=>x.reads++y.reads
 | .eqv _ _ _ x y=>x.reads++y.reads
 | .iadd x y _=>x.reads++y.reads
 | .iadda x y _ _=>x.reads++y.reads
 | .sidx x y _ _ _=>x.reads++y.reads
 | .st x y _=>x.reads++y.reads
 | .mk _ _ _ x y=>x.reads++y.reads
 | .app x y _ _ _=>x.reads++y.reads
 | .cpy x y _=>x.reads++y.reads
 | .mn x y=>x.reads++y.reads
 | .mx x y=>x.reads++y.reads
 | .bld _ ps=>ps.flatMap fun p=>p.2.2.reads
 | .bldS _ _ _ _ ps=>ps.flatMap fun p=>p.2.reads
 | .alloc _=>[]
 | .slz x _=>x.reads
 | .nilq _ x=>x.reads
 | .slc x a b c _=>x.reads++nw a++nw b++nw c
 | .sslc x a b=>x.reads++nw a++nw b
 | .call _ as=>jq as
 | .callv x as=>x.reads++jq as
 | .mkf _ a b=>jq a++jq b
theorem Arg.get_congr {e e':LEnv}{x:Arg}(h:∀i∈x.reads,e.get i=e'.get i):x.get e=x.get e':=by
 cases x with
 | t i=>exact h i (by simp[Arg.reads])
 | c d=>rfl
theorem pr {e e':LEnv}{l:List Arg}(h:∀i,i∈jq l->e.get i=e'.get i):l.map (·.get e)=l.map (·.get e'):=by
 apply List.map_congr_left
 intro x hx
 exact Arg.get_congr fun i hi=>h i (by simp only[jq,List.mem_flatMap];exact⟨x,hx,hi⟩)
theorem nv {e e':LEnv}{x:Option Arg}(h:∀i,i∈nw x->e.get i=e'.get i) (d:Nat) (K:Int->Prop):vopt e x d K=vopt e' x d K:=by
 cases x with
 | none=>rfl
 | some a=>simp only[vopt];rw[Arg.get_congr h]
theorem vr {op:AOp}{e e':LEnv}(h:∀i∈op.reads,e.get i=e'.get i) (K:HK) (hp:Heap):vcOp P op K e hp->vcOp P op K e' hp:=by
 cases op
 case bld zero ps =>
  simp only[AOp.reads,List.mem_flatMap]at h
  have hg:∀p∈ps,p.2.2.get e=p.2.2.get e':=fun p hpm=>Arg.get_congr fun i hi=>h i ⟨p,hpm,hi⟩
  simp only[vcOp,Bk,Jt]
  rintro⟨h1,h2⟩
  refine⟨fun p hpm=>by rw[<- hg p hpm];exact h1 p hpm,?_⟩
  have:(ps.map fun p=>(p.1,p.2.1,(p.2.2.get e').cells))=ps.map fun p=>(p.1,p.2.1,(p.2.2.get e).cells):=List.map_congr_left fun p hpm=>by rw[hg p hpm]
  rw[this];exact h2
 case bldS fz esz len zero ps =>
  simp only[AOp.reads,List.mem_flatMap]at h
  have hg:∀p∈ps,p.2.get e=p.2.get e':=fun p hpm=>Arg.get_congr fun i hi=>h i ⟨p,hpm,hi⟩
  simp only[vcOp,ti,Gu]
  rintro⟨h1,h2,h3⟩
  refine⟨fun p hpm=>by rw[<- hg p hpm];exact h1 p hpm,fun hf p hpm=>by rw[<- hg p hpm];exact h2 hf p hpm,fun n hn=>?_⟩
  have e1:(ps.map fun p=>(p.1,if fz then(p.2.get e').fz hp else p.2.get e'))=ps.map fun p=>(p.1,if fz then(p.2.get e).fz hp else p.2.get e):=List.map_congr_left fun p hpm=>by rw[hg p hpm]
  have e2:(ps.flatMap fun p=>(p.2.get e').nm)=ps.flatMap fun p=>(p.2.get e).nm:=by
   exact congrArg List.flatten (List.map_congr_left (fun p hpm=>by rw[hg p hpm]))
  rw[e1,e2];exact h3 n hn
 case slc x a b c n =>
  simp only[AOp.reads,List.mem_append]at h
  have hx:x.get e=x.get e':=Arg.get_congr fun i hi=>h i (Or.inl (Or.inl (Or.inl hi)))
  have ha:=fun d K=>nv (x:=a) (fun i hi=>h i (Or.inl (Or.inl (Or.inr hi)))) d K
  have hb:=fun d K=>nv (x:=b) (fun i hi=>h i (Or.inl (Or.inr hi))) d K
  have hc:=fun d K=>nv (x:=c) (fun i hi=>h i (Or.inr hi)) d K
  simp only[vcOp,hx,ha,hb,hc]
  exact id
 case sslc x a b =>
  simp only[AOp.reads,List.mem_append]at h
  have hx:x.get e=x.get e':=Arg.get_congr fun i hi=>h i (Or.inl (Or.inl hi))
  have ha:=fun d K=>nv (x:=a) (fun i hi=>h i (Or.inl (Or.inr hi))) d K
  have hb:=fun d K=>nv (x:=b) (fun i hi=>h i (Or.inr hi)) d K
  simp only[vcOp,hx,ha,hb]
  exact id
 case call f as =>
  simp only[AOp.reads]at h
  simp only[vcOp,pr h]
  exact id
 case callv x as =>
  simp only[AOp.reads,List.mem_append]at h
  have hx:x.get e=x.get e':=Arg.get_congr fun i hi=>h i (Or.inl hi)
  have ha:=pr (l:=as) fun i hi=>h i (Or.inr hi)
  simp only[vcOp,hx,ha]
  exact id
 case mkf f a b =>
  simp only[AOp.reads,List.mem_append]at h
  have ha:=pr (l:=a) fun i hi=>h i (Or.inl hi)
  have hb:=pr (l:=b) fun i hi=>h i (Or.inr hi)
  simp only[vcOp,ha,hb]
  exact id
 case alloc z=>exact id
 case pick x y z =>
  simp only[AOp.reads,List.mem_append]at h
  have hx:x.get e=x.get e':=Arg.get_congr fun i hi=>h i (Or.inl (Or.inl hi))
  have hy:y.get e=y.get e':=Arg.get_congr fun i hi=>h i (Or.inl (Or.inr hi))
  have hz:z.get e=z.get e':=Arg.get_congr fun i hi=>h i (Or.inr hi)
  simp only[vcOp,hx,hy,hz]
  exact id
 case mn3 x y z =>
  simp only[AOp.reads,List.mem_append]at h
  have hx:x.get e=x.get e':=Arg.get_congr fun i hi=>h i (Or.inl (Or.inl hi))
  have hy:y.get e=y.get e':=Arg.get_congr fun i hi=>h i (Or.inl (Or.inr hi))
  have hz:z.get e=z.get e':=Arg.get_congr fun i hi=>h i (Or.inr hi)
  simp only[vcOp,hx,hy,hz]
  exact id
 case mx3 x y z =>
  simp only[AOp.reads,List.mem_append]at h
  have hx:x.get e=x.get e':=Arg.get_congr fun i hi=>h i (Or.inl (Or.inl hi))
  have hy:y.get e=y.get e':=Arg.get_congr fun i hi=>h i (Or.inl (Or.inr hi))
  have hz:z.get e=z.get e':=Arg.get_congr fun i hi=>h i (Or.inr hi)
  simp only[vcOp,hx,hy,hz]
  exact id
 case dead=>exact id
 case mkm kt=>exact id
 case look kt x k z ok =>
  simp only[AOp.reads,List.mem_append]at h
  have hx:x.get e=x.get e':=Arg.get_congr fun i hi=>h i (Or.inl hi)
  have hk:k.get e=k.get e':=Arg.get_congr fun i hi=>h i (Or.inr hi)
  simp only[vcOp,hx,hk]
  exact id
 case mupd kt x k v =>
  simp only[AOp.reads,List.mem_append]at h
  have hx:x.get e=x.get e':=Arg.get_congr fun i hi=>h i (Or.inl (Or.inl hi))
  have hk:k.get e=k.get e':=Arg.get_congr fun i hi=>h i (Or.inl (Or.inr hi))
  have hv:v.get e=v.get e':=Arg.get_congr fun i hi=>h i (Or.inr hi)
  simp only[vcOp,hx,hk,hv]
  exact id
 all_goals
  simp only[AOp.reads,List.mem_append]at h
  first
   | (rename_i x y;have hx:x.get e=x.get e':=Arg.get_congr fun i hi=>h i (Or.inl hi);have hy:y.get e=y.get e':=Arg.get_congr fun i hi=>h i (Or.inr hi);simp only[vcOp,hx,hy];exact id)
   | (rename_i x y _;have hx:x.get e=x.get e':=Arg.get_congr fun i hi=>h i (Or.inl hi);have hy:y.get e=y.get e':=Arg.get_congr fun i hi=>h i (Or.inr hi);simp only[vcOp,hx,hy];exact id)
   | (rename_i x y _ _;have hx:x.get e=x.get e':=Arg.get_congr fun i hi=>h i (Or.inl hi);have hy:y.get e=y.get e':=Arg.get_congr fun i hi=>h i (Or.inr hi);simp only[vcOp,hx,hy];exact id)
   | (rename_i x y _ _ _;have hx:x.get e=x.get e':=Arg.get_congr fun i hi=>h i (Or.inl hi);have hy:y.get e=y.get e':=Arg.get_congr fun i hi=>h i (Or.inr hi);simp only[vcOp,hx,hy];exact id)
   | (rename_i x;have hx:x.get e=x.get e':=Arg.get_congr h;simp only[vcOp,hx];exact id)
   | (rename_i x _;have hx:x.get e=x.get e':=Arg.get_congr h;simp only[vcOp,hx];exact id)
   | (rename_i x _ _;have hx:x.get e=x.get e':=Arg.get_congr h;simp only[vcOp,hx];exact id)
   | (rename_i x _ _ _;have hx:x.get e=x.get e':=Arg.get_congr h;simp only[vcOp,hx];exact id)
theorem gp {op:AOp}{e e':LEnv}(h:∀i∈op.reads,e.get i=e'.get i) (K:D->Prop) (hp:Heap):vcdOp P op K e hp->vcdOp P op K e' hp:=by
 cases op
 case bldS fz esz len zero ps =>
  simp only[AOp.reads,List.mem_flatMap]at h
  have hg:∀p∈ps,p.2.get e=p.2.get e':=fun p hpm=>Arg.get_congr fun i hi=>h i ⟨p,hpm,hi⟩
  simp only[vcdOp,ti,ID]
  rintro⟨h1,h2,h3,h4⟩
  refine⟨fun p hpm=>by rw[<- hg p hpm];exact h1 p hpm,fun p hpm=>by rw[<- hg p hpm];exact h2 p hpm,h3,?_⟩
  have e1:(ps.map fun p=>(p.1,p.2.get e'))=ps.map fun p=>(p.1,p.2.get e):=List.map_congr_left fun p hpm=>by rw[hg p hpm]
  rw[e1];exact h4
 case call f as =>
  simp only[AOp.reads]at h
  have hg:∀x∈as,x.get e=x.get e':=fun x hx=>Arg.get_congr fun i hi=>h i (by simp only[jq,List.mem_flatMap];exact⟨x,hx,hi⟩)
  simp only[vcdOp,v8]
  rintro⟨r,h1,h2,h3,h4⟩
  have e1:(as.map fun x=>(x.get e').fz hp)=as.map fun x=>(x.get e).fz hp:=List.map_congr_left fun x hx=>by rw[hg x hx]
  have e2:(as.flatMap fun x=>(x.get e').nm)=as.flatMap fun x=>(x.get e).nm:=congrArg List.flatten (List.map_congr_left (fun x hx=>by rw[hg x hx]))
  refine⟨r,by rw[e1];exact h1,fun x hx=>by rw[<- hg x hx];exact h2 x hx,by rw[e2];exact h3,h4⟩
 case fadd x off =>
  have hx:x.get e=x.get e':=Arg.get_congr h
  simp only[vcdOp,hx]
  exact id
 case mk esz b z l c =>
  simp only[AOp.reads,List.mem_append]at h
  have hx:l.get e=l.get e':=Arg.get_congr fun i hi=>h i (Or.inl hi)
  have hy:c.get e=c.get e':=Arg.get_congr fun i hi=>h i (Or.inr hi)
  simp only[vcdOp,hx,hy]
  exact id
 case nilq neg x =>
  have hx:x.get e=x.get e':=Arg.get_congr h
  simp only[vcdOp,hx]
  exact id
 all_goals exact vr (P:=P) h (fun d _=>K d) hp
def AOp.isVal:AOp->Bool
 | .alloc _=>false
 | .slz _ _=>false
 | .box _=>false
 | .mkm _=>false
 | .mupd _ _ _ _=>false
 | .st _ _ _=>false
 | .app _ _ _ _ _=>false
 | .cpy _ _ _=>false
 | .callv _ _=>false
 | _=>true
def AOp.stable:AOp->Bool
 | .len _=>false
 | .iadd _ _ _=>false
 | .iadda _ _ _ _=>false
 | .ld _ _ _=>false
 | .slc _ _ _ _ _=>false
 | .call _ _=>false
 | .look _ _ _ _ _=>false
 | _=>true
def Ext (h h':Heap):Prop:=∀n,h n≠.free->h' n=h n
def cM (h h':Heap):Prop:=∀n,h n≠.free->h' n≠.free
theorem Ext.box {h h':Heap}(x:Ext h h'):cM h h':=fun n hn=>by rw[x n hn];exact hn
theorem cM.Cu {h:Heap}:cM h h:=fun _ hn=>hn
theorem cM.ah {h h':Heap}(x:cM h h'){n:Nat}{s:Slot}(hs:s≠.free):cM h (Go.Am.ah h' n s):=fun k hk=>by
 by_cases e:k=n
 ·subst e;rw[ad];exact hs
 ·rw[aa _ _ e];exact x k hk
theorem Ext.row {h h':Heap}(x:Ext h h'){n:Nat}{r:Nat×List D}(hr:(h n).row=some r):(h' n).row=some r:=by rw[x n (Slot.fx hr)];exact hr
theorem Ext.live {h h':Heap}(x:Ext h h'){n:Nat}(hl:(h n).live=true):(h' n).live=true:=by
 rw[x n (by intro hf;rw[hf]at hl;cases hl)];exact hl
theorem iH {x:D}{K:Int->Prop}(hv:vint x K):∃i,K i/\∀K':Int->Prop,K' i->vint x K':=by
 cases x<;>first|exact⟨_,hv,fun _ h=>h⟩|exact hv.elim
theorem gl {e:LEnv}{x:Option Arg}{n:Nat}{K:Int->Prop}(hv:vopt e x n K):∃i,K i/\∀K':Int->Prop,K' i->vopt e x n K':=by
 cases x with
 | none=>exact⟨_,hv,fun _ h=>h⟩
 | some a=>exact iH hv
theorem kV {cs:List D}{o n:Nat}{b:Bool}{K:D->Prop}(hv:vpart cs o n b K):∃d,K d/\∀K':D->Prop,K' d->vpart cs o n b K':=by
 unfold vpart at hv
 cases b with
 | true=>simp only[if_true]at hv;exact⟨_,hv.2,fun K' h=>by simp only[vpart,if_true];exact⟨hv.1,h⟩⟩
 | false =>
  simp only[Bool.false_eq_true,if_false]at hv
  cases hd:cs[o]? with
  | none=>simp[hd]at hv
  | some d=>simp only[hd]at hv;exact⟨d,hv,fun K' h=>by simp only[vpart,Bool.false_eq_true,if_false,hd];exact h⟩
theorem HD {op:BinOp}{x y:D}{K:D->Prop}(hv:vbin op x y K):∃d,K d/\∀K':D->Prop,K' d->vbin op x y K':=by
 unfold vbin at hv ⊢
 cases x<;>try exact hv.elim
 ·cases y<;>try exact hv.elim
  cases op<;>simp only at hv ⊢<;>first
   | exact⟨_,hv.2,fun _ h=>⟨hv.1,h⟩⟩
   | exact⟨_,hv.2.2,fun _ h=>⟨hv.1,hv.2.1,h⟩⟩
 ·cases y<;>try exact hv.elim
  cases op<;>simp only at hv ⊢<;>first
   | exact⟨_,hv,fun _ h=>h⟩
   | exact⟨_,hv.2,fun _ h=>⟨hv.1,h⟩⟩
   | exact hv.elim
theorem JS {op:UnOp}{x:D}{K:D->Prop}(hv:vun op x K):∃d,K d/\∀K':D->Prop,K' d->vun op x K':=by
 unfold vun at hv ⊢
 cases op<;>cases x<;>simp only at hv ⊢<;>first|exact⟨_,hv,fun _ h=>h⟩|exact hv.elim
theorem Jq {h h':Heap}(x:Ext h h'){d:D}(hok:jP h d):d.fz h'=d.fz h/\jP h' d:=by
 have cell:∀c:D,lQ h c->c.fzc h'=c.fzc h/\lQ h' c:=by
  intro c hc
  cases c with
  | ms n off len =>
   obtain⟨esz,els,hr,h1,h2⟩:=hc
   exact⟨by simp[D.fzc,hr,x.row hr],esz,els,x.row hr,h1,h2⟩
  | _=>exact⟨rfl,trivial⟩
 constructor
 ·cases d with
  | agg cs =>
   simp only[D.fz]
   congr 1
   exact List.map_congr_left fun c hc=>(cell c (hok c hc)).1
  | ms n off len=>exact(cell (.ms n off len) (hok (.ms n off len) (List.mem_singleton.2 rfl))).1
  | _=>rfl
 ·exact fun c hc=>(cell c (hok c hc)).2
theorem kW {op:AOp}(hval:op.isVal=true){K:D->Prop}{e:LEnv}{h:Heap}(hv:vcdOp P op K e h) :
  ∃d,K d/\∀h',(if op.stable then cM h h' else Ext h h')->∀K':D->Prop,K' d->vcdOp P op K' e h':=by
 cases op<;>simp only[AOp.isVal]at hval<;>try (cases hval;done)
 case mov x=>exact⟨_,hv,fun _ _ _ h=>h⟩
 case dead=>exact(show False from hv).elim
 case look kt x k z ok =>
  simp only[vcdOp,vcOp]at hv ⊢
  obtain⟨h1,h2⟩:=hv
  cases hx:x.get e<;>simp only[hx]at h2 ⊢<;>try exact h2.elim
  rename_i n
  cases hn:h n<;>simp only[hn]at h2<;>try exact h2.elim
  refine⟨_,h2.2,fun h' hx K' hk=>?_⟩
  have hx':Ext h h':=by simpa[AOp.stable] using hx
  rw[hx' n (by rw[hn];simp),hn]
  exact⟨h1,h2.1,hk⟩
 case pick c a b =>
  simp only[vcdOp,vcOp]at hv ⊢
  cases hc:c.get e<;>simp only[hc]at hv ⊢<;>try exact hv.elim
  exact⟨_,hv,fun _ _ _ h=>h⟩
 case bin op x y=>obtain⟨d,h1,h2⟩:=HD hv;exact⟨d,h1,fun _ _ K' h=>h2 K' h⟩
 case un op x=>obtain⟨d,h1,h2⟩:=JS hv;exact⟨d,h1,fun _ _ K' h=>h2 K' h⟩
 case eqv neg agg ks x y =>
  simp only[vcdOp,vcOp,veqv]at hv ⊢
  cases hc:eqCells ks (x.get e).cells (y.get e).cells<;>simp only[hc]at hv ⊢
  ·exact hv.2.2.elim
  ·exact⟨_,hv.2.2,fun _ _ _ h=>⟨hv.1,hv.2.1,h⟩⟩
 case conv k x=>obtain⟨i,h1,h2⟩:=iH hv;exact⟨_,h1,fun _ _ K' h=>h2 _ h⟩
 case ext x i =>
  simp only[vcdOp,vcOp]at hv ⊢
  cases hc:x.get e<;>simp only[hc]at hv ⊢<;>try exact hv.elim
  rename_i ds
  cases hd:ds[i]?<;>simp only[hd]at hv ⊢
  exact⟨_,hv,fun _ _ _ h=>h⟩
 case fld x off size agg =>
  simp only[vcdOp,vcOp]at hv ⊢
  cases hc:x.get e<;>simp only[hc]at hv ⊢<;>try exact hv.elim
  obtain⟨d,h1,h2⟩:=kV hv
  exact⟨d,h1,fun _ _ K' h=>h2 K' h⟩
 case bld zero ps=>exact⟨_,hv.2,fun _ _ _ h=>⟨hv.1,h⟩⟩
 case bldS fz esz len zero ps=>exact⟨_,hv.2.2.2,fun _ _ _ h=>⟨hv.1,hv.2.1,hv.2.2.1,h⟩⟩
 case mk esz b z l c =>
  obtain⟨i,h1,h2⟩:=iH (show vint (l.get e) _ from hv)
  obtain⟨j,g1,g2⟩:=iH h1
  exact⟨_,g1.2.2,fun h' _ K' hk=>h2 _ (g2 _ ⟨g1.1,g1.2.1,hk⟩)⟩
 case len x =>
  simp only[vcdOp,vcOp,bR]at hv ⊢
  cases hc:x.get e<;>simp only[hc]at hv ⊢<;>try exact hv.elim
  ·exact⟨_,hv,fun _ _ _ h=>h⟩
  ·exact⟨_,hv,fun _ _ _ h=>h⟩
  ·exact⟨_,hv.2,fun _ hx _ h=>⟨Ext.live (by simpa[AOp.stable] using hx) hv.1,h⟩⟩
 case slen x =>
  simp only[vcdOp,vcOp]at hv ⊢
  cases hc:x.get e<;>simp only[hc]at hv ⊢<;>try exact hv.elim
  exact⟨_,hv,fun _ _ _ h=>h⟩
 case fadd x off =>
  simp only[vcdOp]at hv ⊢
  cases hc:x.get e<;>simp only[hc]at hv ⊢<;>try exact hv.elim
  ·obtain⟨hb,hk⟩:=hv
   exact⟨_,hk,fun _ hx _ h=>⟨Slot.O6 ((show cM _ _ from by simpa[AOp.stable] using hx) _ (Slot.PM hb)),h⟩⟩
  ·exact⟨_,hv,fun _ _ _ h=>h⟩
 case iadd x i esz =>
  obtain⟨n,h1,h2⟩:=iH (show vint (i.get e) _ from hv)
  cases hc:x.get e<;>simp only[hc]at h1<;>try exact h1.elim
  ·rename_i xs
   obtain⟨a1,a2,a3⟩:=h1
   have hd:xs[n.toNat]?=some (xs[n.toNat]'(by omega)):=by rw[List.getElem?_eq_getElem]
   obtain⟨b1,b2⟩:=a3 _ hd
   refine⟨_,b2,fun h' _ K' hk=>h2 _ ?_⟩
   simp only[hc]
   refine⟨a1,a2,fun d hd'=>?_⟩
   rw[hd]at hd'
   cases hd'
   exact⟨b1,hk⟩
  ·obtain⟨a1,a2,⟨els,a3⟩,a4⟩:=h1
   refine⟨_,a4,fun h' hx K' hk=>h2 _ ?_⟩
   simp only[hc]
   exact⟨a1,a2,⟨els,Ext.row (by simpa[AOp.stable] using hx) a3⟩,hk⟩
 case iadda x i len esz =>
  obtain⟨n,h1,h2⟩:=iH (show vint (i.get e) _ from hv)
  cases hc:x.get e<;>simp only[hc]at h1<;>try exact h1.2.2.elim
  ·obtain⟨a1,a2,a3,a4⟩:=h1
   refine⟨_,a4,fun h' hx K' hk=>h2 _ ?_⟩
   simp only[hc]
   exact⟨a1,a2,Ext.live (by simpa[AOp.stable] using hx) a3,hk⟩
  ·obtain⟨a1,a2,a4⟩:=h1
   refine⟨_,a4,fun h' hx K' hk=>h2 _ ?_⟩
   simp only[hc]
   exact⟨a1,a2,hk⟩
 case sidx x i len size agg =>
  obtain⟨n,h1,h2⟩:=iH (show vint (i.get e) _ from hv)
  cases hc:x.get e<;>simp only[hc]at h1<;>try exact h1.elim
  ·rename_i s
   obtain⟨a0,a1,a2,a3⟩:=h1
   have hlt:n.toNat<s.size:=by omega
   have hb:s[n.toNat]?=some s[n.toNat]:=by rw[getElem?_pos s n.toNat hlt]
   refine⟨_,a3 _ hb,fun h' _ K' hk=>h2 _ ?_⟩
   simp only[hc]
   refine⟨a0,a1,a2,fun b hb'=>?_⟩
   rw[hb]at hb'
   cases hb'
   exact hk
  ·obtain⟨a0,a1,a2,a3⟩:=h1
   obtain⟨d,g1,g2⟩:=kV a3
   refine⟨_,g1,fun h' _ K' hk=>h2 _ ?_⟩
   simp only[hc]
   exact⟨a0,a1,a2,g2 K' hk⟩
 case ld x size agg =>
  simp only[vcdOp,vcOp]at hv ⊢
  cases hc:x.get e<;>simp only[hc]at hv ⊢<;>try exact hv.elim
  ·rename_i n i j
   cases hn:h n<;>simp only[hn]at hv<;>try exact hv.elim
   ·obtain⟨a1,a2⟩:=hv
    obtain⟨d,b1,b2⟩:=kV a2
    refine⟨d,b1,fun h' hx K' hk=>?_⟩
    have hx':Ext h h':=by simpa[AOp.stable] using hx
    rw[hx' n (by rw[hn];simp),hn]
    exact⟨a1,b2 K' hk⟩
   ·obtain⟨a1,a2⟩:=hv
    rename_i esz els
    have hd:els[i]?=some (els[i]'a1):=by rw[List.getElem?_eq_getElem]
    obtain⟨d,b1,b2⟩:=kV (a2 _ hd)
    refine⟨d,b1,fun h' hx K' hk=>?_⟩
    have hx':Ext h h':=by simpa[AOp.stable] using hx
    rw[hx' n (by rw[hn];simp),hn]
    refine⟨a1,fun y hy=>?_⟩
    rw[hd]at hy
    cases hy
    exact b2 K' hk
   ·obtain⟨a1,a2⟩:=hv
    rename_i esz els
    have hd:els[i]?=some (els[i]'a1):=by rw[List.getElem?_eq_getElem]
    obtain⟨d,b1,b2⟩:=kV (a2 _ hd)
    refine⟨d,b1,fun h' hx K' hk=>?_⟩
    have hx':Ext h h':=by simpa[AOp.stable] using hx
    rw[hx' n (by rw[hn];simp),hn]
    refine⟨a1,fun y hy=>?_⟩
    rw[hd]at hy
    cases hy
    exact b2 K' hk
  ·obtain⟨d,b1,b2⟩:=kV hv
   exact⟨d,b1,fun _ _ K' hk=>b2 K' hk⟩
 case slc x lo hi mx esz =>
  simp only[vcdOp,vcOp]at hv ⊢
  cases hc:x.get e<;>simp only[hc]at hv ⊢<;>try exact hv.elim
  ·obtain⟨l,h1,l2⟩:=gl hv
   obtain⟨r,h1,r2⟩:=gl h1
   obtain⟨m,h1,m2⟩:=gl h1
   obtain⟨a1,a2,a3,a4⟩:=h1
   exact⟨_,a4,fun h' _ K' hk=>l2 _ (r2 _ (m2 _ ⟨a1,a2,a3,hk⟩))⟩
  ·obtain⟨l,h1,l2⟩:=gl hv
   obtain⟨r,h1,r2⟩:=gl h1
   obtain⟨m,h1,m2⟩:=gl h1
   obtain⟨a1,a2,a3,a4,a5,a6⟩:=h1
   exact⟨_,a6,fun h' _ K' hk=>l2 _ (r2 _ (m2 _ ⟨a1,a2,a3,a4,a5,hk⟩))⟩
  ·obtain⟨l,h1,l2⟩:=gl hv
   obtain⟨r,h1,r2⟩:=gl h1
   obtain⟨m,h1,m2⟩:=gl h1
   obtain⟨a1,a2,a3,a4,⟨els,a5⟩,a6⟩:=h1
   exact⟨_,a6,fun h' hx K' hk=>l2 _ (r2 _ (m2 _ ⟨a1,a2,a3,a4,⟨els,Ext.row (by simpa[AOp.stable] using hx) a5⟩,hk⟩))⟩
 case nilq neg x =>
  simp only[vcdOp,vcOp]at hv ⊢
  cases hc:x.get e<;>simp only[hc]at hv ⊢<;>try exact hv.elim
  ·exact⟨_,hv,fun _ _ _ h=>h⟩
  ·rename_i xs
   cases xs with
   | nil=>exact hv.elim
   | cons d r=>exact⟨_,hv,fun _ _ _ h=>h⟩
 case sslc x lo hi =>
  simp only[vcdOp,vcOp]at hv ⊢
  cases hc:x.get e<;>simp only[hc]at hv ⊢<;>try exact hv.elim
  obtain⟨l,h1,l2⟩:=gl hv
  obtain⟨r,h1,r2⟩:=gl h1
  obtain⟨a1,a2,a3,a4⟩:=h1
  exact⟨_,a4,fun h' _ K' hk=>l2 _ (r2 _ ⟨a1,a2,a3,hk⟩)⟩
 case call f as =>
  simp only[vcdOp,v8]at hv ⊢
  obtain⟨r,h1,h2,h3,h4⟩:=hv
  refine⟨r,h4,fun h' hx K' hk=>?_⟩
  have hx':Ext h h':=by simpa[AOp.stable] using hx
  have e1:(as.map fun x=>(x.get e).fz h')=as.map fun x=>(x.get e).fz h:=List.map_congr_left fun x hm=>(Jq hx' (h2 x hm).2.1).1
  refine⟨r,by rw[e1];exact h1,fun x hm=>⟨(h2 x hm).1,(Jq hx' (h2 x hm).2.1).2,by rw[(Jq hx' (h2 x hm).2.1).1];exact(h2 x hm).2.2⟩,h3.imp id (fun hz n hn=>by
   obtain⟨e1,e2,e3⟩:=hz n hn
   exact⟨e1,e2,by rw[hx' n (by rw[e3];simp)];exact e3⟩),hk⟩
 case mkf f a b=>exact⟨_,hv,fun _ _ _ h=>h⟩
 case mn x y =>
  simp only[vcdOp,vcOp]at hv ⊢
  cases hc:x.get e<;>simp only[hc]at hv ⊢<;>try exact hv.elim
  cases hd:y.get e<;>simp only[hd]at hv ⊢<;>try exact hv.elim
  exact⟨_,hv.2,fun _ _ _ h=>⟨hv.1,h⟩⟩
 case mx x y =>
  simp only[vcdOp,vcOp]at hv ⊢
  cases hc:x.get e<;>simp only[hc]at hv ⊢<;>try exact hv.elim
  cases hd:y.get e<;>simp only[hd]at hv ⊢<;>try exact hv.elim
  exact⟨_,hv.2,fun _ _ _ h=>⟨hv.1,h⟩⟩
 case mn3 x y z =>
  simp only[vcdOp,vcOp]at hv ⊢
  cases hc:x.get e<;>simp only[hc]at hv ⊢<;>try exact hv.elim
  cases hd:y.get e<;>simp only[hd]at hv ⊢<;>try exact hv.elim
  cases hz:z.get e<;>simp only[hz]at hv ⊢<;>try exact hv.elim
  exact⟨_,hv.2.2,fun _ _ _ h=>⟨hv.1,hv.2.1,h⟩⟩
 case mx3 x y z =>
  simp only[vcdOp,vcOp]at hv ⊢
  cases hc:x.get e<;>simp only[hc]at hv ⊢<;>try exact hv.elim
  cases hd:y.get e<;>simp only[hd]at hv ⊢<;>try exact hv.elim
  cases hz:z.get e<;>simp only[hz]at hv ⊢<;>try exact hv.elim
  exact⟨_,hv.2.2,fun _ _ _ h=>⟨hv.1,hv.2.1,h⟩⟩
end Go.Am
namespace Go.Am
open Go
variable [bV]
variable {P:Program}{nt:Nat}
theorem Rk {o:Oper}{t elem:TypeId}{len esz:Nat}{ps:Array (Nat×Operand)}{qs:List (Nat×Arg)}{zd:D}(ho:o.op=.buildSlice t len ps) (hu:P.underlying t=some (.slice elem))
  (ht:(P.info? elem).map (·.size)=some esz) (hpos:0<esz) (hz:dZ P elem=some zd) (hsz:zd.cells.length=esz) (hq:cPartsS len ps.toList=some qs) (hmax:len*esz<=16777216)
  (hd:∀i,o.dst=some i->i<nt) {K:D->Prop}{e:LEnv}{h:Heap}{fz:Bool}(hv:vcdOp P (.bldS fz esz len zd qs) K e h) :
  Gw P nt o (fun t' h'=>∃d,t'=(e.put o.dst d).get/\K d/\h'=h) e.get h:=by
 obtain⟨z,hz1,hz2⟩:=fG hz
 intro hnd r c w a Q hh hp hr hs
 subst hh
 simp only[vcdOp,ti,ID]at hv
 obtain⟨hparts,hvone,hzone,hk⟩:=hv
 obtain⟨hlen,hspec⟩:=po hq
 have hpart:∀(k:Nat) (p:Nat×Operand) (q:Nat×Arg),ps.toList[k]?=some p->qs[k]?=some q->au c (q.2.get e) (a.eval p.2)/\aw (q.2.get e)/\(q.2.get e).cells.length=esz:=by
  intro k p q hpk hqk
  obtain⟨_,s2,_⟩:=hspec k p q hpk hqk
  obtain⟨_,q2,q3⟩:=hparts q (List.mem_of_getElem? hqk)
  exact⟨aB s2 hs,q3,q2⟩
 let els:=setEls (List.replicate len zd) (qs.map fun p=>(p.1,p.2.get e))
 have huni0:∀e,e∈List.replicate len zd->e.cells.length=esz:=fun e he=>by rw[List.eq_of_mem_replicate he];exact hsz
 have hDlen:∀p,p∈qs.map (fun p=>(p.1,p.2.get e))->p.2.cells.length=esz/\p.1<(List.replicate len zd).length:=by
  intro p hpm
  simp only[List.mem_map]at hpm
  obtain⟨q,hqm,rfl⟩:=hpm
  exact⟨(hparts q hqm).2.1,by simp;exact(hparts q hqm).1⟩
 have huni:∀e∈els,e.cells.length=esz:=vD _ huni0 (fun p hp=>(hDlen p hp).1)
 have hels:els.length=len:=by simp only[els];rw[vE];simp
 have hzr:=cW (hY hz2 c) (fy hz2)
 let vs0:=(Array.range (len*esz)).map (fun k=>z.cells[k % z.cells.size]!)
 let vals:List (Nat×Value):=ps.toList.map fun p=>(p.1,a.eval p.2)
 obtain⟨cells',g1,g2,g3⟩:=EO (c:=c) (fun i=>some (i*esz,esz)) vals ((qs.map fun p=>(p.1,p.2.get e)).map fun p=>(p.1*esz,esz,p.2.cells)) vs0 (flat (List.replicate len zd)) (F0 hzr hsz hpos)
  (by simp[vals,hlen]) (by
   intro k p q hpk hqk
   simp only[vals,List.getElem?_map,Option.map_eq_some_iff]at hpk hqk
   obtain⟨p',hp',rfl⟩:=hpk
   obtain⟨q'',⟨q',hq',rfl⟩,rfl⟩:=hqk
   obtain⟨s1,s2,s3⟩:=hspec k p' q' hp' hq'
   obtain⟨f1,f2,f3⟩:=hpart k p' q' hp' hq'
   refine⟨by simp[s1],cW f1 f2,f3,?_⟩
   rw[bu huni0]
   simp only[List.length_replicate]
   have:=Nat.mul_le_mul_right esz (show q'.1+1<=len from s3)
   rw[Nat.add_mul]at this
   omega)
 rw[v5 _ huni0 hDlen]at g2
 have hc':cells'.size=len*esz:=by
  have:=g2.len
  rw[bu huni,hels]at this
  simpa using this
 have hrun:(execOp a.eval o).run P w=.ok (.value (.slice (some ⟨w.heap.size,0,none⟩) len len)) (w.alloc (.cells cells' elem)):=by
  have hvs:ps.map (fun(i,x)=>(i,a.eval x))=vals.toArray:=by apply Array.ext';simp[vals]
  by_cases h0:len*esz=0
  ·have hv0:vs0 = #[]:=by apply Array.eq_empty_of_size_eq_zero;simp[vs0,h0]
   rw[hv0]at g1
   simp[execOp,ho,hvs,Instr.buildSlice,run_underlying hu,run_sizeOf ht,h0,Array.range_zero',g1,cZ]
  ·simp[execOp,ho,hvs,Instr.buildSlice,run_underlying hu,run_sizeOf ht,h0,show ¬(16777216<len*esz) by omega,bT hz1,vs0]at g1 ⊢
   simp[g1,cZ]
 have hgrow:=tf hr (.cells cells' elem)
 have heap:(w.alloc (.cells cells' elem)).heap=c.hp.push (.cells cells' elem):=by rw[hp];rfl
 have hvone':∀i j d,aU els i j=some d->d.vone=true:=by
  have mem:∀(l:List (Nat×D)) (e0:List D),(∀y∈e0,∀x∈y.cells,x.vone=true)->(∀p∈l,∀x∈p.2.cells,x.vone=true)->∀y,y∈setEls e0 l->∀x∈y.cells,x.vone=true:=by
   intro l
   induction l with
   | nil=>intro e0 h1 _;exact h1
   | cons p r ih =>
    intro e0 h1 h2
    obtain⟨i,d⟩:=p
    refine ih _ (fun y hy=>?_) (fun q hq=>h2 q (by simp[hq]))
    rcases List.mem_or_eq_of_mem_set hy with h|h
    ·exact h1 y h
    ·rw[h];exact h2 (i,d) (by simp)
  intro i j d hd
  unfold aU at hd
  cases hz:els[i]? with
  | none=>simp[hz]at hd
  | some y =>
   simp only[hz,Option.bind_some]at hd
   refine mem _ _ (fun y hy=>by rw[List.eq_of_mem_replicate hy];exact hzone) (fun p hpm=>?_) y (List.mem_of_getElem? hz) d (List.mem_of_getElem? hd)
   simp only[List.mem_map]at hpm
   obtain⟨q,hqm,rfl⟩:=hpm
   exact hvone q hqm
 have hrel:au ⟨c.ρ,c.X,c.h,c.hp.push (.cells cells' elem)⟩ (.sl els) (.slice (some ⟨w.heap.size,0,none⟩) len len):=by
  have hml:len<=maxLen:=by unfold maxLen;have:=Nat.le_mul_of_pos_right len hpos;omega
  by_cases h0:len=0
  ·have:els=[]:=List.eq_nil_of_length_eq_zero (by omega)
   rw[this,h0]
   exact .slE _ _ (by simp[maxLen])
  ·have:=au.sl (c:=⟨c.ρ,c.X,c.h,c.hp.push (.cells cells' elem)⟩) els w.heap.size 0 len esz (fun i j=>cells'.getD (i*esz+j) Go.undef) (by intro e0;rw[e0]at hels;simp at hels;omega) (by omega) hml hpos huni hvone'
    (fun i j d hd=>by
     rw[Nat.zero_add]
     refine gx (ty:=elem) (fr:=(0,0)) (by simp only;rw[<- hp];exact gq _ _) ?_
     have:=(List.getElem?_eq_some_iff.1 (fP huni hd)).1
     rw[bu huni,hels]at this
     omega) ?_ (fun i j d hd=>by
     obtain⟨_,p2⟩:=g2.rel _ d (fP huni hd)
     rw[aI]at p2
     exact p2.mono hgrow.1)
   ·rw[hels]at this;exact this
   ·rintro (hX|⟨n,hm,hρ⟩)
    ·have:=hr.xlt _ hX;rw[hp]at this;omega
    ·have:=jw hr hm hρ;rw[hp]at this;omega
 refine gE hnd hrun ?_
 refine⟨c.ρ,(e.put o.dst (.sl els)).get,c.h,by rw[heap];exact hgrow.1,by rw[heap];exact hgrow.2,⟨rfl,rfl,rfl⟩,?_,.sl els,rfl,hk,rfl⟩
 rw[heap,LEnv.bo]
 exact(hs.mono hgrow.1).put hd hrel
theorem Um {o:Oper}{t elem:TypeId}{x y:Operand}{x' y':Arg}{i:TypeInfo}{zd:D}(ho:o.op=.makeSlice t x y) (hx:cArg x=some x') (hy:cArg y=some y') (hd:∀i,o.dst=some i->i<nt)
  (hu:P.underlying t=some (.slice elem)) (hi:P.info? elem=some i) (hz:dZ P elem=some zd) (hsz:zd.cells.length=i.size) (hpos:0<i.size) {K:D->Prop}{e:LEnv}{h:Heap}(hv:vcdOp P (.mk i.size i.bytes zd x' y') K e h) :
  Gw P nt o (fun t' h'=>∃d,t'=(e.put o.dst d).get/\K d/\h'=h) e.get h:=by
 obtain⟨z,hz1,hz2⟩:=fG hz
 intro hnd r c w a Q hh hp hr hs
 subst hh
 simp only[vcdOp]at hv
 have rx:=aB hx hs
 have ry:=aB hy hs
 generalize hgx:x'.get e=dx at hv rx
 generalize hgy:y'.get e=dy at hv ry
 unfold vint at hv
 split at hv
 case h_2=>exact hv.elim
 rename_i k l
 split at hv
 case h_2=>exact hv.elim
 rename_i k' m
 obtain⟨⟨h0,h1,h2,h3⟩,⟨_,hvone⟩,hk⟩:=hv
 have ex:=gd rx
 have ey:=gd ry
 have hzr:=cW (hY hz2 c) (fy hz2)
 have hzs:z.cells.size=i.size:=by rw[<- hsz, <- hzr.len];simp
 have wl:IntKind.i64.wrap l=l:=by unfold IntKind.wrap IntKind.bits IntKind.signed;simp;omega
 have wm:IntKind.i64.wrap m=m:=by unfold IntKind.wrap IntKind.bits IntKind.signed;simp;omega
 have hb0:¬(m<0):=by omega
 have hb1:¬((i.bytes:Int)*m>281474976710656):=by rw[Int.mul_comm];omega
 have hb2:¬(l<0):=by omega
 have hb3:¬(l>m):=by omega
 have hroom:¬(m.toNat*i.bytes>140737488355328):=by
  have:((m.toNat*i.bytes:Nat):Int)=m*i.bytes:=by simp[Int.toNat_of_nonneg (by omega:0<=m)]
  omega
 let vs:=(Array.range (m.toNat*i.size)).map (fun k=>z.cells[k % z.cells.size]!)
 have hvs:vs.size=m.toNat*i.size:=by simp[vs]
 have hle2:l.toNat*i.size<=m.toNat*i.size:=Nat.mul_le_mul_right _ (by omega)
 have hrun:(execOp a.eval o).run P w=.ok (.value (.slice (some ⟨w.heap.size,0,none⟩) l.toNat m.toNat)) (w.alloc (.cells vs elem)):=by
  have hs2:(P.info? elem).map (·.size)=some i.size:=by simp[hi]
  by_cases h:m.toNat*i.size=0
  ·have hv0:vs = #[]:=by apply Array.eq_empty_of_size_eq_zero;omega
   rw[hv0]
   simp[execOp,ho,ex,ey,Instr.makeSlice,run_underlying hu,asInt,asIntOf,run_typeInfo hi,wl,wm,hb0,hb1,hb2,hb3,askRoom,hroom,run_sizeOf hs2,h,cZ,Array.range_zero']
  ·simp[execOp,ho,ex,ey,Instr.makeSlice,run_underlying hu,asInt,asIntOf,run_typeInfo hi,wl,wm,hb0,hb1,hb2,hb3,askRoom,hroom,run_sizeOf hs2,h,bT hz1,cZ,vs]
 have hgrow:=tf hr (.cells vs elem)
 have heap:(w.alloc (.cells vs elem)).heap=c.hp.push (.cells vs elem):=by rw[hp];rfl
 have hrel:au ⟨c.ρ,c.X,c.h,c.hp.push (.cells vs elem)⟩ (.sl (List.replicate l.toNat zd)) (.slice (some ⟨w.heap.size,0,none⟩) l.toNat m.toNat):=by
  have hml:m.toNat<=maxLen:=by unfold maxLen;omega
  by_cases hl0:l.toNat=0
  ·rw[hl0]
   exact .slE _ _ hml
  ·have hin:∀(a b:Nat) (d:D),aU (List.replicate l.toNat zd) a b=some d->a<l.toNat/\b<i.size/\zd.cells[b]?=some d/\a*i.size+b<m.toNat*i.size:=by
    intro a b d hd
    obtain⟨q1,q2⟩:=jo hd
    have hb:b<i.size:=by rw[<- hsz];exact(List.getElem?_eq_some_iff.1 q2).1
    have hal:a<l.toNat:=by
     unfold aU at hd
     cases hz:(List.replicate l.toNat zd)[a]? with
     | none=>simp[hz]at hd
     | some y=>simpa using (List.getElem?_eq_some_iff.1 hz).1
    have:(a+1)*i.size<=l.toNat*i.size:=Nat.mul_le_mul_right _ (by omega)
    rw[Nat.add_mul]at this
    exact⟨hal,hb,q2,by omega⟩
   have:=au.sl (c:=⟨c.ρ,c.X,c.h,c.hp.push (.cells vs elem)⟩) (List.replicate l.toNat zd) w.heap.size 0 m.toNat i.size (fun a b=>vs.getD (a*i.size+b) Go.undef) (by intro e0;have:=congrArg List.length e0;simp at this;omega) (by simp;omega) hml hpos
    (fun e he=>by rw[List.eq_of_mem_replicate he];exact hsz) (fun a b d hd=>hvone d (List.mem_of_getElem? (hin a b d hd).2.2.1))
    (fun a b d hd=>by
     rw[Nat.zero_add]
     refine gx (ty:=elem) (fr:=(0,0)) (by simp only;rw[<- hp];exact gq _ _) ?_
     rw[hvs];exact(hin a b d hd).2.2.2) ?_ (fun a b d hd=>by
     obtain⟨q0,hb,q2,hlt⟩:=hin a b d hd
     obtain⟨p1,p2⟩:=hzr.rel b d q2
     rw[EB z.cells (by omega) _ _ hlt,hzs]
     have:(a*i.size+b) % i.size=b:=by
      rw[Nat.mul_comm,Nat.mul_add_mod]
      exact Nat.mod_eq_of_lt hb
     rw[this, <- aI]
     exact p2.mono hgrow.1)
   ·simpa using this
   ·rintro (hX|⟨n,hm,hρ⟩)
    ·have:=hr.xlt _ hX;rw[hp]at this;omega
    ·have:=jw hr hm hρ;rw[hp]at this;omega
 refine gE hnd hrun ?_
 refine⟨c.ρ,(e.put o.dst (.sl (List.replicate l.toNat zd))).get,c.h,by rw[heap];exact hgrow.1,by rw[heap];exact hgrow.2,⟨rfl,rfl,rfl⟩,?_,.sl (List.replicate l.toNat zd),rfl,hk,rfl⟩
 rw[heap,LEnv.bo]
 exact(hs.mono hgrow.1).put hd hrel
theorem KW {op:AOp}(hval:op.isVal=true) (hb:∀a b c d e,op≠.bldS a b c d e) (hc:∀f as,op≠.call f as) (hmk:∀a b c d e,op≠.mk a b c d e){K:HK}{e:LEnv}{h:Heap}(hv:vcOp P op (fun d _=>K d h) e h):vcOp P op K e h:=by
 cases op<;>simp only[AOp.isVal]at hval<;>first
  | (cases hval;done)
  | exact hv
  | exact absurd rfl (hb _ _ _ _ _)
  | exact absurd rfl (hc _ _)
  | exact absurd rfl (hmk _ _ _ _ _)
def AOp.plainVal:AOp->Bool
 | .bldS _ _ _ _ _=>false
 | .mk _ _ _ _ _=>false
 | .call _ _=>false
 | op=>op.isVal
def cdOp (P:Program) (o:Oper):Option AOp :=
 match o.op with
 | .buildSlice t len ps=>match P.underlying t with
  | some (.slice e)=>match (P.info? e).map (·.size),dZ P e,cPartsS len ps.toList with
   | some n,some z,some qs=>if 0<n/\z.cells.length=n/\len*n<=16777216 then some (.bldS false n len z qs) else none
   | _,_,_=>none
  | _=>none
 | .call { callee:=.value (.func f),args:=args,argTypes:=_ }=>if dW P f then(args.toList.mapM cArg).map (.call f) else none
 | .makeSlice t x y=>match P.underlying t with
  | some (.slice e)=>match P.info? e,dZ P e,cArg x,cArg y with
   | some i,some z,some x,some y=>if z.cells.length=i.size/\0<i.size then some (.mk i.size i.bytes z x y) else none
   | _,_,_,_=>none
  | _=>none
 | _=>match cOp P false o with
  | some op=>if op.plainVal then some op else none
  | none=>none
theorem O5 {o:Oper}{op:AOp}(hcop:cOp P false o=some op) (hpl:op.plainVal=true) (hd:∀i,o.dst=some i->i<nt){K:D->Prop}{e:LEnv}{h:Heap}(hv:vcdOp P op K e h) :
  Gw P nt o (fun t' h'=>∃d,t'=(e.put o.dst d).get/\K d/\h'=h) e.get h:=by
 have hval:op.isVal=true:=by cases op<;>simp_all [AOp.plainVal,AOp.isVal]
 have plain:vcOp P op (fun d _=>K d/\h=h) e h->Gw P nt o (fun t' h'=>∃d,t'=(e.put o.dst d).get/\K d/\h'=h) e.get h:=by
  intro hv
  have:=nE (nt:=nt) hcop hd (fun d h'=>K d/\h'=h) e h (KW hval (by rintro a b c d e rfl;simp[AOp.plainVal]at hpl) (by rintro f as rfl;simp[AOp.plainVal]at hpl) (by rintro a b c d e rfl;simp[AOp.plainVal]at hpl) hv)
  refine gz ?_ this
  rintro t' h' ⟨d,rfl,hk,rfl⟩
  exact⟨d,rfl,hk,rfl⟩
 obtain⟨d,hk,hdet⟩:=kW hval hv
 have again:=hdet h (by split;exact cM.Cu;exact fun n _=>rfl) (fun d=>K d/\h=h) ⟨hk,rfl⟩
 cases op<;>simp only[AOp.plainVal,AOp.isVal]at hpl<;>try (cases hpl;done)
 case fadd x off =>
  refine plain ?_
  simp only[vcdOp]at again
  simp only[vcOp]
  cases hx:x.get e<;>simp only[hx]at again ⊢<;>try exact again.elim
  ·exact again
  ·exact again
 case nilq neg x =>
  refine plain ?_
  simp only[vcdOp]at again
  simp only[vcOp]
  cases hx:x.get e<;>simp only[hx]at again ⊢<;>try exact again.elim
  ·exact again
  ·rename_i xs
   cases xs with
   | nil=>exact again.elim
   | cons d r=>exact again
 all_goals exact plain again
theorem rH:∀(ns:List Nat){h:Heap},OT h ns->h.freezeAll ns=h
 | [],_,_=>rfl
 | n::r,h,hz=>by
  obtain⟨e,l,hn⟩:=hz n (List.mem_cons_self)
  have:h.freeze n=h:=by unfold Heap.freeze;rw[hn]
  simp only[Heap.freezeAll,this]
  exact rH r fun m hm=>hz m (List.mem_cons_of_mem _ hm)
theorem Rj {o:Oper}{f:FuncId}{args:Array Operand}{ats:Array TypeId}{args':List Arg}(ho:o.op=.call { callee:=.value (.func f),args:=args,argTypes:=ats }) (ha:args.toList.mapM cArg=some args')
  (hd:∀i,o.dst=some i->i<nt) (hf:dW P f=true) {K:D->Prop}{e:LEnv}{h:Heap}(hv:vcdOp P (.call f args') K e h) :
  Gw P nt o (fun t' h'=>∃d,t'=(e.put o.dst d).get/\K d/\h'=h) e.get h:=by
 simp only[vcdOp,v8]at hv
 obtain⟨r,h1,h2,h3,h4⟩:=hv
 have hac:ag P f (args'.map (·.get e)) h fun d h'=>K d/\h'=h:=by
  refine ag.mono ?_ (gA (ds:=args'.map (·.get e)) (K:=(· = r)) (by rw[List.map_map];exact h1) (fun d hd=>?_))
  ·rintro d h' ⟨rfl,k1,k2⟩
   refine⟨h4,?_⟩
   by_cases hc:d.flat=true\/(args'.map (·.get e)).flatMap D.nm=[]
   ·exact k1 hc
   ·rw[k2 hc]
    rcases h3 with h3|h3
    ·exact absurd (Or.inl h3) hc
    ·refine rH _ fun n hn=>h3 n ?_
     rw[List.flatMap_map]at hn
     exact hn
  ·simp only[List.mem_map]at hd
   obtain⟨x,hx,rfl⟩:=hd
   exact h2 x hx
 have:=ME (nt:=nt) ho ha hd hf (fun d h'=>K d/\h'=h) e h hac
 refine gz ?_ this
 rintro t' h' ⟨d,rfl,hk,rfl⟩
 exact⟨d,rfl,hk,rfl⟩
theorem v7 {o:Oper}{op:AOp}(hc:cdOp P o=some op) (hd:∀i,o.dst=some i->i<nt){K:D->Prop}{e:LEnv}{h:Heap}(hv:vcdOp P op K e h) :
  Gw P nt o (fun t' h'=>∃d,t'=(e.put o.dst d).get/\K d/\h'=h) e.get h:=by
 unfold cdOp at hc
 split at hc
 ·rename_i t len ps ho
  split at hc
  ·rename_i el hu
   split at hc
   ·rename_i h1 h2 h3
    split at hc
    ·rename_i hcc
     simp at hc;subst hc
     exact Rk ho hu h1 hcc.1 h2 hcc.2.1 h3 hcc.2.2 hd hv
    ·cases hc
   ·cases hc
  ·cases hc
 ·rename_i f args ats ho
  split at hc
  ·rename_i hf
   simp at hc;obtain⟨ys,hy,rfl⟩:=hc
   exact Rj ho hy hd hf hv
  ·cases hc
 ·rename_i t x y ho
  split at hc
  ·rename_i el hu
   split at hc
   ·rename_i i z x' y' h1 h2 h3 h4
    split at hc
    ·rename_i hcc
     simp at hc;subst hc
     exact Um ho h3 h4 hd hu h1 h2 hcc.1 hcc.2 hv
    ·cases hc
   ·cases hc
  ·cases hc
 ·split at hc
  ·rename_i op' hop
   split at hc
   ·rename_i hpl
    simp at hc;subst hc
    exact O5 hop hpl hd hv
   ·cases hc
  ·cases hc
theorem pn {o:Oper}{op:AOp}(h:cdOp P o=some op):∀c,o.op≠.defer c:=by
 intro c hc
 simp[cdOp,cOp,cOp0,cOpM,deadOp,hc]at h
theorem gy {o:Oper}{op:AOp}(hc:cdOp P o=some op):op.isVal=true:=by
 unfold cdOp at hc
 split at hc
 ·split at hc
  ·split at hc
   ·split at hc
    ·simp at hc;subst hc;rfl
    ·cases hc
   ·cases hc
  ·cases hc
 ·split at hc
  ·simp at hc;obtain⟨ys,_,rfl⟩:=hc;rfl
  ·cases hc
 ·split at hc
  ·split at hc
   ·split at hc
    ·simp at hc;subst hc;rfl
    ·cases hc
   ·cases hc
  ·cases hc
 ·split at hc
  ·rename_i op' _
   split at hc
   ·rename_i hpl
    simp at hc;subst hc
    cases op'<;>simp_all [AOp.plainVal,AOp.isVal]
   ·cases hc
  ·cases hc
end Go.Am
namespace Go.Am
open Go
variable [bV]
variable {P:Program}{nt:Nat}
def AOper.rd (a:AOper):List Nat:=a.op.reads++(match a.guard with|some (g,_)=>[g]|none=>[])
def cb (P:Program) (a:AOper) (e:LEnv) (h:Heap):Prop :=
 ∃d,(∀s,a.dst=some s->e.get s=d)/\match a.guard with
  | none=>∀K':D->Prop,K' d->vcdOp P a.op K' e h
  | some (g,want)=>∃b,gv (e.get g)=some b/\(b=some want->∀K':D->Prop,K' d->vcdOp P a.op K' e h)/\(b≠some want->d=gU)
theorem cb.congr {a:AOper}{e e':LEnv}{h:Heap}(hrd:∀i∈a.rd,e.get i=e'.get i) (hd:∀s,a.dst=some s->e'.get s=e.get s) (hv:cb P a e h):cb P a e' h:=by
 obtain⟨d,h1,h2⟩:=hv
 refine⟨d,fun s hs=>(hd s hs).trans (h1 s hs),?_⟩
 have hop:∀i∈a.op.reads,e.get i=e'.get i:=fun i hi=>hrd i (by simp[AOper.rd,hi])
 cases hg:a.guard with
 | none=>rw[hg]at h2;exact fun K' hk=>gp hop K' h (h2 K' hk)
 | some p =>
  obtain⟨g,want⟩:=p
  rw[hg]at h2
  obtain⟨b,q1,q2,q3⟩:=h2
  exact⟨b,by rw[<- hrd g (by simp[AOper.rd,hg])];exact q1,fun hb K' hk=>gp hop K' h (q2 hb K' hk),q3⟩
theorem cb.ext {a:AOper}(hval:a.op.isVal=true){e:LEnv}{h h':Heap}(hx:if a.op.stable then cM h h' else Ext h h') (hv:cb P a e h):cb P a e h':=by
 obtain⟨d,h1,h2⟩:=hv
 have step:(∀K':D->Prop,K' d->vcdOp P a.op K' e h)->∀K':D->Prop,K' d->vcdOp P a.op K' e h':=by
  intro hk K' hk'
  obtain⟨d',rfl,hdet⟩:=kW hval (hk (· = d) rfl)
  exact hdet h' hx K' hk'
 refine⟨d,h1,?_⟩
 cases hg:a.guard with
 | none=>rw[hg]at h2;exact step h2
 | some p =>
  obtain⟨g,want⟩:=p
  rw[hg]at h2
  obtain⟨b,q1,q2,q3⟩:=h2
  exact⟨b,q1,fun hb=>step (q2 hb),q3⟩
theorem HE:∀(vals:List AOper),(∀a∈vals,a.op.isVal=true)->(∀a∈vals,∀s,a.dst=some s->s∉a.rd)->vals.Pairwise (fun a b=>∀s,b.dst=some s->a.dst≠some s/\s∉a.rd) ->
  ∀{K:LEnv->Heap->Prop}{e:LEnv}{h:Heap},vcVals P vals K e h->∃T:LEnv,K T h/\(∀s,(∀a∈vals,a.dst≠some s)->T.get s=e.get s)/\∀a∈vals,cb P a T h:=by
 intro vals
 induction vals with
 | nil=>intro _ _ _ K e h hv;exact⟨e,hv,fun _ _=>rfl,by simp⟩
 | cons a r ih =>
  intro hval hself hpw K e h hv
  rw[List.pairwise_cons]at hpw
  obtain⟨hpa,hpr⟩:=hpw
  have ih':=fun e'=>@ih (fun b hb=>hval b (by simp[hb])) (fun b hb=>hself b (by simp[hb])) hpr K e' h
  have fin:∀d,vcVals P r K (e.put a.dst d) h->(match a.guard with
    | none=>∀K':D->Prop,K' d->vcdOp P a.op K' e h
    | some (g,want)=>∃b,gv (e.get g)=some b/\(b=some want->∀K':D->Prop,K' d->vcdOp P a.op K' e h)/\(b≠some want->d=gU)) ->
    ∃T:LEnv,K T h/\(∀s,(∀b,b∈a::r->b.dst≠some s)->T.get s=e.get s)/\∀b,b∈a::r->cb P b T h:=by
   intro d hr hm
   obtain⟨T,t1,t2,t3⟩:=ih' _ hr
   have hput:∀s,a.dst≠some s->(e.put a.dst d).get s=e.get s:=by
    intro s hs
    rw[LEnv.bo]
    cases hd:a.dst with
    | none=>rfl
    | some j =>
     have:s≠j:=by rintro rfl;exact hs hd
     simp[Env.put,ah,this]
   have hrd:∀i∈a.rd,T.get i=e.get i:=by
    intro i hi
    rw[t2 i (fun b hb hbd=>(hpa b hb i hbd).2 hi),hput i (fun hd=>hself a (by simp) i hd hi)]
   refine⟨T,t1,fun s hs=>?_,fun b hb=>?_⟩
   ·rw[t2 s (fun b hb=>hs b (by simp[hb])),hput s (hs a (by simp))]
   ·rcases List.mem_cons.1 hb with rfl|hb
    ·refine cb.congr (e:=e.put b.dst d) (fun i hi=>?_) (fun s hs=>?_) ⟨d,fun s hs=>by rw[LEnv.bo,hs];simp[Env.put,ah],?_⟩
     ·rw[hrd i hi,hput i (fun hd=>hself b (by simp) i hd hi)]
     ·exact t2 s (fun c hc hcd=>(hpa c hc s hcd).1 hs)
     ·have hop:∀i∈b.rd,e.get i=(e.put b.dst d).get i:=fun i hi=>(hput i (fun hd=>hself b (by simp) i hd hi)).symm
      have hop':∀i∈b.op.reads,e.get i=(e.put b.dst d).get i:=fun i hi=>hop i (by simp[AOper.rd,hi])
      cases hg:b.guard with
      | none=>rw[hg]at hm;exact fun K' hk=>gp hop' K' h (hm K' hk)
      | some p =>
       obtain⟨g,want⟩:=p
       rw[hg]at hm
       obtain⟨x,q1,q2,q3⟩:=hm
       exact⟨x,by rw[<- hop g (by simp[AOper.rd,hg])];exact q1,fun hx K' hk=>gp hop' K' h (q2 hx K' hk),q3⟩
    ·exact t3 b hb
  simp only[vcVals,DO,aQ]at hv
  cases hg:a.guard with
  | none =>
   simp only[hg]at hv fin
   obtain⟨d,k1,k2⟩:=kW (hval a (by simp)) hv
   exact fin d k1 (fun K' hk=>k2 h (by split;exact cM.Cu;exact fun n _=>rfl) K' hk)
  | some p =>
   obtain⟨g,want⟩:=p
   simp only[hg]at hv fin
   cases hb:gv (e.get g)<;>simp only[hb]at hv<;>try exact hv.elim
   rename_i b
   by_cases hbw:b=some want
   ·obtain⟨d,k1,k2⟩:=kW (hval a (by simp)) (hv.1 hbw)
    exact fin d k1 ⟨b,hb,fun _ K' hk=>k2 h (by split;exact cM.Cu;exact fun n _=>rfl) K' hk,fun hne=>absurd hbw hne⟩
   ·exact fin gU (hv.2 hbw) ⟨b,hb,fun h=>absurd h hbw,fun _=>rfl⟩
def AOp.isTail:AOp->Bool
 | .alloc _=>true
 | .box _=>true
 | .mk _ _ _ _ _=>true
 | .st _ _ _=>true
 | .app _ _ _ _ _=>true
 | .cpy _ _ _=>true
 | .mkm _=>true
 | .mupd _ _ _ _=>true
 | .mov _=>true
 | .fadd _ _=>false
 | op=>op.plainVal
def AOp.mut:AOp->Bool
 | .st _ _ _=>true
 | .app _ _ _ _ _=>true
 | .cpy _ _ _=>true
 | .mupd _ _ _ _=>true
 | _=>false
theorem mg {h:Heap}{n:Nat}(hn:h n=.free) (s:Slot):Ext h (ah h n s):=by
 intro k hk
 have:k≠n:=by rintro rfl;exact hk hn
 simp[ah,this]
theorem gB {x:D}{K K':Int->Prop}(hk:∀i,K i->K' i) (h:vint x K):vint x K':=by
 unfold vint at h ⊢
 split at h
 ·exact hk _ h
 ·exact h.elim
theorem eZ {e:LEnv}{x:Option Arg}{n:Nat}{K K':Int->Prop}(hk:∀i,K i->K' i) (h:vopt e x n K):vopt e x n K':=by
 cases x with
 | none=>exact hk _ h
 | some a=>exact gB hk h
theorem jh {cs:List D}{o s:Nat}{g:Bool}{K K':D->Prop}(hk:∀i,K i->K' i) (h:vpart cs o s g K):vpart cs o s g K':=by
 unfold vpart at h ⊢
 cases g
 ·simp only[Bool.false_eq_true,if_false]at h ⊢
  cases hc:cs[o]?<;>simp only[hc]at h ⊢
  exact hk _ h
 ·simp only[if_true]at h ⊢
  exact⟨h.1,hk _ h.2⟩
theorem KU {x:D}{h:Heap}{K K':D->Prop}(hk:∀i,K i->K' i) (hv:bR x h K):bR x h K':=by
 unfold bR at hv ⊢
 split at hv
 ·exact hk _ hv
 ·exact hk _ hv
 ·exact⟨hv.1,hk _ hv.2⟩
 ·exact hv.elim
theorem Ba {n:Nat}{x:D}{h:Heap}{K K':List D->Prop}(hk:∀i,K i->K' i) (hv:velems n x h K):velems n x h K':=by
 unfold velems at hv ⊢
 split at hv
 ·exact hk _ hv
 ·exact⟨hv.1,hk _ hv.2⟩
 ·obtain⟨els,h1,h2,h3⟩:=hv
  exact⟨els,h1,h2,hk _ h3⟩
 ·exact hv.elim
theorem KX {op:BinOp}{x y:D}{K K':D->Prop}(hk:∀i,K i->K' i) (h:vbin op x y K):vbin op x y K':=by
 obtain⟨d,h1,h2⟩:=HD h
 exact h2 K' (hk d h1)
theorem Mf {op:UnOp}{x:D}{K K':D->Prop}(hk:∀i,K i->K' i) (h:vun op x K):vun op x K':=by
 obtain⟨d,h1,h2⟩:=JS h
 exact h2 K' (hk d h1)
theorem kX {op:AOp}{K K':HK}(hk:∀d h',K d h'->K' d h'){e:LEnv}{h:Heap}(hv:vcOp P op K e h):vcOp P op K' e h:=by
 cases op<;>simp only[vcOp]at hv ⊢
 case mov x=>exact hk _ _ hv
 case pick c a b=>cases hc:c.get e<;>simp only[hc]at hv ⊢;exact hk _ _ hv
 case bin op x y=>exact KX (fun d hd=>hk d h hd) hv
 case eqv neg agg ks x y =>
  refine⟨hv.1,hv.2.1,?_⟩
  have hv:=hv.2.2
  unfold veqv at hv ⊢
  split at hv
  ·exact hk _ _ hv
  ·exact hv.elim
 case un op x=>exact Mf (fun d hd=>hk d h hd) hv
 case conv k x=>exact gB (fun i hi=>hk _ _ hi) hv
 case ext x i =>
  cases hc:x.get e<;>simp only[hc]at hv ⊢
  rename_i ds
  cases hd:ds[i]?<;>simp only[hd]at hv ⊢
  exact hk _ _ hv
 case fld x o s g=>cases hc:x.get e<;>simp only[hc]at hv ⊢;exact jh (fun d hd=>hk d h hd) hv
 case bld z ps=>exact⟨hv.1,hk _ _ hv.2⟩
 case bldS fz esz len z ps=>exact⟨hv.1,hv.2.1,fun n t=>hk _ _ (hv.2.2 n t)⟩
 case len x=>exact KU (fun d hd=>hk d h hd) hv
 case slen x=>cases hc:x.get e<;>simp only[hc]at hv ⊢;exact hk _ _ hv
 case fadd x o =>
  cases hc:x.get e<;>simp only[hc]at hv ⊢
  ·exact⟨hv.1,hk _ _ hv.2⟩
  ·exact hk _ _ hv
 case iadd x i n =>
  refine gB (fun i hi=>?_) hv
  cases hc:x.get e<;>simp only[hc]at hi ⊢
  ·exact⟨hi.1,hi.2.1,fun d hd=>⟨(hi.2.2 d hd).1,hk _ _ (hi.2.2 d hd).2⟩⟩
  ·exact⟨hi.1,hi.2.1,hi.2.2.1,hk _ _ hi.2.2.2⟩
 case iadda x i l n =>
  refine gB (fun i hi=>⟨hi.1,hi.2.1,?_⟩) hv
  have hi:=hi.2.2
  cases hc:x.get e<;>simp only[hc]at hi ⊢
  ·exact⟨hi.1,hk _ _ hi.2⟩
  ·exact hk _ _ hi
 case sidx x i len size agg =>
  refine gB (fun i hi=>?_) hv
  cases hc:x.get e<;>simp only[hc]at hi ⊢
  ·exact⟨hi.1,hi.2.1,hi.2.2.1,fun b hb=>hk _ _ (hi.2.2.2 b hb)⟩
  ·exact⟨hi.1,hi.2.1,hi.2.2.1,jh (fun d hd=>hk d h hd) hi.2.2.2⟩
 case ld x s g =>
  cases hc:x.get e<;>simp only[hc]at hv ⊢
  ·rename_i n i j
   cases hn:h n<;>simp only[hn]at hv ⊢
   ·exact⟨hv.1,jh (fun d hd=>hk d h hd) hv.2⟩
   ·exact⟨hv.1,fun d hd=>jh (fun d hd=>hk d h hd) (hv.2 d hd)⟩
   ·exact⟨hv.1,fun d hd=>jh (fun d hd=>hk d h hd) (hv.2 d hd)⟩
  ·exact jh (fun d hd=>hk d h hd) hv
 case st x v s =>
  refine⟨hv.1,hv.2.1,?_⟩
  have hv:=hv.2.2
  cases hc:x.get e<;>simp only[hc]at hv ⊢
  rename_i n i j
  cases hn:h n<;>simp only[hn]at hv ⊢
  ·exact⟨hv.1,hv.2.1,hk _ _ hv.2.2⟩
  ·exact⟨hv.1,hv.2.1,fun d hd=>hk _ _ (hv.2.2 d hd)⟩
 case alloc z=>exact fun n t=>hk _ _ (hv n t)
 case box x=>exact⟨hv.1,fun n t=>hk _ _ (hv.2 n t)⟩
 case mk esz b z l c=>exact gB (fun i hi=>gB (fun j hj=>⟨hj.1,hj.2.1,hj.2.2.1,hj.2.2.2.1,fun n t=>hk _ _ (hj.2.2.2.2 n t)⟩) hi) hv
 case slc x lo hi mx n =>
  cases hc:x.get e<;>simp only[hc]at hv ⊢
  ·exact eZ (fun _ h1=>eZ (fun _ h2=>eZ (fun _ h3=>⟨h3.1,h3.2.1,h3.2.2.1,hk _ _ h3.2.2.2⟩) h2) h1) hv
  ·exact eZ (fun _ h1=>eZ (fun _ h2=>eZ (fun _ h3=>⟨h3.1,h3.2.1,h3.2.2.1,h3.2.2.2.1,h3.2.2.2.2.1,hk _ _ h3.2.2.2.2.2⟩) h2) h1) hv
  ·exact eZ (fun _ h1=>eZ (fun _ h2=>eZ (fun _ h3=>⟨h3.1,h3.2.1,h3.2.2.1,h3.2.2.2.1,h3.2.2.2.2.1,hk _ _ h3.2.2.2.2.2⟩) h2) h1) hv
 case nilq neg x =>
  cases hc:x.get e<;>simp only[hc]at hv ⊢
  ·exact hk _ _ hv
  ·rename_i xs
   cases xs with
   | nil=>exact⟨hk _ _ hv.1,hk _ _ hv.2⟩
   | cons d r=>exact hk _ _ hv
 case slz x n =>
  cases hc:x.get e<;>simp only[hc]at hv ⊢
  ·exact fun n t=>hk _ _ (hv n t)
  ·exact fun n t=>hk _ _ (hv n t)
  ·exact⟨hv.1,fun n t=>hk _ _ (hv.2 n t)⟩
 case sslc x lo hi =>
  cases hc:x.get e<;>simp only[hc]at hv ⊢
  exact eZ (fun _ h1=>eZ (fun _ h2=>⟨h2.1,h2.2.1,h2.2.2.1,hk _ _ h2.2.2.2⟩) h1) hv
 case app s x esz b z =>
  refine Ba (fun ys hy=>⟨hy.1,?_⟩) hv
  have hy:=hy.2
  cases hc:s.get e<;>simp only[hc]at hy ⊢
  ·exact⟨hy.1,fun n t=>hk _ _ (hy.2 n t)⟩
  ·obtain⟨els,q1,q2,q3,q4,q5⟩:=hy
   exact⟨els,q1,q2,q3,q4,fun n t=>hk _ _ (q5 n t)⟩
 case cpy d s n =>
  refine Ba (fun ys hy=>⟨hy.1,?_⟩) hv
  have hy:=hy.2
  cases hc:d.get e<;>simp only[hc]at hy ⊢
  obtain⟨els,q1,q2,q3⟩:=hy
  exact⟨els,q1,q2,hk _ _ q3⟩
 case call f as=>exact ag.mono hk hv
 case callv x as =>
  cases hc:x.get e<;>simp only[hc]at hv ⊢
  ·exact⟨hv.1,ag.mono hk hv.2⟩
  ·exact⟨hv.1,A9.mono hk hv.2⟩
 case mkf f a b=>exact hk _ _ hv
 case mkm kt=>exact fun n t=>hk _ _ (hv n t)
 case look kt x k z ok =>
  refine⟨hv.1,?_⟩
  have h2:=hv.2
  cases hx:x.get e<;>simp only[hx]at h2 ⊢
  rename_i n
  cases hn:h n<;>simp only[hn]at h2 ⊢
  exact⟨h2.1,hk _ _ h2.2⟩
 case mupd kt x k v =>
  refine⟨hv.1,hv.2.1,?_⟩
  have h2:=hv.2.2
  cases hx:x.get e<;>simp only[hx]at h2 ⊢
  rename_i n
  cases hn:h n<;>simp only[hn]at h2 ⊢
  exact⟨h2.1,hk _ _ h2.2⟩
 case mn x y =>
  cases hx:x.get e<;>simp only[hx]at hv ⊢
  cases hy:y.get e<;>simp only[hy]at hv ⊢
  exact⟨hv.1,hk _ _ hv.2⟩
 case mx x y =>
  cases hx:x.get e<;>simp only[hx]at hv ⊢
  cases hy:y.get e<;>simp only[hy]at hv ⊢
  exact⟨hv.1,hk _ _ hv.2⟩
 case mn3 x y z =>
  cases hx:x.get e<;>simp only[hx]at hv ⊢
  cases hy:y.get e<;>simp only[hy]at hv ⊢
  cases hz:z.get e<;>simp only[hz]at hv ⊢
  exact⟨hv.1,hv.2.1,hk _ _ hv.2.2⟩
 case mx3 x y z =>
  cases hx:x.get e<;>simp only[hx]at hv ⊢
  cases hy:y.get e<;>simp only[hy]at hv ⊢
  cases hz:z.get e<;>simp only[hz]at hv ⊢
  exact⟨hv.1,hv.2.1,hk _ _ hv.2.2⟩
theorem KZ {neg:Bool}{x:Arg}{K:HK}{e:LEnv}{h:Heap}(hv:vcOp P (.nilq neg x) K e h):vcOp P (.nilq neg x) (fun d h'=>K d h'/\h'=h) e h:=by
 simp only[vcOp]at hv ⊢
 split at hv
 ·exact⟨hv,trivial⟩
 ·exact⟨hv,trivial⟩
 ·exact⟨⟨hv.1,trivial⟩,hv.2,trivial⟩
 ·exact hv.elim
theorem I1 {op:AOp}(hp:op.plainVal=true) (hf:∀x o,op≠.fadd x o){K:HK}{e:LEnv}{h:Heap}(hv:vcOp P op K e h):vcOp P op (fun d h'=>K d h'/\h'=h) e h:=by
 have hval:op.isVal=true:=by cases op<;>simp_all [AOp.plainVal,AOp.isVal]
 by_cases hq:∃b x,op=.nilq b x
 ·obtain⟨b,x,rfl⟩:=hq
  exact KZ hv
 have hv':vcdOp P op (fun d=>K d h) e h:=by
  cases op<;>simp only[AOp.plainVal,AOp.isVal]at hp<;>first
   | (cases hp;done)
   | exact absurd rfl (hf _ _)
   | exact absurd ⟨_,_,rfl⟩ hq
   | exact hv
 obtain⟨d,h1,h2⟩:=kW hval hv'
 have r:=h2 h (by split;exact cM.Cu;exact fun n _=>rfl) (fun d=>K d h/\h=h) ⟨h1,rfl⟩
 cases op<;>simp only[AOp.plainVal,AOp.isVal]at hp<;>first
  | (cases hp;done)
  | exact absurd rfl (hf _ _)
  | exact absurd ⟨_,_,rfl⟩ hq
  | exact r
theorem K0 {op:AOp}(ht:op.isTail=true){K:HK}{e:LEnv}{h:Heap}(hv:vcOp P op K e h):vcOp P op (fun d h'=>K d h'/\if op.mut then cM h h' else Ext h h') e h:=by
 by_cases hp:op.plainVal=true/\∀x o,op≠.fadd x o
 ·refine kX ?_ (I1 hp.1 hp.2 hv)
  rintro d h' ⟨hk,rfl⟩
  refine⟨hk,?_⟩
  split
  ·exact cM.Cu
  ·exact fun n _=>rfl
 cases op<;>simp only[AOp.isTail]at ht<;>first|(cases ht;done)|(exfalso;apply hp;constructor;assumption;intro _ _ h;cases h;done)|skip
 case alloc z=>exact fun n hn=>⟨hv n hn,by simpa[AOp.mut] using mg hn.free _⟩
 case box x=>exact⟨hv.1,fun n hn=>⟨hv.2 n hn,by simpa[AOp.mut] using mg hn.free _⟩⟩
 case mov x=>exact⟨hv,by simp[AOp.mut,Ext]⟩
 case mk esz bytes zero l c =>
  simp only[vcOp]at hv ⊢
  obtain⟨i,h1,h2⟩:=iH hv
  refine h2 _ ?_
  obtain⟨j,g1,g2⟩:=iH h1
  refine g2 _ ?_
  obtain⟨a1,a2,a3,a4,a5⟩:=g1
  exact⟨a1,a2,a3,a4,fun n hn=>⟨a5 n hn,by simpa[AOp.mut] using mg hn.free _⟩⟩
 case mkm kt=>exact fun n hn=>⟨hv n hn,by simpa[AOp.mut] using mg hn.free _⟩
 case mupd kt x k v =>
  simp only[vcOp]at hv ⊢
  refine⟨hv.1,hv.2.1,?_⟩
  have h2:=hv.2.2
  cases hx:x.get e<;>simp only[hx]at h2 ⊢<;>try exact h2.elim
  rename_i n
  cases hn:h n<;>simp only[hn]at h2 ⊢<;>try exact h2.elim
  refine⟨h2.1,h2.2,?_⟩
  simp only[AOp.mut,if_true]
  exact cM.Cu.ah (by simp)
 case st x v size =>
  simp only[vcOp]at hv ⊢
  refine⟨hv.1,hv.2.1,?_⟩
  have hv:=hv.2.2
  cases hx:x.get e<;>simp only[hx]at hv ⊢<;>try exact hv.elim
  rename_i n i j
  cases hn:h n<;>simp only[hn]at hv ⊢<;>try exact hv.elim
  ·refine⟨hv.1,hv.2.1,hv.2.2,?_⟩
   simp only[AOp.mut,if_true]
   exact cM.Cu.ah (by simp)
  ·refine⟨hv.1,hv.2.1,fun d hd=>⟨hv.2.2 d hd,?_⟩⟩
   simp only[AOp.mut,if_true]
   exact cM.Cu.ah (by simp)
 case app s x esz bytes zero =>
  simp only[vcOp,velems]at hv ⊢
  have key:∀ys:List D,(match s.get e with
    | .nil=>(ys.length*bytes<=140737488355328/\ys.length<=9223372036854775807)/\∀n,nT h n->K (.ms n 0 ys.length) (ah h n (.arr esz ys))
    | .ms m off len=>∃els,h m=.arr esz els/\off=0/\len=els.length/\((len+ys.length)*bytes<=140737488355328/\len+ys.length<=9223372036854775807) /\
      ∀n,nT h n->K (.ms n 0 (len+ys.length)) (ah (ah h m .dead) n (.arr esz (els++ys)))
    | _=>False)->(match s.get e with
    | .nil=>(ys.length*bytes<=140737488355328/\ys.length<=9223372036854775807)/\∀n,nT h n->(K (.ms n 0 ys.length) (ah h n (.arr esz ys))/\if(AOp.app s x esz bytes zero).mut then cM h (ah h n (.arr esz ys)) else Ext h (ah h n (.arr esz ys)))
    | .ms m off len=>∃els,h m=.arr esz els/\off=0/\len=els.length/\((len+ys.length)*bytes<=140737488355328/\len+ys.length<=9223372036854775807) /\
      ∀n,nT h n->(K (.ms n 0 (len+ys.length)) (ah (ah h m .dead) n (.arr esz (els++ys)))/\if(AOp.app s x esz bytes zero).mut then cM h (ah (ah h m .dead) n (.arr esz (els++ys))) else Ext h (ah (ah h m .dead) n (.arr esz (els++ys))))
    | _=>False):=by
   intro ys hv
   cases hs:s.get e<;>simp only[hs]at hv ⊢<;>try exact hv.elim
   ·exact⟨hv.1,fun n hn=>⟨hv.2 n hn,by simpa[AOp.mut] using (mg hn.free _).box⟩⟩
   ·rename_i m off len
    obtain⟨els,hm,a1,a2,a3,a4⟩:=hv
    refine⟨els,hm,a1,a2,a3,fun n hn=>⟨a4 n hn,?_⟩⟩
    simp only[AOp.mut,if_true]
    exact(cM.Cu.ah (by simp)).ah (by simp)
  cases hx:x.get e<;>simp only[hx]at hv ⊢<;>try exact hv.elim
  ·exact⟨hv.1,key _ hv.2⟩
  ·exact⟨hv.1,hv.2.1,key _ hv.2.2⟩
  ·obtain⟨els,b1,b2,b3,b4⟩:=hv
   exact⟨els,b1,b2,b3,key _ b4⟩
 case cpy d s esz =>
  simp only[vcOp,velems]at hv ⊢
  have key:∀ys:List D,(match d.get e with
    | .ms m off len=>∃els,h m=.arr esz els/\off+len<=els.length/\K (.int .i64 (min ys.length len:Nat)) (ah h m (.arr esz (els.take off++ys.take len++els.drop (off+min ys.length len))))
    | _=>False)->(match d.get e with
    | .ms m off len=>∃els,h m=.arr esz els/\off+len<=els.length/\(K (.int .i64 (min ys.length len:Nat)) (ah h m (.arr esz (els.take off++ys.take len++els.drop (off+min ys.length len)))) /\
      if(AOp.cpy d s esz).mut then cM h (ah h m (.arr esz (els.take off++ys.take len++els.drop (off+min ys.length len)))) else Ext h (ah h m (.arr esz (els.take off++ys.take len++els.drop (off+min ys.length len)))))
    | _=>False):=by
   intro ys hv
   cases hs:d.get e<;>simp only[hs]at hv ⊢<;>try exact hv.elim
   rename_i m off len
   obtain⟨els,hm,a1,a2⟩:=hv
   refine⟨els,hm,a1,a2,?_⟩
   simp only[AOp.mut,if_true]
   exact cM.Cu.ah (by simp)
  cases hx:s.get e<;>simp only[hx]at hv ⊢<;>try exact hv.elim
  ·exact⟨hv.1,key _ hv.2⟩
  ·exact⟨hv.1,hv.2.1,key _ hv.2.2⟩
  ·obtain⟨els,b1,b2,b3,b4⟩:=hv
   exact⟨els,b1,b2,b3,key _ b4⟩
end Go.Am
namespace Go.Am
open Go
variable [bV]
variable {P:Program}{nt:Nat}
def cdOper (P:Program) (nt:Nat) (ops:Array Oper) (o:Oper):Option AOper :=
 if o.dst.all (· < nt) then
  match cdOp P o with
  | some op=>match o.guard with
   | none=>some ⟨o.dst,op,none⟩
   | some (j,want)=>match (ops[j]?).bind (·.dst) with
    | some s=>some ⟨o.dst,op,some (s,want)⟩
    | none=>none
  | none=>none
 else none
def Jw (P:Program) (nt:Nat) (ops:Array Oper) (o:Oper):Option AOper :=
 match cOper P true nt ops o with
 | some a=>if a.op.isTail then some a else none
 | none=>none
structure Item (P:Program) (nt:Nat) (ops:Array Oper) (tail:Bool) (o:Oper) (a:AOper):Prop where
 dst:a.dst=o.dst
 dlt:∀j,o.dst=some j->j<nt
 op:if tail then cOp P true o=some a.op/\a.op.isTail=true else cdOp P o=some a.op
 gn:o.guard=none->a.guard=none
 gs:∀j want,o.guard=some (j,want)->∃s,(ops[j]?).bind (·.dst)=some s/\a.guard=some (s,want)
theorem rP {ops:Array Oper}{o:Oper}{a:AOper}(h:cdOper P nt ops o=some a):Item P nt ops false o a:=by
 unfold cdOper at h
 split at h
 case isFalse=>cases h
 rename_i hdst
 have hd:∀j,o.dst=some j->j<nt:=by intro j hj;rw[hj]at hdst;simpa using hdst
 cases hop:cdOp P o with
 | none=>simp[hop]at h
 | some op =>
  simp only[hop]at h
  cases hg:o.guard with
  | none=>simp[hg]at h;subst h;exact⟨rfl,hd,by simpa using hop,fun _=>rfl,fun j w hh=>by rw[hg]at hh;cases hh⟩
  | some p =>
   obtain⟨j,want⟩:=p
   simp only[hg]at h
   cases hj:(ops[j]?).bind (·.dst) with
   | none=>simp[hj]at h
   | some s=>simp[hj]at h;subst h;exact⟨rfl,hd,by simpa using hop,fun hh=>by rw[hg]at hh;(cases hh),fun j' w hh=>by rw[hg]at hh;cases hh;exact⟨s,hj,rfl⟩⟩
theorem Iv {ops:Array Oper}{o:Oper}{a:AOper}(h:Jw P nt ops o=some a):Item P nt ops true o a:=by
 unfold Jw at h
 cases hc:cOper P true nt ops o with
 | none=>simp[hc]at h
 | some a' =>
  simp only[hc]at h
  split at h
  case isFalse=>cases h
  rename_i ht
  simp at h;subst h
  unfold cOper at hc
  split at hc
  case isFalse=>cases hc
  rename_i hdst
  have hd:∀j,o.dst=some j->j<nt:=by intro j hj;rw[hj]at hdst;simpa using hdst
  cases hop:cOp P true o with
  | none=>simp[hop]at hc
  | some op =>
   simp only[hop]at hc
   cases hg:o.guard with
   | none=>simp[hg]at hc;subst hc;exact⟨rfl,hd,by simpa using ⟨hop,ht⟩,fun _=>rfl,fun j w hh=>by rw[hg]at hh;cases hh⟩
   | some p =>
    obtain⟨j,want⟩:=p
    simp only[hg]at hc
    cases hj:(ops[j]?).bind (·.dst) with
    | none=>simp[hj]at hc
    | some s=>simp[hj]at hc;subst hc;exact⟨rfl,hd,by simpa using ⟨hop,ht⟩,fun hh=>by rw[hg]at hh;(cases hh),fun j' w hh=>by rw[hg]at hh;cases hh;exact⟨s,hj,rfl⟩⟩
structure Dn (P:Program) (nt:Nat) (ops:Array Oper) (items:List AOper) (masks:List Nat) (tl:List Nat) (rev:List AOper) (tw:Bool):Prop where
 len:items.length=ops.size
 item:∀(i:Nat) (o:Oper) (a:AOper),ops[i]?=some o->items[i]?=some a->Item P nt ops (tl.contains i) o a
 edge:∀(i:Nat) (o:Oper),ops[i]?=some o->∀e∈o.after.toList,Region.binds .any e=true->e.on<i
 mask:∀(i:Nat) (o:Oper),ops[i]?=some o->∀k,(masks.getD i 0).testBit k=true->∃e,e∈o.after.toList/\Region.binds .any e=true/\(k=e.on\/(masks.getD e.on 0).testBit k=true)
 tlt:∀i∈tl,i<ops.size
 tord:∀l k i i':Nat,tl[l]?=some i->tl[k]?=some i'->l<k->(tw=true/\l=0/\k=1)\/(masks.getD i' 0).testBit i=true
 rdv:∀(i k:Nat) (a b:AOper),items[i]?=some a->items[k]?=some b->i∉tl->∀s,a.dst=some s->(i≠k->b.dst≠some s)/\(s∈b.rd->i<k/\(masks.getD k 0).testBit i=true)
 rdt:∀(i k:Nat) (a b:AOper),items[i]?=some a->items[k]?=some b->i∈tl->k∉tl->∀s,a.dst=some s->s∈b.rd->(masks.getD i 0).testBit k=true
 mt:∀(i k:Nat) (a b:AOper),items[i]?=some a->items[k]?=some b->i∈tl->k∉tl->a.op.mut=true->b.op.stable=false->(masks.getD i 0).testBit k=true\/b∈rev
 rev:∀b∈rev,b.guard=none/\b.op.isVal=true/\b.dst.isSome=true
def dp (listed:Array Bool) (i:Nat):Bool:=listed.getD i true
structure J (P:Program) (nt:Nat) (ops:Array Oper) (items:List AOper) (masks tl:List Nat) (rev:List AOper) (tw:Bool) (c₀:Ctx) (w₀:World) (K:LEnv->Heap->Prop) (listed:Array Bool) (a:Act) (w:World):Prop where
 size:listed.size=ops.size
 dc:∀i k,i<ops.size->dp listed i=true->(masks.getD i 0).testBit k=true->dp listed k=true
 st:∃(ρ:Nat->Option Nat) (h:Heap) (e:LEnv) (j:Nat),c₀.le ⟨ρ,c₀.X,h,w.heap⟩/\aj ⟨ρ,c₀.X,h,w.heap⟩/\WS w₀ w/\eP ⟨ρ,c₀.X,h,w.heap⟩ a.defers/\a.tmps.size=nt /\
  (j<=tl.length/\(tw=true->2<=j))/\ga P rev ((tl.drop j).filterMap (fun i=>items[i]?)) K e h /\
  (∀l i,tl[l]?=some i->(dp listed i=true↔l<j)) /\
  (∀s,(∃i b,items[i]?=some b/\i∉tl/\dp listed i=false/\b.dst=some s)\/au ⟨ρ,c₀.X,h,w.heap⟩ (e.get s) (a.tmps.getD s Go.undef)) /\
  (∀i b,items[i]?=some b->i∉tl->dp listed i=false->cb P b e h)
theorem EJ (l:List Nat) (f:Nat->D) (i:Nat):LEnv.get (l.map fun k=>(k,f k)) i=if i∈l then f i else .undef:=by
 induction l with
 | nil=>rfl
 | cons k r ih =>
  simp only[List.map_cons,LEnv.get,List.mem_cons]
  by_cases h:i=k
  ·subst h;simp
  ·rw[if_neg h,ih];simp[h]
theorem IV {r:Option Nat}{ops:Array Oper}{Q Q':Exit->Act->World->Prop}(hq:∀e,e≠.normal->Q e=Q' e){i:Nat}{K:Act->World->Prop}{a:Act}{w:World}(h:wpOpIn (rF r) 0 P ops Q i K a w):wpOpIn (rF r) 0 P ops Q' i K a w:=by
  have hl:LetsOut Q=LetsOut Q':=by unfold LetsOut;rw[hq .outgrown (by simp)]
  unfold wpOpIn at h ⊢
  cases ho:ops[i]? with
  | none=>simpa[ho] using h
  | some o =>
    simp only[ho]at h ⊢
    split
    · rename_i hw
      rw[if_pos hw]at h
      unfold Oper.wpIn at h ⊢
      refine⟨h.1,?_⟩
      have h:=h.2
      generalize (o.semAt (rF r).round a.eval).run P w=res at h ⊢
      cases res with
      | ok n w' =>
        cases n<;>simp only[Oper.uponIn]at h ⊢<;>first
          | exact h
          | (refine⟨h.1,CallsIn.mono h.2 (fun e w'' he=>?_)⟩
             cases e
             · exact he
             · rename_i ch;show Q' (.panic ch) a w'';rw[<- hq (.panic ch) (by simp)];exact he
             · show LetsOut Q';rw[<- hl];exact he)
          | (refine⟨h.1,RoundIn.mono h.2 (fun e w'' he=>?_)⟩
             cases e
             · exact he
             · rename_i ch;show Q' (.panic ch) a w'';rw[<- hq (.panic ch) (by simp)];exact he
             · show LetsOut Q';rw[<- hl];exact he)
      | halt x w' =>
        cases x<;>simp only[Oper.uponIn]at h ⊢<;>first
          | exact h
          | (rw[<- hq (.panic _) (by simp)];exact h)
    · rename_i hw
      rw[if_neg hw]at h
      exact h
theorem Eu {ops:Array Oper}{i:Nat}{Kenv:Env->Heap->Prop}{t:Env}{c:Ctx}{w:World}{a:Act}{Q:Exit->Act->World->Prop}{K':Act->World->Prop}{r:Option Nat}
  (hx:nF P nt ops [i] Kenv t c.h) (hp:c.hp=w.heap) (hr:aj c) (hs:jV c nt t a) (hk:∀a' w',Fin c w nt Kenv a' w'->K' a' w'):wpOpIn (rF r) 0 P ops Q i K' a w:=by
 let Q2:Exit->Act->World->Prop:=fun e=>match e with|.normal=>K'|e=>Q e
 have:=hx r c w a Q2 rfl hp hr hs hk
 rw[wpOpsIn_cons]at this
 refine IV (Q:=Q2) (fun e he=>?_) this
 cases e<;>first|exact absurd rfl he|rfl
end Go.Am
namespace Go.Am
open Go
variable [bV]
variable {P:Program}{nt:Nat}
theorem eX {listed:Array Bool}{i k:Nat}(hi:i<listed.size):dp (listed.setIfInBounds i true) k=if k=i then true else dp listed k:=by
 unfold dp
 by_cases h:k=i
 ·subst h;simp[Array.getD,hi]
 ·rw[if_neg h]
  have:i≠k:=fun e=>h e.symm
  by_cases hk:k<listed.size
  ·simp[Array.getD,hk,this]
  ·simp[Array.getD,hk]
theorem Kj {ops:Array Oper}{items:List AOper}{masks tl:List Nat}{rev:List AOper}{tw:Bool}(Dk:Dn P nt ops items masks tl rev tw):∀(i:Nat),i<ops.size->∀k,(masks.getD i 0).testBit k=true->k<i:=by
 intro i
 induction i using Nat.strongRecOn with
 | _ i ih =>
  intro hi k hk
  have ho:ops[i]?=some ops[i]:=by simp[hi]
  obtain⟨e,he,hb,hc⟩:=Dk.mask i _ ho k hk
  have hlt:=Dk.edge i _ ho e he hb
  rcases hc with h|h
  ·omega
  ·have:=ih e.on hlt (by omega) k h
   omega
structure SZ (ops:Array Oper) (masks:List Nat) (listed:Array Bool) (i:Nat):Prop where
 lt:i<ops.size
 un:dp listed i=false
 anc:∀k,(masks.getD i 0).testBit k=true->dp listed k=true
theorem Em {ops:Array Oper}{listed:Array Bool}{i:Nat}(h:i∈Region.ready .any ops listed):i<ops.size/\dp listed i=false/\∀o,ops[i]?=some o->∀e∈o.after.toList,Region.binds .any e=true->listed.getD e.on false=true:=by
 unfold Region.ready at h
 simp only[List.mem_filter,List.mem_range,Bool.and_eq_true,Bool.not_eq_true']at h
 obtain⟨h1,h2,h3⟩:=h
 refine⟨h1,h2,fun o ho e he hb=>?_⟩
 rw[ho]at h3
 simp only[Option.map_some,Option.getD_some,Array.all_eq_true']at h3
 have:=h3 e (by simpa using he)
 simpa[hb] using this
theorem Dx {ops:Array Oper}{items:List AOper}{masks tl:List Nat}{rev:List AOper}{tw:Bool}(Dk:Dn P nt ops items masks tl rev tw){listed:Array Bool}
  (hsz:listed.size=ops.size) (hdc:∀i k,i<ops.size->dp listed i=true->(masks.getD i 0).testBit k=true->dp listed k=true) {i:Nat}(hi:i∈Region.ready .any ops listed):SZ ops masks listed i:=by
 obtain⟨h1,h2,h3⟩:=Em hi
 refine⟨h1,h2,fun k hk=>?_⟩
 have ho:ops[i]?=some ops[i]:=by simp[h1]
 obtain⟨e,he,hb,hc⟩:=Dk.mask i _ ho k hk
 have hon:=Dk.edge i _ ho e he hb
 have hl:dp listed e.on=true:=by
  have:=h3 _ ho e he hb
  unfold dp
  have hsz:e.on<listed.size:=by rw[hsz];omega
  simpa[Array.getD,hsz] using this
 rcases hc with rfl|h
 ·exact hl
 ·exact hdc e.on k (by omega) hl h
theorem RJ {ops:Array Oper}{items:List AOper}{masks tl:List Nat}{rev:List AOper}{tw:Bool}(Dk:Dn P nt ops items masks tl rev tw){c₀:Ctx}{w₀:World}{K:LEnv->Heap->Prop}{listed:Array Bool}{a:Act}{w:World}
  (hJ:J P nt ops items masks tl rev tw c₀ w₀ K listed a w) {i:Nat}(hi:i∈Region.ready .any ops listed):SZ ops masks listed i :=
 Dx Dk hJ.size hJ.dc hi
theorem td:∀{rev:List AOper},(∀b∈rev,b.guard=none/\b.op.isVal=true)->∀{e:LEnv}{h:Heap},Bc P rev e h->∀b∈rev,b.dst.isSome=true->cb P b e h
 | [],_,_,_,_,b,hb,_=>by simp at hb
 | x::r,hrev,e,h,hv,b,hb,hds=>by
  rcases List.mem_cons.1 hb with rfl|hb
  ·obtain⟨g1,g2⟩:=hrev b (by simp)
   have hv1:=hv.1
   cases hd:b.dst with
   | none=>rw[hd]at hds;cases hds
   | some s =>
    rw[hd]at hv1
    simp only[DN]at hv1
    obtain⟨d',hk,hdet⟩:=kW g2 hv1
    have hk':d'=e.get s:=by
     have:[d']=[e.get s]:=hk
     simpa using this
    refine⟨e.get s,fun s' hs'=>by rw[hd]at hs';cases hs';rfl,?_⟩
    rw[g1]
    intro K' hK
    exact hdet h (by split;exact cM.Cu;exact fun n _=>rfl) K' (hk' ▸ hK)
  ·exact td (fun b hb=>hrev b (by simp[hb])) hv.2 b hb hds
open Classical in
theorem OQ {ops:Array Oper}{items:List AOper}{masks tl:List Nat}{rev:List AOper}{tw:Bool}(Dk:Dn P nt ops items masks tl rev tw){c₀:Ctx}{w₀:World}{K:LEnv->Heap->Prop}{listed:Array Bool}{a:Act}{w:World}{Q:Exit->Act->World->Prop}{r:Option Nat}
  (hJ:J P nt ops items masks tl rev tw c₀ w₀ K listed a w) {i:Nat}(hi:i∈Region.ready .any ops listed) :
  wpOpIn (rF r) 0 P ops Q i (J P nt ops items masks tl rev tw c₀ w₀ K (listed.setIfInBounds i true)) a w:=by
 have R:=RJ Dk hJ hi
 have hil:i<listed.size:=by rw[hJ.size];exact R.lt
 have hset:=fun k=>eX (k:=k) hil
 obtain⟨o,ho⟩:∃o,ops[i]?=some o:=⟨ops[i]'R.lt,by simp[R.lt]⟩
 have hitl:i<items.length:=by rw[Dk.len];exact R.lt
 obtain⟨a0,hai⟩:∃x,items[i]?=some x:=⟨items[i]'hitl,by simp[hitl]⟩
 have It:=Dk.item i o a0 ho hai
 obtain⟨ρ,h,e,j,hle,hr,hws,hdef,hsz,hj,htail,hprog,hrel,hval⟩:=hJ.st
 let c:Ctx:=⟨ρ,c₀.X,h,w.heap⟩
 let pend:Nat->Prop:=fun s=>∃k b,items[k]?=some b/\k∉tl/\dp listed k=false/\b.dst=some s
 let ef:LEnv:=(a0.rd++List.range nt).map fun s=>(s,if pend s then D.undef else e.get s)
 have efget:∀s,ef.get s=if s∈a0.rd++List.range nt then(if pend s then .undef else e.get s) else .undef:=fun s=>EJ _ _ s
 have hsim:jV c nt ef.get a:=by
  refine⟨hr.glob,hr.lo,hdef,hsz,fun s=>?_⟩
  rw[efget]
  split
  ·split
   ·exact .undef _
   ·rename_i hp
    exact(hrel s).resolve_left hp
  ·exact .undef _
 have hread:∀r∈a0.rd,ef.get r=e.get r:=by
  intro r hr'
  rw[efget,if_pos (by simp[hr']),if_neg]
  rintro⟨k,b,hb,hk,hun,hd⟩
  obtain⟨_,hm⟩:=(Dk.rdv k i b a0 hb hai hk r hd).2 hr'
  have:=R.anc k hm
  rw[hun]at this
  cases this
 have hread':∀r∈a0.op.reads,e.get r=ef.get r:=fun r hr'=>(hread r (by simp[AOper.rd,hr'])).symm
 have dc':∀i' k,i'<ops.size->dp (listed.setIfInBounds i true) i'=true->(masks.getD i' 0).testBit k=true->dp (listed.setIfInBounds i true) k=true:=by
  intro i' k hi' hl hm
  rw[hset]at hl ⊢
  split
  ·rfl
  ·by_cases h:i'=i
   ·subst h;exact R.anc k hm
   ·rw[if_neg h]at hl;exact hJ.dc i' k hi' hl hm
 have aD:∀{ρ':Nat->Option Nat}{h':Heap}{t':Env}{a':Act}{w':World}{d:D},c.le ⟨ρ',c.X,h',w'.heap⟩->jV ⟨ρ',c.X,h',w'.heap⟩ nt t' a'->t'=(ef.put o.dst d).get->∀s,o.dst≠some s->¬pend s->au ⟨ρ',c.X,h',w'.heap⟩ (e.get s) (a'.tmps.getD s Go.undef):=by
  intro ρ' h' t' a' w' d hle' hs' ht s hs hp
  by_cases hsn:s<nt
  ·have:=hs'.rel s
   rw[ht,LEnv.bo]at this
   have e1:Env.put ef.get o.dst d s=e.get s:=by
    have:Env.put ef.get o.dst d s=ef.get s:=by
     cases hd:o.dst with
     | none=>rfl
     | some x =>
      have:s≠x:=by rintro rfl;exact hs hd
      simp[Env.put,ah,this]
    rw[this,efget,if_pos (by simp[hsn]),if_neg hp]
   rw[e1]at this
   exact this
  ·have h1:=(hrel s).resolve_left hp
   have e1:a.tmps.getD s Go.undef=Go.undef:=by simp[Array.getD,hsz,hsn]
   have e2:a'.tmps.getD s Go.undef=Go.undef:=by simp[Array.getD,hs'.size,hsn]
   rw[e1]at h1
   rw[e2]
   exact h1.mono hle'
 by_cases htl:i∈tl
 ·
  obtain⟨l,hl⟩:=List.getElem?_of_mem htl
  have hlj:l=j:=by
   have h1:¬l<j:=by
    intro hlt
    have:=(hprog l i hl).2 hlt
    rw[R.un]at this
    cases this
   rcases Nat.lt_or_ge j l with hgt|hge
   ·have hjl:j<tl.length:=Nat.lt_trans hgt (List.getElem?_eq_some_iff.1 hl).1
    rcases Dk.tord j l tl[j] i (by simp[hjl]) hl hgt with⟨t1,t2,t3⟩|hpw
    ·have:=hj.2 t1;omega
    have:=(hprog j tl[j] (by simp[hjl])).1 (R.anc _ hpw)
    omega
   ·omega
  subst hlj
  have hlt:=(List.getElem?_eq_some_iff.1 hl).1
  have hli:tl[l]=i:=(List.getElem?_eq_some_iff.1 hl).2
  have hdrop:(tl.drop l).filterMap (fun k=>items[k]?)=a0::(tl.drop (l+1)).filterMap (fun k=>items[k]?):=by
   rw[List.drop_eq_getElem_cons hlt,hli,List.filterMap_cons,hai]
  rw[hdrop]at htail
  let rest:=(tl.drop (l+1)).filterMap (fun k=>items[k]?)
  let HR:Heap->Prop:=fun h'=>if a0.op.mut then cM h h' else Ext h h'
  have hrefl:HR h:=by
   simp only[HR]
   split
   ·exact cM.Cu
   ·exact fun n _=>rfl
  have hop:cOp P true o=some a0.op/\a0.op.isTail=true:=by have:=It.op;rw[if_pos (by simpa using htl)]at this;exact this
  have hnod:=mh hop.1
  let Kenv:Env->Heap->Prop:=fun t' h'=>∃d,t'=(ef.put o.dst d).get/\(Bc P rev (e.put a0.dst d) h'/\ga P rev rest K (e.put a0.dst d) h')/\HR h'
  have run:vcOp P a0.op (fun d h'=>Bc P rev (e.put a0.dst d) h'/\ga P rev rest K (e.put a0.dst d) h') e h->Gw P nt o (nF P nt ops [] Kenv) ef.get h:=by
   intro hv
   have:=nE (nt:=nt) hop.1 It.dlt _ ef h (vr hread' _ h (K0 hop.2 hv))
   refine gz ?_ this
   rintro t' h' ⟨d,rfl,hk⟩
   exact fo ⟨d,rfl,hk.1,hk.2⟩
  have hx:nF P nt ops [i] Kenv ef.get h:=by
   refine gK ho hnod a0.guard (fun j' want hg=>by obtain⟨s,h1,h2⟩:=It.gs j' want hg;exact⟨s,h1,h2⟩) It.gn It.dlt ?_
   simp only[ga,iy,vguard]at htail
   cases hg:a0.guard with
   | none=>simp only[hg]at htail;exact run htail
   | some p =>
    obtain⟨g,want⟩:=p
    simp only[hg]at htail
    cases hb:gv (e.get g)<;>simp only[hb]at htail<;>try exact htail.elim
    rename_i b
    refine⟨b,by rw[hread g (by simp[AOper.rd,hg])];exact hb,fun hbw=>run (htail.1 hbw),fun hbw=>?_⟩
    exact fo ⟨gU,by rw[LEnv.bo],htail.2 hbw,hrefl⟩
  refine Eu (c:=c) hx rfl hr hsim ?_
  rintro a' w' ⟨ρ',t',h',k1,k2,k3,k4,d,ht,hk,hhr⟩
  have hput:∀s,a0.dst≠some s->(e.put a0.dst d).get s=e.get s:=by
   intro s hs
   rw[LEnv.bo]
   cases hd:a0.dst with
   | none=>rfl
   | some x =>
    have:s≠x:=by rintro rfl;exact hs hd
    simp[Env.put,ah,this]
  refine⟨by simp[hJ.size],dc',ρ',h',e.put a0.dst d,l+1,hle.trans k1,k2,hws.trans k3,k4.defers,k4.size,⟨by omega,fun t=>by have:=hj.2 t;omega⟩,hk.2,fun l' i' hl'=>?_,fun s=>?_,fun k b hb hk' hun=>?_⟩
  ·rw[hset]
   by_cases hii:i'=i
   ·subst hii
    rw[if_pos rfl]
    have hl'lt:=(List.getElem?_eq_some_iff.1 hl').1
    have hl'i:tl[l']=i':=(List.getElem?_eq_some_iff.1 hl').2
    have:l'=l:=by
     rcases Nat.lt_trichotomy l' l with h1|h1|h1
     ·rcases Dk.tord l' l i' i' hl' hl h1 with⟨t1,t2,t3⟩|hpw
      ·have:=hj.2 t1;omega
      have:=Kj Dk i' R.lt i' hpw
      omega
     ·exact h1
     ·rcases Dk.tord l l' i' i' hl hl' h1 with⟨t1,t2,t3⟩|hpw
      ·have:=hj.2 t1;omega
      have:=Kj Dk i' R.lt i' hpw
      omega
    simp[this]
   ·rw[if_neg hii,hprog l' i' hl']
    have:l'≠l:=by rintro rfl;rw[hl]at hl';cases hl';exact hii rfl
    omega
  ·by_cases hs:a0.dst=some s
   ·right
    have:=k4.rel s
    rw[ht,LEnv.bo, <- It.dst,hs]at this
    rw[LEnv.bo,hs]
    simpa[Env.put,ah] using this
   ·rw[hput s hs]
    by_cases hp:pend s
    ·left
     obtain⟨k,b,hb,hk',hun,hd⟩:=hp
     refine⟨k,b,hb,hk',?_,hd⟩
     rw[hset,if_neg (by rintro rfl;exact hk' htl)]
     exact hun
    ·right
     exact aD k1 k4 ht s (by rw[<- It.dst];exact hs) hp
  ·rw[hset]at hun
   split at hun
   ·cases hun
   ·rename_i hki
    have v0:=hval k b hb hk' hun
    have hnanc:(masks.getD i 0).testBit k≠true:=by
     intro hm
     have:=R.anc k hm
     rw[hun]at this
     cases this
    have ob:∃ok,ops[k]?=some ok:=by
     have:k<ops.size:=by rw[<- Dk.len];exact(List.getElem?_eq_some_iff.1 hb).1
     exact⟨ops[k],by simp[this]⟩
    obtain⟨ok,hok⟩:=ob
    have Ib:=Dk.item k ok b hok hb
    have hopb:cdOp P ok=some b.op:=by have:=Ib.op;rw[if_neg (by simpa using hk')]at this;exact this
    by_cases hrv:b∈rev
    ·exact td (fun b hb=>⟨(Dk.rev b hb).1,(Dk.rev b hb).2.1⟩) hk.1 b hrv (Dk.rev b hrv).2.2
    refine cb.congr (e:=e) (fun r hr'=>?_) (fun s hs=>?_) (v0.ext (gy hopb) ?_)
    ·rw[hput r]
     intro hd
     exact hnanc (Dk.rdt i k a0 b hai hb htl hk' r hd hr')
    ·exact hput s ((Dk.rdv k i b a0 hb hai hk' s hs).1 hki)
    ·simp only[HR]at hhr
     by_cases hm:a0.op.mut=true
     ·rw[if_pos hm]at hhr
      by_cases hst:b.op.stable=true
      ·rw[if_pos hst];exact hhr
      ·exact absurd ((Dk.mt i k a0 b hai hb htl hk' hm (by simpa using hst)).resolve_right hrv) hnanc
     ·rw[if_neg hm]at hhr
      split
      ·exact hhr.box
      ·exact hhr
 ·
  obtain⟨d,hd1,hd2⟩:=hval i a0 hai htl R.un
  have hop:cdOp P o=some a0.op:=by have:=It.op;rw[if_neg (by simpa using htl)]at this;exact this
  have hnod:=pn hop
  let Kenv:Env->Heap->Prop:=fun t' h'=>t'=(ef.put o.dst d).get/\h'=h
  have run:(∀K':D->Prop,K' d->vcdOp P a0.op K' e h)->Gw P nt o (nF P nt ops [] Kenv) ef.get h:=by
   intro hv
   have:=v7 (nt:=nt) hop It.dlt (gp hread' (· = d) h (hv (· = d) rfl))
   refine gz ?_ this
   rintro t' h' ⟨d',rfl,rfl,rfl⟩
   exact fo ⟨rfl,rfl⟩
  have hx:nF P nt ops [i] Kenv ef.get h:=by
   refine gK ho hnod a0.guard (fun j' want hg=>by obtain⟨s,h1,h2⟩:=It.gs j' want hg;exact⟨s,h1,h2⟩) It.gn It.dlt ?_
   cases hg:a0.guard with
   | none=>rw[hg]at hd2;exact run hd2
   | some p =>
    obtain⟨g,want⟩:=p
    rw[hg]at hd2
    obtain⟨b,q1,q2,q3⟩:=hd2
    refine⟨b,by rw[hread g (by simp[AOper.rd,hg])];exact q1,fun hbw=>run (q2 hbw),fun hbw=>?_⟩
    exact fo ⟨by rw[LEnv.bo,q3 hbw],rfl⟩
  refine Eu (c:=c) hx rfl hr hsim ?_
  rintro a' w' ⟨ρ',t',h',k1,k2,k3,k4,ht,rfl⟩
  refine⟨by simp[hJ.size],dc',ρ',h',e,j,hle.trans k1,k2,hws.trans k3,k4.defers,k4.size,hj,htail,fun l' i' hl'=>?_,fun s=>?_,fun k b hb hk' hun=>?_⟩
  ·rw[hset,if_neg (by rintro rfl;exact htl (List.mem_of_getElem? hl'))]
   exact hprog l' i' hl'
  ·by_cases hs:a0.dst=some s
   ·right
    have:=k4.rel s
    rw[ht,LEnv.bo, <- It.dst,hs]at this
    rw[hd1 s hs]
    simpa[Env.put,ah] using this
   ·by_cases hp:pend s
    ·left
     obtain⟨k,b,hb,hk',hun,hd⟩:=hp
     refine⟨k,b,hb,hk',?_,hd⟩
     rw[hset,if_neg (by rintro rfl;rw[hai]at hb;cases hb;exact hs hd)]
     exact hun
    ·right
     exact aD k1 k4 ht s (by rw[<- It.dst];exact hs) hp
  ·rw[hset]at hun
   split at hun
   ·cases hun
   ·exact hval k b hb hk' hun
end Go.Am
namespace Go.Am
open Go
variable [bV]
variable {P:Program}{nt:Nat}
theorem IL {o:Oper}{t:TypeId}{zd:D}(ho:o.op=.alloc t) (hz:dZ P t=some zd) (hd:∀i,o.dst=some i->i<nt){n:Nat}{e:LEnv}{h:Heap}(hn:h n=.free) :
  Gw P nt o (fun t' h'=>t'=(e.put o.dst (.ptr n 0 0)).get/\h'=ah h n (.box zd)) e.get h:=by
 obtain⟨z,hz1,hz2⟩:=fG hz
 have key:fH P nt o (.alloc zd)->True:=fun _=>trivial
 have gen:Gw P nt o (fun t' h'=>∃d,t'=(e.put o.dst d).get/\(d=.ptr n 0 0/\h'=ah h n (.box zd))) e.get h:=by
  intro hnd r c w a Q hh hp hr hs
  subst hh
  have hrun:(execOp a.eval o).run P w=.ok (.value (.pointer (some ⟨w.heap.size,0,none⟩))) (w.alloc (.cells z.cells t)):=by
   simp[execOp,ho,Instr.alloc,bT hz1,newVar,cZ]
  have hst:=hO.new hn (s:=.box zd) trivial (.cells z.cells t) (hp':=(w.alloc (.cells z.cells t)).heap) (by rw[hp];rfl)
  have h1:cU ⟨ah c.ρ n (some c.hp.size),c.X,ah c.h n (.box zd),(w.alloc (.cells z.cells t)).heap⟩ n (.box zd) :=
   EW (hp:=w.heap) rfl (by rw[<- hp];simp[ah]) (cW (hY hz2 _) (fy hz2))
  have h2:au ⟨ah c.ρ n (some c.hp.size),c.X,ah c.h n (.box zd),(w.alloc (.cells z.cells t)).heap⟩ (.ptr n 0 0) (.pointer (some ⟨w.heap.size,0,none⟩)) :=
   .ptrBox n 0 _ zd (by simp[ah]) (by rw[<- hp];simp[ah])
  refine gE hnd hrun ?_
  refine⟨_,(e.put o.dst (.ptr n 0 0)).get,_,hst.le,hst.heap hr (by simpa[ah] using h1),⟨rfl,rfl,rfl⟩,?_,.ptr n 0 0,rfl,rfl,rfl⟩
  rw[LEnv.bo]
  exact(hs.mono hst.le).put hd h2
 refine gz ?_ gen
 rintro t' h' ⟨d,rfl,rfl,rfl⟩
 exact⟨rfl,rfl⟩
open Classical in
theorem zP {ops:Array Oper}{items:List AOper}{masks tl:List Nat}{X:XT}{ρ:Nat->Option Nat}{h:Heap}{e:LEnv}{a:Act}{w:World}{Q:Exit->Act->World->Prop}{r:Option Nat}{K':Act->World->Prop}{pend:Nat->Prop}
  (hr:aj ⟨ρ,X,h,w.heap⟩) (hdef:eP ⟨ρ,X,h,w.heap⟩ a.defers) (hsz:a.tmps.size=nt) (hrel:∀s,pend s\/au ⟨ρ,X,h,w.heap⟩ (e.get s) (a.tmps.getD s Go.undef))
  {i:Nat}{o:Oper}(rd:List Nat) (hrd:∀s∈rd,¬pend s) {d:D}{h':Heap}(hdst:∀s,o.dst=some s->e.get s=d)
  (run:∀ef:LEnv,(∀s∈rd,ef.get s=e.get s)->nF P nt ops [i] (fun t' h''=>t'=(ef.put o.dst d).get/\h''=h') ef.get h)
  (hk:∀a' w' ρ',Ctx.le ⟨ρ,X,h,w.heap⟩ ⟨ρ',X,h',w'.heap⟩->aj ⟨ρ',X,h',w'.heap⟩->WS w w'->eP ⟨ρ',X,h',w'.heap⟩ a'.defers->a'.tmps.size=nt ->
   (∀s,(pend s/\o.dst≠some s)\/au ⟨ρ',X,h',w'.heap⟩ (e.get s) (a'.tmps.getD s Go.undef))->K' a' w'):wpOpIn (rF r) 0 P ops Q i K' a w:=by
 let c:Ctx:=⟨ρ,X,h,w.heap⟩
 let ef:LEnv:=(rd++List.range nt).map fun s=>(s,if pend s then D.undef else e.get s)
 have efget:∀s,ef.get s=if s∈rd++List.range nt then(if pend s then .undef else e.get s) else .undef:=fun s=>EJ _ _ s
 have hsim:jV c nt ef.get a:=by
  refine⟨hr.glob,hr.lo,hdef,hsz,fun s=>?_⟩
  rw[efget]
  split
  ·split
   ·exact .undef _
   ·rename_i hp
    exact(hrel s).resolve_left hp
  ·exact .undef _
 have hread:∀s∈rd,ef.get s=e.get s:=by
  intro s hs
  rw[efget,if_pos (by simp[hs]),if_neg (hrd s hs)]
 refine Eu (c:=c) (run ef hread) rfl hr hsim ?_
 rintro a' w' ⟨ρ',t',h2,k1,k2,k3,k4,ht,rfl⟩
 refine hk a' w' ρ' k1 k2 k3 k4.defers k4.size fun s=>?_
 by_cases hs:o.dst=some s
 ·right
  have:=k4.rel s
  rw[ht,LEnv.bo,hs]at this
  rw[hdst s hs]
  simpa[Env.put,ah] using this
 ·by_cases hp:pend s
  ·exact Or.inl ⟨hp,hs⟩
  ·right
   by_cases hsn:s<nt
   ·have:=k4.rel s
    rw[ht,LEnv.bo]at this
    have e1:Env.put ef.get o.dst d s=e.get s:=by
     have:Env.put ef.get o.dst d s=ef.get s:=by
      cases hd:o.dst with
      | none=>rfl
      | some x =>
       have:s≠x:=by rintro rfl;exact hs hd
       simp[Env.put,ah,this]
     rw[this,efget,if_pos (by simp[hsn]),if_neg hp]
    rw[e1]at this
    exact this
   ·have h1:=(hrel s).resolve_left hp
    have e1:a.tmps.getD s Go.undef=Go.undef:=by simp[Array.getD,hsz,hsn]
    have e2:a'.tmps.getD s Go.undef=Go.undef:=by simp[Array.getD,k4.size,hsn]
    rw[e1]at h1
    rw[e2]
    exact h1.mono k1
def hS (h0:Heap) (N:Nat) (za zb:D) (A B:Bool):Heap:=fun n=>if n=N then(if A then .box za else .free) else if n=N+1 then(if B then .box zb else .free) else h0 n
theorem So {h0:Heap}{N:Nat}{za zb:D}{B:Bool}:ah (hS h0 N za zb false B) N (.box za)=hS h0 N za zb true B:=by
 funext n
 unfold ah hS
 by_cases h:n=N<;>simp[h]
theorem Sn {h0:Heap}{N:Nat}{za zb:D}{A:Bool}:ah (hS h0 N za zb A false) (N+1) (.box zb)=hS h0 N za zb A true:=by
 funext n
 unfold ah hS
 by_cases h:n=N
 ·subst h;simp
 ·by_cases h1:n=N+1<;>simp[h,h1]
theorem TN {h0:Heap}{N:Nat}{za zb:D}(h1:h0 N=.free) (h2:h0 (N+1)=.free):hS h0 N za zb false false=h0:=by
 funext n
 unfold hS
 by_cases h:n=N
 ·subst h;simp[h1]
 ·by_cases h1:n=N+1
  ·subst h1;simp[h2]
  ·simp[h,h1]
theorem UO {h0:Heap}{N:Nat}{za zb:D}(h1:h0 N=.free) (h2:h0 (N+1)=.free):hS h0 N za zb true true=ah (ah h0 N (.box za)) (N+1) (.box zb):=by
 rw[<- Sn, <- So,TN h1 h2]
structure U1 (P:Program) (nt:Nat) (ops:Array Oper) (items:List AOper) (masks tl:List Nat) (ia ib:Nat) (r:List Nat) (sa sb:Nat) (za zb:D):Prop where
 etl:tl=ia::ib::r
 nd:ia≠ib/\ia∉r/\ib∉r
 oa:∃o t,ops[ia]?=some o/\o.op=.alloc t/\dZ P t=some za/\o.dst=some sa/\o.guard=none
 ob:∃o t,ops[ib]?=some o/\o.op=.alloc t/\dZ P t=some zb/\o.dst=some sb/\o.guard=none
 ne:sa≠sb
 anc:∀k∈r,(masks.getD k 0).testBit ia=true/\(masks.getD k 0).testBit ib=true
 vals:∀(k:Nat) (b:AOper),items[k]?=some b->k∉tl->sa∉b.rd/\sb∉b.rd/\b.dst≠some sa/\b.dst≠some sb
 lt:sa<nt/\sb<nt
structure J1 (P:Program) (nt:Nat) (ops:Array Oper) (items:List AOper) (masks tl:List Nat) (rev:List AOper) (ia ib:Nat) (r:List Nat) (sa sb:Nat) (za zb:D) (c₀:Ctx) (w₀:World) (K:LEnv->Heap->Prop) (listed:Array Bool) (a:Act) (w:World):Prop where
 size:listed.size=ops.size
 dc:∀i k,i<ops.size->dp listed i=true->(masks.getD i 0).testBit k=true->dp listed k=true
 st:∃(ρ:Nat->Option Nat) (h0:Heap) (N:Nat) (e:LEnv) (A B:Bool),(A&&B)=false/\dp listed ia=A/\dp listed ib=B/\(∀i∈r,dp listed i=false) /\
  c₀.le ⟨ρ,c₀.X,hS h0 N za zb A B,w.heap⟩/\aj ⟨ρ,c₀.X,hS h0 N za zb A B,w.heap⟩/\WS w₀ w/\eP ⟨ρ,c₀.X,hS h0 N za zb A B,w.heap⟩ a.defers/\a.tmps.size=nt /\
  ga P rev (r.filterMap (fun i=>items[i]?)) K e (hS h0 N za zb true true) /\
  e.get sa=.ptr N 0 0/\e.get sb=.ptr (N+1) 0 0 /\
  (∀s,((s=sa/\A=false)\/(s=sb/\B=false)\/∃i b,items[i]?=some b/\i∉tl/\dp listed i=false/\b.dst=some s)\/au ⟨ρ,c₀.X,hS h0 N za zb A B,w.heap⟩ (e.get s) (a.tmps.getD s Go.undef)) /\
  (∀i b,items[i]?=some b->i∉tl->dp listed i=false->cb P b e (hS h0 N za zb A B))
theorem Og {ops:Array Oper}{masks:List Nat}{listed:Array Bool}{i:Nat}(hil:i<listed.size) (R:SZ ops masks listed i) (dc:∀i k,i<ops.size->dp listed i=true->(masks.getD i 0).testBit k=true->dp listed k=true) :
  ∀i' k,i'<ops.size->dp (listed.setIfInBounds i true) i'=true->(masks.getD i' 0).testBit k=true->dp (listed.setIfInBounds i true) k=true:=by
 intro i' k hi' hl hm
 rw[eX hil]at hl ⊢
 split
 ·rfl
 ·by_cases h:i'=i
  ·subst h;exact R.anc k hm
  ·rw[if_neg h]at hl;exact dc i' k hi' hl hm
theorem Im {h:Heap}{n:Nat}(hn:h n=.free) (s:Slot){b:AOper}:if b.op.stable then cM h (ah h n s) else Ext h (ah h n s):=by
 split
 ·exact(mg hn s).box
 ·exact mg hn s
theorem QC {ops:Array Oper}{items:List AOper}{masks tl:List Nat}{rev:List AOper}(Dk:Dn P nt ops items masks tl rev true){ia ib:Nat}{r:List Nat}{sa sb:Nat}{za zb:D}(T:U1 P nt ops items masks tl ia ib r sa sb za zb)
  {c₀:Ctx}{w₀:World}{K:LEnv->Heap->Prop}{listed:Array Bool}{a:Act}{w:World}{Q:Exit->Act->World->Prop}{rr:Option Nat}
  (hJ:J1 P nt ops items masks tl rev ia ib r sa sb za zb c₀ w₀ K listed a w) {i:Nat}(hi:i∈Region.ready .any ops listed) :
  wpOpIn (rF rr) 0 P ops Q i (fun a w=>J1 P nt ops items masks tl rev ia ib r sa sb za zb c₀ w₀ K (listed.setIfInBounds i true) a w\/J P nt ops items masks tl rev true c₀ w₀ K (listed.setIfInBounds i true) a w) a w:=by
 have R:=Dx Dk hJ.size hJ.dc hi
 have hil:i<listed.size:=by rw[hJ.size];exact R.lt
 have hset:=fun k=>eX (k:=k) hil
 obtain⟨ρ,h0,N,e,A,B,hAB,hA,hB,hrun,hle,hr,hws,hdef,hsz,htail,esa,esb,hrel,hval⟩:=hJ.st
 have dc':=Og hil R hJ.dc
 have itl:∀k,k∈tl↔k=ia\/k=ib\/k∈r:=by intro k;rw[T.etl];simp
 by_cases hia:i=ia
 ·subst hia
  obtain⟨o,t,ho,hop,hz,hd,hg⟩:=T.oa
  have hAf:A=false:=by rw[<- hA];exact R.un
  subst hAf
  have gQ:hS h0 N za zb false B N=.free:=by simp[hS]
  refine zP (items:=items) (masks:=masks) (tl:=tl) hr hdef hsz hrel (o:=o) [] (by simp) (d:=.ptr N 0 0) (h':=ah (hS h0 N za zb false B) N (.box za)) (fun s hs=>by rw[hd]at hs;cases hs;exact esa) (fun ef _=>?_) ?_
  ·refine gK ho (by rw[hop];intro c hc;cases hc) none (fun j w hh=>by rw[hg]at hh;cases hh) (fun _=>rfl) (fun j hj=>by rw[hd]at hj;cases hj;exact T.lt.1) ?_
   refine gz ?_ (IL hop hz (fun j hj=>by rw[hd]at hj;cases hj;exact T.lt.1) gQ)
   rintro t' h'' ⟨h1,h2⟩
   exact fo ⟨h1,h2⟩
  ·intro a' w' ρ' k1 k2 k3 k4 k5 k6
   rw[So]at k1 k2 k4 k6
   have vals':∀k b,items[k]?=some b->k∉tl->dp (listed.setIfInBounds i true) k=false->cb P b e (hS h0 N za zb true B):=by
    intro k b hb hk hun
    rw[hset]at hun
    split at hun
    ·cases hun
    ·have hopb:b.op.isVal=true:=by
      have hkl:k<ops.size:=by rw[<- Dk.len];exact(List.getElem?_eq_some_iff.1 hb).1
      have:=(Dk.item k ops[k] b (by simp[hkl]) hb).op
      rw[if_neg (by simpa using hk)]at this
      exact gy this
     have:=(hval k b hb hk hun).ext hopb (Im gQ (.box za))
     rw[So]at this
     exact this
   have rel':∀s,((s=sb/\B=false)\/∃i' b,items[i']?=some b/\i'∉tl/\dp (listed.setIfInBounds i true) i'=false/\b.dst=some s)\/au ⟨ρ',c₀.X,hS h0 N za zb true B,w'.heap⟩ (e.get s) (a'.tmps.getD s Go.undef):=by
    intro s
    rcases k6 s with⟨hp,hne⟩|h
    ·left
     rcases hp with⟨rfl,_⟩|hp|⟨i',b,h1,h2,h3,h4⟩
     ·exact absurd hd hne
     ·exact Or.inl hp
     ·right
      refine⟨i',b,h1,h2,?_,h4⟩
      rw[hset,if_neg (by rintro rfl;exact h2 ((itl i').2 (Or.inl rfl)))]
      exact h3
    ·exact Or.inr h
   cases B with
   | false =>
    left
    refine⟨by simp[hJ.size],dc',ρ',h0,N,e,true,false,rfl,?_,?_,fun k hk=>?_,hle.trans k1,k2,hws.trans k3,k4,k5,htail,esa,esb,fun s=>?_,vals'⟩
    ·rw[hset,if_pos rfl]
    ·rw[hset,if_neg (fun h=>T.nd.1 h.symm)];exact hB
    ·rw[hset,if_neg (by rintro rfl;exact T.nd.2.1 hk)];exact hrun k hk
    ·rcases rel' s with h|h
     ·exact Or.inl (Or.inr h)
     ·exact Or.inr h
   | true =>
    right
    refine⟨by simp[hJ.size],dc',ρ',_,e,2,hle.trans k1,k2,hws.trans k3,k4,k5,⟨by rw[T.etl];simp,fun _=>Nat.le_refl 2⟩,?_,fun l i' hl=>?_,fun s=>?_,vals'⟩
    ·rw[T.etl];simpa using htail
    ·rw[hset]
     rw[T.etl]at hl
     match l,hl with
     | 0,hl=>simp at hl;subst hl;simp
     | 1,hl =>
      simp at hl;subst hl
      rw[if_neg (fun h=>T.nd.1 h.symm)]
      simp[hB]
     | l+2,hl =>
      have hm:i'∈r:=List.mem_of_getElem? (by simpa using hl)
      rw[if_neg (by rintro rfl;exact T.nd.2.1 hm),hrun i' hm]
      simp
    ·rcases rel' s with(⟨_,h⟩|h)|h
     ·cases h
     ·exact Or.inl h
     ·exact Or.inr h
 by_cases hib:i=ib
 ·subst hib
  obtain⟨o,t,ho,hop,hz,hd,hg⟩:=T.ob
  have hBf:B=false:=by rw[<- hB];exact R.un
  subst hBf
  have gQ:hS h0 N za zb A false (N+1)=.free:=by simp[hS]
  refine zP (items:=items) (masks:=masks) (tl:=tl) hr hdef hsz hrel (o:=o) [] (by simp) (d:=.ptr (N+1) 0 0) (h':=ah (hS h0 N za zb A false) (N+1) (.box zb)) (fun s hs=>by rw[hd]at hs;cases hs;exact esb) (fun ef _=>?_) ?_
  ·refine gK ho (by rw[hop];intro c hc;cases hc) none (fun j w hh=>by rw[hg]at hh;cases hh) (fun _=>rfl) (fun j hj=>by rw[hd]at hj;cases hj;exact T.lt.2) ?_
   refine gz ?_ (IL hop hz (fun j hj=>by rw[hd]at hj;cases hj;exact T.lt.2) gQ)
   rintro t' h'' ⟨h1,h2⟩
   exact fo ⟨h1,h2⟩
  ·intro a' w' ρ' k1 k2 k3 k4 k5 k6
   rw[Sn]at k1 k2 k4 k6
   have vals':∀k b,items[k]?=some b->k∉tl->dp (listed.setIfInBounds i true) k=false->cb P b e (hS h0 N za zb A true):=by
    intro k b hb hk hun
    rw[hset]at hun
    split at hun
    ·cases hun
    ·have hopb:b.op.isVal=true:=by
      have hkl:k<ops.size:=by rw[<- Dk.len];exact(List.getElem?_eq_some_iff.1 hb).1
      have:=(Dk.item k ops[k] b (by simp[hkl]) hb).op
      rw[if_neg (by simpa using hk)]at this
      exact gy this
     have:=(hval k b hb hk hun).ext hopb (Im gQ (.box zb))
     rw[Sn]at this
     exact this
   have rel':∀s,((s=sa/\A=false)\/∃i' b,items[i']?=some b/\i'∉tl/\dp (listed.setIfInBounds i true) i'=false/\b.dst=some s)\/au ⟨ρ',c₀.X,hS h0 N za zb A true,w'.heap⟩ (e.get s) (a'.tmps.getD s Go.undef):=by
    intro s
    rcases k6 s with⟨hp,hne⟩|h
    ·left
     rcases hp with hp|⟨rfl,_⟩|⟨i',b,h1,h2,h3,h4⟩
     ·exact Or.inl hp
     ·exact absurd hd hne
     ·right
      refine⟨i',b,h1,h2,?_,h4⟩
      rw[hset,if_neg (by rintro rfl;exact h2 ((itl i').2 (Or.inr (Or.inl rfl))))]
      exact h3
    ·exact Or.inr h
   cases A with
   | false =>
    left
    refine⟨by simp[hJ.size],dc',ρ',h0,N,e,false,true,rfl,?_,?_,fun k hk=>?_,hle.trans k1,k2,hws.trans k3,k4,k5,htail,esa,esb,fun s=>?_,vals'⟩
    ·rw[hset,if_neg (fun h=>hia h.symm)];exact hA
    ·rw[hset,if_pos rfl]
    ·rw[hset,if_neg (by rintro rfl;exact T.nd.2.2 hk)];exact hrun k hk
    ·rcases rel' s with(h|h)|h
     ·exact Or.inl (Or.inl h)
     ·exact Or.inl (Or.inr (Or.inr h))
     ·exact Or.inr h
   | true =>
    right
    refine⟨by simp[hJ.size],dc',ρ',_,e,2,hle.trans k1,k2,hws.trans k3,k4,k5,⟨by rw[T.etl];simp,fun _=>Nat.le_refl 2⟩,?_,fun l i' hl=>?_,fun s=>?_,vals'⟩
    ·rw[T.etl];simpa using htail
    ·rw[hset]
     rw[T.etl]at hl
     match l,hl with
     | 0,hl =>
      simp at hl;subst hl
      rw[if_neg (fun h=>hia h.symm)]
      simp[hA]
     | 1,hl=>simp at hl;subst hl;simp
     | l+2,hl =>
      have hm:i'∈r:=List.mem_of_getElem? (by simpa using hl)
      rw[if_neg (by rintro rfl;exact T.nd.2.2 hm),hrun i' hm]
      simp
    ·rcases rel' s with(⟨_,h⟩|h)|h
     ·cases h
     ·exact Or.inl h
     ·exact Or.inr h
 have hitl:i∉tl:=by
  intro hm
  rcases (itl i).1 hm with h|h|h
  ·exact hia h
  ·exact hib h
  ·obtain⟨h1,h2⟩:=T.anc i h
   have e1:=R.anc _ h1
   have e2:=R.anc _ h2
   rw[hA]at e1;rw[hB]at e2;rw[e1,e2]at hAB;cases hAB
 obtain⟨o,ho⟩:∃o,ops[i]?=some o:=⟨ops[i]'R.lt,by simp[R.lt]⟩
 have hilen:i<items.length:=by rw[Dk.len];exact R.lt
 obtain⟨a0,hai⟩:∃x,items[i]?=some x:=⟨items[i]'hilen,by simp[hilen]⟩
 have It:=Dk.item i o a0 ho hai
 obtain⟨nsa,nsb,dsa,dsb⟩:=T.vals i a0 hai hitl
 obtain⟨d,hd1,hd2⟩:=hval i a0 hai hitl R.un
 have hop:cdOp P o=some a0.op:=by have:=It.op;rw[if_neg (by simpa using hitl)]at this;exact this
 have hnod:=pn hop
 have hrd:∀s∈a0.rd,¬((s=sa/\A=false)\/(s=sb/\B=false)\/∃i b,items[i]?=some b/\i∉tl/\dp listed i=false/\b.dst=some s):=by
  rintro s hs (⟨rfl,_⟩|⟨rfl,_⟩|⟨k,b,hb,hk,hun,hd⟩)
  ·exact nsa hs
  ·exact nsb hs
  ·obtain⟨_,hm⟩:=(Dk.rdv k i b a0 hb hai hk s hd).2 hs
   have:=R.anc k hm
   rw[hun]at this
   cases this
 refine zP (items:=items) (masks:=masks) (tl:=tl) hr hdef hsz hrel (o:=o) a0.rd hrd (d:=d) (h':=hS h0 N za zb A B) (fun s hs=>hd1 s (by rw[It.dst];exact hs)) (fun ef hef=>?_) ?_
 ·have run:(∀K':D->Prop,K' d->vcdOp P a0.op K' e (hS h0 N za zb A B))->Gw P nt o (nF P nt ops [] (fun t' h''=>t'=(ef.put o.dst d).get/\h''=hS h0 N za zb A B)) ef.get (hS h0 N za zb A B):=by
   intro hv
   have:=v7 (nt:=nt) hop It.dlt (gp (fun s hs=>(hef s (by simp[AOper.rd,hs])).symm) (· = d) (hS h0 N za zb A B) (hv (· = d) rfl))
   refine gz ?_ this
   rintro t' h' ⟨d',rfl,rfl,rfl⟩
   exact fo ⟨rfl,rfl⟩
  refine gK ho hnod a0.guard (fun j' want hg=>by obtain⟨s,h1,h2⟩:=It.gs j' want hg;exact⟨s,h1,h2⟩) It.gn It.dlt ?_
  cases hg:a0.guard with
  | none=>rw[hg]at hd2;exact run hd2
  | some p =>
   obtain⟨g,want⟩:=p
   rw[hg]at hd2
   obtain⟨b,q1,q2,q3⟩:=hd2
   refine⟨b,by rw[hef g (by simp[AOper.rd,hg])];exact q1,fun hbw=>run (q2 hbw),fun hbw=>?_⟩
   exact fo ⟨by rw[LEnv.bo,q3 hbw],rfl⟩
 ·intro a' w' ρ' k1 k2 k3 k4 k5 k6
  left
  refine⟨by simp[hJ.size],dc',ρ',h0,N,e,A,B,hAB,?_,?_,fun k hk=>?_,hle.trans k1,k2,hws.trans k3,k4,k5,htail,esa,esb,fun s=>?_,fun k b hb hk hun=>?_⟩
  ·rw[hset,if_neg (fun h=>hia h.symm)];exact hA
  ·rw[hset,if_neg (fun h=>hib h.symm)];exact hB
  ·rw[hset,if_neg (by rintro rfl;exact hitl ((itl k).2 (Or.inr (Or.inr hk))))];exact hrun k hk
  ·rcases k6 s with⟨hp,hne⟩|h
   ·left
    rcases hp with hp|hp|⟨k,b,hb,hk,hun,hd⟩
    ·exact Or.inl hp
    ·exact Or.inr (Or.inl hp)
    ·refine Or.inr (Or.inr ⟨k,b,hb,hk,?_,hd⟩)
     rw[hset,if_neg (by rintro rfl;rw[hai]at hb;cases hb;exact hne (by rw[<- It.dst];exact hd))]
     exact hun
   ·exact Or.inr h
  ·rw[hset]at hun
   split at hun
   ·cases hun
   ·exact hval k b hb hk hun
end Go.Am
namespace Go.Am
open Go
variable [bV]
variable {P:Program}{nt:Nat}
theorem Hb {p q:Nat->Bool}:∀{l:List Nat},(∀x∈l,q x=true->p x=true)->∀{i:Nat},i∈l->p i=true->q i=false->(l.filter q).length<(l.filter p).length
 | [],_,i,hi,_,_=>by simp at hi
 | x::r,hle,i,hi,hp,hq=>by
  have hmono:(r.filter q).length<=(r.filter p).length:=by
   have:∀(l:List Nat),(∀x∈l,q x=true->p x=true)->(l.filter q).length<=(l.filter p).length:=by
    intro l
    induction l with
    | nil=>intro _;simp
    | cons y s ih =>
     intro h
     have:=ih (fun x hx=>h x (by simp[hx]))
     by_cases hy:q y=true
     ·rw[List.filter_cons_of_pos hy,List.filter_cons_of_pos (h y (by simp) hy)];simpa using this
     ·rw[List.filter_cons_of_neg hy]
      by_cases hy2:p y=true
      ·rw[List.filter_cons_of_pos hy2];simp;omega
      ·rw[List.filter_cons_of_neg hy2];exact this
   exact this r (fun x hx=>hle x (by simp[hx]))
  rcases List.mem_cons.1 hi with rfl|hi
  ·rw[List.filter_cons_of_pos hp,List.filter_cons_of_neg (by simp[hq])]
   simp;omega
  ·have ih:=Hb (fun x hx=>hle x (by simp[hx])) hi hp hq
   by_cases hx:q x=true
   ·rw[List.filter_cons_of_pos hx,List.filter_cons_of_pos (hle x (by simp) hx)];simpa using ih
   ·rw[List.filter_cons_of_neg hx]
    by_cases hx2:p x=true
    ·rw[List.filter_cons_of_pos hx2];simp;omega
    ·rw[List.filter_cons_of_neg hx2];exact ih
def left (n:Nat) (listed:Array Bool):Nat:=((List.range n).filter fun i=> !dp listed i).length
theorem JM {ops:Array Oper}{items:List AOper}{masks tl:List Nat}{rev:List AOper}{tw:Bool}(Dk:Dn P nt ops items masks tl rev tw){listed:Array Bool}(hsz:listed.size=ops.size) (hr:Region.ready .any ops listed=[]):∀i,i<ops.size->dp listed i=true:=by
 intro i
 induction i using Nat.strongRecOn with
 | _ i ih =>
  intro hi
  by_cases hl:dp listed i=true
  ·exact hl
  ·exfalso
   have hmem:i∈Region.ready .any ops listed:=by
    unfold Region.ready
    simp only[List.mem_filter,List.mem_range,Bool.and_eq_true,Bool.not_eq_true']
    refine⟨hi,by unfold dp at hl;simpa using hl,?_⟩
    have ho:ops[i]?=some ops[i]:=by simp[hi]
    rw[ho]
    simp only[Option.map_some,Option.getD_some,Array.all_eq_true']
    intro e he
    by_cases hb:Region.binds .any e=true
    ·have hlt:=Dk.edge i _ ho e (by simpa using he) hb
     have:=ih e.on hlt (by omega)
     unfold dp at this
     have hs:e.on<listed.size:=by omega
     simp[Array.getD,hs]at this ⊢
     simp[this]
    ·simp[hb]
   rw[hr]at hmem
   simp at hmem
theorem SQ {ops:Array Oper}{items:List AOper}{masks tl:List Nat}{rev:List AOper}{tw:Bool}(Dk:Dn P nt ops items masks tl rev tw){JJ:Array Bool->Act->World->Prop}{Q:Exit->Act->World->Prop}{r:Option Nat}
  (hsz:∀listed a w,JJ listed a w->listed.size=ops.size) (hdc:∀listed a w,JJ listed a w->∀i k,i<ops.size->dp listed i=true->(masks.getD i 0).testBit k=true->dp listed k=true)
  (step:∀listed a w i,JJ listed a w->i∈Region.ready .any ops listed->wpOpIn (rF r) 0 P ops Q i (JJ (listed.setIfInBounds i true)) a w)
  (hq:∀listed a w,JJ listed a w->(∀i,i<ops.size->dp listed i=true)->Q .normal a w):∀(fuel:Nat) (listed:Array Bool) (a:Act) (w:World),left ops.size listed<=fuel->JJ listed a w->wpAnyIn (rF r) 0 P .any ops Q fuel listed a w:=by
 have done:∀(listed:Array Bool) (a:Act) (w:World),JJ listed a w->Region.ready .any ops listed=[]->Q .normal a w:=by
  intro listed a w hJ hr
  exact hq listed a w hJ (JM Dk (hsz _ _ _ hJ) hr)
 intro fuel
 induction fuel with
 | zero =>
  intro listed a w hl hJ
  have hr:Region.ready .any ops listed=[]:=by
   cases hrd:Region.ready .any ops listed with
   | nil=>rfl
   | cons x r =>
    exfalso
    have hm:x∈Region.ready .any ops listed:=by rw[hrd];simp
    have R:=Dx Dk (hsz _ _ _ hJ) (hdc _ _ _ hJ) hm
    have:x∈(List.range ops.size).filter fun i=> !dp listed i:=by simp[R.lt,R.un]
    have h0:=List.length_pos_of_mem this
    unfold left at hl
    omega
  exact⟨hr,done listed a w hJ hr⟩
 | succ fuel ih =>
  intro listed a w hl hJ
  refine⟨done listed a w hJ,fun i hi=>?_⟩
  have R:=Dx Dk (hsz _ _ _ hJ) (hdc _ _ _ hJ) hi
  refine wpOpIn_mono (fun a' w' hJ'=>ih _ a' w' ?_ hJ') (step listed a w i hJ hi)
  have hil:i<listed.size:=by rw[hsz _ _ _ hJ];exact R.lt
  have:=Hb (l:=List.range ops.size) (p:=fun i=> !dp listed i) (q:=fun k=> !dp (listed.setIfInBounds i true) k) (fun x _ hx=>by
   rw[eX hil]at hx
   split at hx
   ·simp at hx
   ·exact hx) (i:=i) (by simpa using R.lt) (by simp[R.un]) (by simp[eX hil])
  unfold left at hl ⊢
  omega
theorem Q8 {ops:Array Oper}{items:List AOper}{masks tl:List Nat}{rev:List AOper}{tw:Bool}(Dk:Dn P nt ops items masks tl rev tw){c₀:Ctx}{w₀:World}{K:LEnv->Heap->Prop}{listed:Array Bool}{a:Act}{w:World}
  (hJ:J P nt ops items masks tl rev tw c₀ w₀ K listed a w) (hall:∀i,i<ops.size->dp listed i=true):Fin c₀ w₀ nt (up K) a w:=by
 obtain⟨ρ,h,e,j,hle,hrr,hws,hdef,hsz,hj,htail,hprog,hrel,hval⟩:=hJ.st
 have hjl:j=tl.length:=by
  rcases Nat.lt_or_ge j tl.length with hlt|hge
  ·have:=(hprog j tl[j] (by simp[hlt])).1 (hall _ (Dk.tlt _ (List.getElem_mem hlt)))
   omega
  ·have:=hj.1;omega
 subst hjl
 rw[List.drop_length]at htail
 refine⟨ρ,e.get,h,hle,hrr,hws,⟨hrr.glob,hrr.lo,hdef,hsz,fun s=>?_⟩,e,rfl,htail⟩
 rcases hrel s with⟨i,b,hb,_,hun,_⟩|h
 ·have:i<ops.size:=by rw[<- Dk.len];exact(List.getElem?_eq_some_iff.1 hb).1
  rw[hall i this]at hun
  cases hun
 ·exact h
theorem Bb:∀{l:List AOper}{K:LEnv->Heap->Prop}{e:LEnv}{h:Heap},wJ P l K e h->ga P [] l K e h
 | [],_,_,_,hv=>hv
 | o::r,K,e,h,hv=>by
  have hk:∀e h,wJ P r K e h->Bc P [] e h/\ga P [] r K e h:=fun e h hv=>⟨trivial,Bb hv⟩
  simp only[wJ,ga,iy,vguard]at hv ⊢
  cases hg:o.guard with
  | none=>simp only[hg]at hv ⊢;exact kX (fun d h' hh=>hk _ _ hh) hv
  | some q =>
   obtain⟨j,want⟩:=q
   simp only[hg]at hv ⊢
   cases hb:gv (e.get j)<;>simp only[hb]at hv ⊢
   exact⟨fun hb=>kX (fun d h' hh=>hk _ _ hh) (hv.1 hb),fun hb=>hk _ _ (hv.2 hb)⟩
theorem DR {rev l:List AOper}{K:LEnv->Heap->Prop}{e:LEnv}{h:Heap}(hv:DS P rev l K e h):ga P rev l K e h:=by
 cases rev with
 | nil=>exact Bb hv
 | cons b r=>exact hv
theorem Bg {id:Nat}{ops:Array Oper}{items:List AOper}{masks tl:List Nat}{rev:List AOper}{tw:Bool}(Dk:Dn P nt ops items masks tl rev tw) (hm:P.follows .mixedOrders=true){K:LEnv->Heap->Prop}{Q:LPost}{e:LEnv}{h:Heap}
  (hq:∀e h,K e h->Q .normal e h)
  (hv:vcVals P (((List.range ops.size).filter (fun i=> !tl.contains i)).filterMap (fun i=>items[i]?)) (DS P rev (tl.filterMap (fun i=>items[i]?)) K) e h)
  (JJ:Ctx->World->Array Bool->Act->World->Prop)
  (hsz:∀c w₀ listed a w,JJ c w₀ listed a w->listed.size=ops.size) (hdc:∀c w₀ listed a w,JJ c w₀ listed a w->∀i k,i<ops.size->dp listed i=true->(masks.getD i 0).testBit k=true->dp listed k=true)
  (step:∀c w₀ r Q listed a w i,JJ c w₀ listed a w->i∈Region.ready .any ops listed->wpOpIn (rF r) 0 P ops Q i (JJ c w₀ (listed.setIfInBounds i true)) a w)
  (fin:∀c w₀ listed a w,JJ c w₀ listed a w->(∀i,i<ops.size->dp listed i=true)->Fin c w₀ nt (up K) a w)
  (init:∀c w a T,c.h=h->c.hp=w.heap->aj c->eP c a.defers->a.tmps.size=nt->ga P rev (tl.filterMap (fun i=>items[i]?)) K T c.h->(∀i,i<ops.size->dp (Array.replicate ops.size false) i=false) ->
   (∀s,(∃i b,items[i]?=some b/\i∉tl/\dp (Array.replicate ops.size false) i=false/\b.dst=some s)\/au c (T.get s) (a.tmps.getD s Go.undef))->(∀i b,items[i]?=some b->i∉tl->cb P b T c.h)->JJ c w (Array.replicate ops.size false) a { w with drawn:=w.drawn+1 }) :
  tI P nt (.region id ops true) (fun x=>up (Q x)) e.get h:=by
 intro rd c w a hh hp hr hs _
 subst hh
 refine wpIn_region_any hm ?_
 let V:=(List.range ops.size).filter (fun i=> !tl.contains i)
 let vals:=V.filterMap (fun i=>items[i]?)
 have hV:∀b∈vals,∃i o,items[i]?=some b/\i∉tl/\ops[i]?=some o:=by
  intro b hb
  simp only[vals,V,List.mem_filterMap,List.mem_filter,List.mem_range]at hb
  obtain⟨i,⟨hi,hn⟩,hb⟩:=hb
  exact⟨i,ops[i],hb,by simpa using hn,by simp[hi]⟩
 have hVmem:∀i b,items[i]?=some b->i∉tl->b∈vals:=by
  intro i b hb hn
  have:i<ops.size:=by rw[<- Dk.len];exact(List.getElem?_eq_some_iff.1 hb).1
  simp only[vals,V,List.mem_filterMap,List.mem_filter,List.mem_range]
  exact⟨i,⟨this,by simpa using hn⟩,hb⟩
 obtain⟨T,t1,t2,t3⟩:=HE vals (fun b hb=>by
   obtain⟨i,o,h1,h2,h3⟩:=hV b hb
   have:=(Dk.item i o b h3 h1).op
   rw[if_neg (by simpa using h2)]at this
   exact gy this) (fun b hb s hs hrd=>by
   obtain⟨i,o,h1,h2,h3⟩:=hV b hb
   have:=((Dk.rdv i i b b h1 h1 h2 s hs).2 hrd).1
   omega) (by
   have hpw:V.Pairwise (· < ·):=List.Pairwise.filter _ List.pairwise_lt_range
   have hall:∀i∈V,i∉tl:=by intro i hi;simp only[V,List.mem_filter]at hi;simpa using hi.2
   have:∀(l:List Nat),(∀i∈l,i∉tl)->l.Pairwise (· < ·)->(l.filterMap (fun i=>items[i]?)).Pairwise (fun a b=>∀s,b.dst=some s->a.dst≠some s/\s∉a.rd):=by
    intro l
    induction l with
    | nil=>intro _ _;simp
    | cons x r ih =>
     intro hn hp'
     rw[List.pairwise_cons]at hp'
     have ih':=ih (fun i hi=>hn i (by simp[hi])) hp'.2
     cases hx:items[x]? with
     | none=>rw[List.filterMap_cons_none hx];exact ih'
     | some ax =>
      rw[List.filterMap_cons_some hx,List.pairwise_cons]
      refine⟨fun b hb s hs=>?_,ih'⟩
      simp only[List.mem_filterMap]at hb
      obtain⟨k,hk,hb⟩:=hb
      have hlt:=hp'.1 k hk
      have hkn:=hn k (by simp[hk])
      refine⟨(Dk.rdv k x b ax hb hx hkn s hs).1 (by omega),fun hrd=>?_⟩
      have:=((Dk.rdv k x b ax hb hx hkn s hs).2 hrd).1
      omega
   exact this V hall hpw) hv
 have hfalse:∀i,i<ops.size->dp (Array.replicate ops.size false) i=false:=by intro i hi;unfold dp;simp[Array.getD,hi]
 refine SQ Dk (JJ:=JJ c w) (hsz c w) (hdc c w) (step c w _ _) (fun listed a' w' hJ hall=>Fin.mono (fun t h hk=>by obtain⟨e',rfl,hk⟩:=hk;exact⟨e',rfl,hq e' h hk⟩) (fin c w listed a' w' hJ hall)) ops.size _ a _ ?_ ?_
 ·unfold left
  exact Nat.le_trans (List.length_filter_le _ _) (by simp)
 ·refine init c w a T rfl hp hr hs.defers hs.size (DR t1) hfalse (fun s=>?_) (fun i b hb hn=>t3 b (hVmem i b hb hn))
  by_cases hex:∃i b,items[i]?=some b/\i∉tl/\b.dst=some s
  ·obtain⟨i,b,hb,hn,hd⟩:=hex
   left
   exact⟨i,b,hb,hn,hfalse i (by rw[<- Dk.len];exact(List.getElem?_eq_some_iff.1 hb).1),hd⟩
  ·right
   rw[t2 s (fun b hb hbd=>by
    obtain⟨i,o,h1,h2,h3⟩:=hV b hb
    exact hex ⟨i,b,h1,h2,hbd⟩)]
   exact hs.rel s
theorem Lc {id:Nat}{ops:Array Oper}{items:List AOper}{masks tl:List Nat}{rev:List AOper}(Dk:Dn P nt ops items masks tl rev false) (hm:P.follows .mixedOrders=true){K:LEnv->Heap->Prop}{Q:LPost}{e:LEnv}{h:Heap}
  (hq:∀e h,K e h->Q .normal e h)
  (hv:vcVals P (((List.range ops.size).filter (fun i=> !tl.contains i)).filterMap (fun i=>items[i]?)) (DS P rev (tl.filterMap (fun i=>items[i]?)) K) e h):tI P nt (.region id ops true) (fun x=>up (Q x)) e.get h:=by
 refine Bg Dk hm hq hv (fun c w₀=>J P nt ops items masks tl rev false c w₀ K) (fun _ _ _ _ _ hJ=>hJ.size) (fun _ _ _ _ _ hJ=>hJ.dc) (fun _ _ _ _ _ _ _ _ hJ hi=>OQ Dk hJ hi) (fun _ _ _ _ _ hJ hall=>Q8 Dk hJ hall) ?_
 intro c w a T hh hp hr hdef hsz t1 hfalse hrel hval
 have hce:(⟨c.ρ,c.X,c.h,w.heap⟩:Ctx)=c:=by rw[<- hp]
 have hw:({ w with drawn:=w.drawn+1 }:World).heap=w.heap:=rfl
 refine⟨by simp,fun i k hi hl=>(by rw[hfalse i hi]at hl;cases hl),c.ρ,c.h,T,0,?_,?_,⟨rfl,rfl,rfl⟩,(by rw[hw,hce];exact hdef),hsz,⟨Nat.zero_le _,fun h=>by cases h⟩,by simpa using t1,fun l i hl=>?_,fun s=>?_,fun i b hb hn _=>hval i b hb hn⟩
 ·rw[hw,hce];exact Ctx.le.refl c
 ·rw[hw,hce];exact hr
 ·rw[hfalse i (Dk.tlt i (List.mem_of_getElem? hl))];simp
 ·rw[hw,hce];exact hrel s
theorem I6 {id:Nat}{ops:Array Oper}{items:List AOper}{masks tl:List Nat}{rev:List AOper}(Dk:Dn P nt ops items masks tl rev true){ia ib:Nat}{r:List Nat}{sa sb:Nat}{za zb:D}(T:U1 P nt ops items masks tl ia ib r sa sb za zb)
  (hm:P.follows .mixedOrders=true) {K:LEnv->Heap->Prop}{Q:LPost}{e:LEnv}{h:Heap}(hq:∀e h,K e h->Q .normal e h)
  (hv:vcVals P (((List.range ops.size).filter (fun i=> !tl.contains i)).filterMap (fun i=>items[i]?)) (DS P rev (tl.filterMap (fun i=>items[i]?)) K) e h):tI P nt (.region id ops true) (fun x=>up (Q x)) e.get h:=by
 refine Bg Dk hm hq hv (fun c w₀ listed a w=>J1 P nt ops items masks tl rev ia ib r sa sb za zb c w₀ K listed a w\/J P nt ops items masks tl rev true c w₀ K listed a w)
  (fun _ _ _ _ _ hJ=>hJ.elim (·.size) (·.size)) (fun _ _ _ _ _ hJ=>hJ.elim (·.dc) (·.dc)) (fun _ _ _ _ _ _ _ _ hJ hi=>hJ.elim (fun hJ=>QC Dk T hJ hi) fun hJ=>wpOpIn_mono (fun _ _ h=>Or.inr h) (OQ Dk hJ hi)) (fun c w₀ listed a w hJ hall=>hJ.elim (fun hJ=>?_) fun hJ=>Q8 Dk hJ hall) ?_
 ·exfalso
  obtain⟨ρ,h0,N,e,A,B,hAB,hA,hB,_⟩:=hJ.st
  have h1:=hall ia (Dk.tlt ia (by rw[T.etl];simp))
  have h2:=hall ib (Dk.tlt ib (by rw[T.etl];simp))
  rw[hA]at h1;rw[hB]at h2;rw[h1,h2]at hAB;cases hAB
 ·intro c w a E hh hp hr hdef hsz t1 hfalse hrel hval
  left
  have hce:(⟨c.ρ,c.X,c.h,w.heap⟩:Ctx)=c:=by rw[<- hp]
  have hw:({ w with drawn:=w.drawn+1 }:World).heap=w.heap:=rfl
  obtain⟨N,ht⟩:=da hr
  have item:∀(k s:Nat) (z:D),(∃o t,ops[k]?=some o/\o.op=.alloc t/\dZ P t=some z/\o.dst=some s/\o.guard=none)->k∈tl->items[k]?=some ⟨some s,.alloc z,none⟩:=by
   rintro k s z ⟨o,t,ho,hop,hz,hd,hg⟩ hk
   have hlt:k<items.length:=by rw[Dk.len];exact Dk.tlt k hk
   have It:=Dk.item k o items[k] ho (by simp[hlt])
   have h1:=It.op
   rw[if_pos (by simpa using hk)]at h1
   have h2:items[k].op=.alloc z:=by
    have:=h1.1
    simp only[cOp,cOp0,hop,hz,Option.map_some]at this
    exact(Option.some.inj this).symm
   have h3:=It.dst
   have h4:=It.gn hg
   rw[hd]at h3
   rw[List.getElem?_eq_getElem hlt]
   congr 1
   cases hx:items[k] with
   | mk dst op guard =>
    rw[hx]at h2 h3 h4
    simp only at h2 h3 h4
    rw[h2,h3,h4]
  have ita:=item ia sa za T.oa (by rw[T.etl];simp)
  have itb:=item ib sb zb T.ob (by rw[T.etl];simp)
  rw[T.etl,List.filterMap_cons_some ita,List.filterMap_cons_some itb]at t1
  have f1:c.h N=.free:=ht.free
  have f2:c.h (N+1)=.free:=ht.1 _ (by omega)
  have ht2:nT (ah c.h N (.box za)) (N+1):=⟨fun m hm=>by
    have:m≠N:=by omega
    simp[ah,this];exact ht.1 m (by omega),fun k hk=>by
    have:k=N:=by omega
    subst this;simp[ah]⟩
  have u1:=(t1 N ht).2
  have u2:=(u1 (N+1) ht2).2
  rw[<- UO f1 f2]at u2
  have h00:hS c.h N za zb false false=c.h:=TN f1 f2
  have g1:∀s,s≠sa->s≠sb->(((E.put (some sa) (.ptr N 0 0)).put (some sb) (.ptr (N+1) 0 0)).get s)=E.get s:=by
   intro s h1 h2
   rw[LEnv.bo,Env.put,aa _ _ h2,LEnv.bo,Env.put,aa _ _ h1]
  refine⟨by simp,fun i k hi hl=>(by rw[hfalse i hi]at hl;cases hl),c.ρ,c.h,N,_,false,false,rfl,hfalse _ (Dk.tlt _ (by rw[T.etl];simp)),hfalse _ (Dk.tlt _ (by rw[T.etl];simp)),fun i hi=>hfalse _ (Dk.tlt _ (by rw[T.etl];simp[hi])),?_,?_,⟨rfl,rfl,rfl⟩,?_,hsz,u2,?_,?_,fun s=>?_,fun i b hb hn _=>?_⟩
  ·rw[h00,hw,hce];exact Ctx.le.refl c
  ·rw[h00,hw,hce];exact hr
  ·rw[h00,hw,hce];exact hdef
  ·rw[LEnv.bo,Env.put,aa _ _ T.ne,LEnv.bo];simp[Env.put,ah]
  ·rw[LEnv.bo];simp[Env.put,ah]
  ·by_cases h1:s=sa
   ·exact Or.inl (Or.inl ⟨h1,rfl⟩)
   ·by_cases h2:s=sb
    ·exact Or.inl (Or.inr (Or.inl ⟨h2,rfl⟩))
    ·rcases hrel s with h|h
     ·exact Or.inl (Or.inr (Or.inr h))
     ·right
      rw[h00,hw,hce,g1 s h1 h2]
      exact h
  ·obtain⟨n1,n2,n3,n4⟩:=T.vals i b hb hn
   rw[h00]
   exact cb.congr (fun s hs=>(g1 s (by rintro rfl;exact n1 hs) (by rintro rfl;exact n2 hs)).symm) (fun s hs=>g1 s (by rintro rfl;exact n3 hs) (by rintro rfl;exact n4 hs)) (hval i b hb hn)
def pairOk (masks tl rv:List Nat) (i k:Nat) (a b:AOper):Bool :=
 (match a.dst with
  | none=>true
  | some s=>if tl.contains i then tl.contains k || !b.rd.contains s||(masks.getD i 0).testBit k
   else(i == k||b.dst != some s)&&(!b.rd.contains s||(decide (i<k)&&(masks.getD k 0).testBit i))) &&
 (!(tl.contains i && !tl.contains k&&a.op.mut && !b.op.stable)||(masks.getD i 0).testBit k||rv.contains k)
def zS (masks:List Nat) (l:List Edge):Nat:=l.foldl (fun s e=>if Region.binds .any e then s ||| 2 ^ e.on ||| masks.getD e.on 0 else s) 0
def ordOk (masks:List Nat):List Nat->Bool
 | []=>true
 | i::r=>r.all (fun k=>(masks.getD k 0).testBit i)&&ordOk masks r
def itemsOf (P:Program) (nt:Nat) (ops:Array Oper) (tl:List Nat):List Oper->Nat->Option (List AOper)
 | [],_=>some []
 | o::r,i=>match (if tl.contains i then Jw P nt ops o else cdOper P nt ops o),itemsOf P nt ops tl r (i+1) with
  | some a,some s=>some (a::s)
  | _,_=>none
def ord2 (masks:List Nat):List Nat->Bool
 | a::b::r=>r.all (fun k=>(masks.getD k 0).testBit a&&(masks.getD k 0).testBit b)&&ordOk masks r
 | _=>false
def dchk (tw:Bool) (ops:Array Oper) (items:List AOper) (masks tl rv:List Nat):Bool :=
 (ops.toList.zipIdx.all fun p=>(p.1.after.toList.all fun e=> !Region.binds .any e||decide (e.on<p.2))&&(masks.getD p.2 0 == zS masks p.1.after.toList)) &&
 tl.all (fun i=>decide (i<ops.size))&&(if tw then ord2 masks tl else ordOk masks tl)&&(rv.all fun k=> !tl.contains k&&(match items[k]? with|some b=>b.guard.isNone&&b.dst.isSome|none=>false)) &&
 items.zipIdx.all fun p=>items.zipIdx.all fun q=>pairOk masks tl rv p.2 q.2 p.1 q.1
def cDr0 (P:Program) (nt:Nat) (tbl:TT) (id:Nat) (ops:Array Oper):Option bW :=
 if P.follows .mixedOrders then
  match tbl id with
  | some (masks,tl,rv)=>match itemsOf P nt ops tl ops.toList 0 with
   | some items=>if dchk false ops items masks tl rv then
     some (.dreg (((List.range ops.size).filter (fun i=> !tl.contains i)).filterMap (fun i=>items[i]?)) (tl.filterMap (fun i=>items[i]?)) (rv.filterMap (fun i=>items[i]?))) else none
   | none=>none
  | none=>none
 else none
theorem xB {ops:Array Oper}{tl:List Nat}:∀{l:List Oper}{i:Nat}{items:List AOper},itemsOf P nt ops tl l i=some items->items.length=l.length/\∀(k:Nat) (o:Oper) (a:AOper),l[k]?=some o->items[k]?=some a->Item P nt ops (tl.contains (i+k)) o a
 | [],i,items,h=>by simp[itemsOf]at h;subst h;simp
 | o::r,i,items,h=>by
  simp only[itemsOf]at h
  split at h
  ·rename_i a s h1 h2
   simp at h;subst h
   obtain⟨l1,l2⟩:=xB h2
   refine⟨by simp[l1],fun k o' a' ho ha=>?_⟩
   cases k with
   | zero =>
    simp at ho ha;subst ho ha
    rw[Nat.add_zero]
    by_cases ht:tl.contains i=true
    ·rw[if_pos ht]at h1;rw[ht];exact Iv h1
    ·rw[if_neg ht]at h1
     have:tl.contains i=false:=by simpa using ht
     rw[this];exact rP h1
   | succ k =>
    have:=l2 k o' a' (by simpa using ho) (by simpa using ha)
    rw[show i+(k+1)=i+1+k by omega]
    exact this
  ·cases h
theorem vK {masks:List Nat}{k:Nat}:∀(l:List Edge) (s:Nat),(l.foldl (fun s e=>if Region.binds .any e then s ||| 2 ^ e.on ||| masks.getD e.on 0 else s) s).testBit k=true ->
  s.testBit k=true\/∃e,e∈l/\Region.binds .any e=true/\(k=e.on\/(masks.getD e.on 0).testBit k=true):=by
 intro l
 induction l with
 | nil=>intro s h;exact Or.inl h
 | cons e r ih =>
  intro s h
  rw[List.foldl_cons]at h
  rcases ih _ h with h|⟨e',he,hb,hc⟩
  ·split at h
   ·rename_i hb
    simp only[Nat.testBit_or,Bool.or_eq_true]at h
    rcases h with(h|h)|h
    ·exact Or.inl h
    ·rw[Nat.testBit_two_pow]at h
     exact Or.inr ⟨e,by simp,hb,Or.inl (by have:=of_decide_eq_true h;omega)⟩
    ·exact Or.inr ⟨e,by simp,hb,Or.inr h⟩
   ·exact Or.inl h
  ·exact Or.inr ⟨e',by simp[he],hb,hc⟩
theorem vI {masks:List Nat}:∀{l:List Nat},ordOk masks l=true->l.Pairwise (fun i k=>(masks.getD k 0).testBit i=true)
 | [],_=>by simp
 | i::r,h=>by
  simp only[ordOk,Bool.and_eq_true,List.all_eq_true]at h
  exact List.pairwise_cons.2 ⟨fun k hk=>h.1 k hk,vI h.2⟩
theorem mem_zipIdx {α:Type}{l:List α}{i:Nat}{x:α}(h:l[i]?=some x):(x,i)∈l.zipIdx:=by
 refine List.mem_of_getElem? (i:=i) ?_
 rw[List.getElem?_zipIdx,h]
 simp
theorem PD {tw:Bool}{masks tl:List Nat}(h:(if tw then ord2 masks tl else ordOk masks tl)=true):∀l k i i':Nat,tl[l]?=some i->tl[k]?=some i'->l<k->(tw=true/\l=0/\k=1)\/(masks.getD i' 0).testBit i=true:=by
 have one:∀{t:List Nat},ordOk masks t=true->∀l k i i':Nat,t[l]?=some i->t[k]?=some i'->l<k->(masks.getD i' 0).testBit i=true:=by
  intro t ht l k i i' hl hk hlt
  have hl1:=(List.getElem?_eq_some_iff.1 hl)
  have hk1:=(List.getElem?_eq_some_iff.1 hk)
  have:=List.pairwise_iff_getElem.1 (vI ht) l k hl1.1 hk1.1 hlt
  rw[hl1.2,hk1.2]at this
  exact this
 intro l k i i' hl hk hlt
 cases tw with
 | false=>exact Or.inr (one (by simpa using h) l k i i' hl hk hlt)
 | true =>
  rw[if_pos rfl]at h
  match tl,h with
  | a::b::r,h =>
   simp only[ord2,Bool.and_eq_true,List.all_eq_true]at h
   match l,k,hl,hk,hlt with
   | 0,1,_,_,_=>exact Or.inl ⟨rfl,rfl,rfl⟩
   | 0,k+2,hl,hk,_ =>
    simp at hl hk
    subst hl
    exact Or.inr (h.1 i' (List.mem_of_getElem? hk)).1
   | 1,k+2,hl,hk,_ =>
    simp at hl hk
    subst hl
    exact Or.inr (h.1 i' (List.mem_of_getElem? hk)).2
   | l+2,k+2,hl,hk,hlt =>
    simp at hl hk
    exact Or.inr (one h.2 l k i i' hl hk (by omega))
  | [],h=>simp[ord2]at h
  | [_],h=>simp[ord2]at h
theorem Kv {tw:Bool}{ops:Array Oper}{items:List AOper}{masks tl rv:List Nat}(hi:itemsOf P nt ops tl ops.toList 0=some items) (hc:dchk tw ops items masks tl rv=true):Dn P nt ops items masks tl (rv.filterMap (fun i=>items[i]?)) tw:=by
 obtain⟨l1,l2⟩:=xB hi
 simp only[dchk,Bool.and_eq_true,List.all_eq_true]at hc
 obtain⟨⟨⟨⟨c1,c2⟩,c3⟩,c5⟩,c4⟩:=hc
 have pair:∀(i k:Nat) (a b:AOper),items[i]?=some a->items[k]?=some b->pairOk masks tl rv i k a b=true:=fun i k a b ha hb=>c4 (a,i) (mem_zipIdx ha) (b,k) (mem_zipIdx hb)
 refine⟨by simpa using l1,fun i o a ho ha=>?_,fun i o ho ed he hb=>?_,fun i o ho k hk=>?_,fun i hi=>by simpa using c2 i hi,PD c3,fun i k a b ha hb hn s hs=>?_,fun i k a b ha hb hn hk s hs hr=>?_,fun i k a b ha hb hn hk hmu hst=>?_,fun b hb=>?_⟩
 ·have:=l2 i o a (by simpa using ho) ha
  rw[Nat.zero_add]at this
  exact this
 ·have:=(c1 (o,i) (mem_zipIdx (by simpa using ho))).1 ed he
  simpa[hb] using this
 ·have:=(c1 (o,i) (mem_zipIdx (by simpa using ho))).2
  have hme:masks.getD i 0=zS masks o.after.toList:=by simpa using this
  rw[hme]at hk
  rcases vK _ _ hk with h|h
  ·simp at h
  ·exact h
 ·have:=pair i k a b ha hb
  simp only[pairOk,hs,Bool.and_eq_true]at this
  have h1:=this.1
  rw[if_neg (by simpa using hn)]at h1
  simp only[Bool.and_eq_true,Bool.or_eq_true,beq_iff_eq,bne_iff_ne,ne_eq,Bool.not_eq_true',decide_eq_true_eq]at h1
  refine⟨fun hne=>h1.1.resolve_left hne,fun hr=>?_⟩
  have:=h1.2.resolve_left (by simp[hr])
  exact this
 ·have:=pair i k a b ha hb
  simp only[pairOk,hs,Bool.and_eq_true]at this
  have h1:=this.1
  rw[if_pos (by simpa using hn)]at h1
  simp only[Bool.or_eq_true,Bool.not_eq_true']at h1
  rcases h1 with(h1|h1)|h1
  ·exact absurd (by simpa using h1) hk
  ·exfalso
   rw[List.contains_eq_mem]at h1
   simp[hr]at h1
  ·exact h1
 ·have:=pair i k a b ha hb
  simp only[pairOk,Bool.and_eq_true]at this
  have h2:=this.2
  have hk':tl.contains k=false:=by simpa using hk
  have hn':tl.contains i=true:=by simpa using hn
  simp only[hn',hk',hmu,hst]at h2
  rcases (by simpa using h2:_\/_) with h3|h3
  ·exact Or.inl h3
  ·right
   simp only[List.mem_filterMap]
   exact⟨k,h3,hb⟩
 ·simp only[List.mem_filterMap]at hb
  obtain⟨k,hk,hb⟩:=hb
  have:=c5 k hk
  rw[hb]at this
  simp only[Bool.and_eq_true,Bool.not_eq_true',Option.isNone_iff_eq_none]at this
  have hkl:k<ops.size:=by
   have h1:=(List.getElem?_eq_some_iff.1 hb).1
   rw[l1]at h1
   simpa using h1
  have It:=l2 k ops[k] b (by simp[hkl]) hb
  rw[Nat.zero_add]at It
  have hop:=It.op
  rw[if_neg (by rw[this.1];simp)]at hop
  exact⟨this.2.1,gy hop,this.2.2⟩
theorem Qr (P:Program) (nt:Nat) (tbl:TT):wD P nt (cDr0 P nt tbl):=by
 intro id ops ac h Q e hp hv
 unfold cDr0 at h
 split at h
 case isFalse=>cases h
 rename_i hm
 cases ht:tbl id with
 | none=>simp[ht]at h
 | some p =>
  obtain⟨masks,tl,rv⟩:=p
  simp only[ht]at h
  cases hi:itemsOf P nt ops tl ops.toList 0 with
  | none=>simp[hi]at h
  | some items =>
   simp only[hi]at h
   split at h
   case isFalse=>cases h
   rename_i hc
   simp only[Option.some.injEq]at h
   subst h
   exact Lc (K:=Q .normal) (Kv hi hc) hm (fun _ _ h=>h) hv
def twoOk (P:Program) (nt:Nat) (ops:Array Oper) (items:List AOper) (masks tl:List Nat):Bool :=
 match tl with
 | ia::ib::r=>match ops[ia]?,ops[ib]? with
  | some oa,some ob=>match oa.op,ob.op,oa.dst,ob.dst,oa.guard,ob.guard with
   | .alloc ta,.alloc tb,some sa,some sb,none,none=>(dZ P ta).isSome&&(dZ P tb).isSome&&ia != ib && !r.contains ia && !r.contains ib&&sa != sb&&decide (sa<nt)&&decide (sb<nt) &&
     r.all (fun k=>(masks.getD k 0).testBit ia&&(masks.getD k 0).testBit ib)&&items.zipIdx.all (fun q=>tl.contains q.2||(!q.1.rd.contains sa && !q.1.rd.contains sb&&q.1.dst != some sa&&q.1.dst != some sb))
   | _,_,_,_,_,_=>false
  | _,_=>false
 | _=>false
theorem Mr {ops:Array Oper}{items:List AOper}{masks tl:List Nat}(h:twoOk P nt ops items masks tl=true):∃ia ib r sa sb za zb,U1 P nt ops items masks tl ia ib r sa sb za zb:=by
 unfold twoOk at h
 split at h
 case h_2=>cases h
 rename_i ia ib r
 split at h
 case h_2=>cases h
 rename_i oa ob hoa hob
 split at h
 case h_2=>cases h
 rename_i ta tb sa sb h1 h2 h3 h4 h5 h6
 simp only[Bool.and_eq_true,Bool.not_eq_true',bne_iff_ne,ne_eq,decide_eq_true_eq,List.all_eq_true,Option.isSome_iff_exists]at h
 obtain⟨⟨⟨⟨⟨⟨⟨⟨⟨⟨za,c1⟩,⟨zb,c2⟩⟩,c3⟩,c4⟩,c5⟩,c6⟩,c7⟩,c8⟩,c9⟩,c10⟩:=h
 refine⟨ia,ib,r,sa,sb,za,zb,rfl,⟨c3,by simpa using c4,by simpa using c5⟩,⟨oa,ta,hoa,h1,c1,h3,h5⟩,⟨ob,tb,hob,h2,c2,h4,h6⟩,c6,c9,fun k b hb hk=>?_,⟨c7,c8⟩⟩
 have:=c10 (b,k) (mem_zipIdx hb)
 have hk':(ia::ib::r).contains k=false:=by simpa using hk
 simp only[hk',Bool.false_or,Bool.and_eq_true,Bool.not_eq_true',bne_iff_ne,ne_eq]at this
 obtain⟨⟨⟨t1,t2⟩,t3⟩,t4⟩:=this
 exact⟨by simpa using t1,by simpa using t2,t3,t4⟩
def SL (P:Program) (nt:Nat) (tbl:TT) (id:Nat) (ops:Array Oper):Option bW :=
 if P.follows .mixedOrders then
  match tbl id with
  | some (masks,tl,rv)=>match itemsOf P nt ops tl ops.toList 0 with
   | some items=>if dchk true ops items masks tl rv&&twoOk P nt ops items masks tl then
     some (.dreg (((List.range ops.size).filter (fun i=> !tl.contains i)).filterMap (fun i=>items[i]?)) (tl.filterMap (fun i=>items[i]?)) (rv.filterMap (fun i=>items[i]?))) else none
   | none=>none
  | none=>none
 else none
theorem Qq (P:Program) (nt:Nat) (tbl:TT):wD P nt (SL P nt tbl):=by
 intro id ops ac h Q e hp hv
 unfold SL at h
 split at h
 case isFalse=>cases h
 rename_i hm
 cases ht:tbl id with
 | none=>simp[ht]at h
 | some p =>
  obtain⟨masks,tl,rv⟩:=p
  simp only[ht]at h
  cases hi:itemsOf P nt ops tl ops.toList 0 with
  | none=>simp[hi]at h
  | some items =>
   simp only[hi]at h
   split at h
   case isFalse=>cases h
   rename_i hc
   simp only[Bool.and_eq_true]at hc
   simp only[Option.some.injEq]at h
   subst h
   obtain⟨_,_,_,_,_,_,_,T⟩:=Mr hc.2
   exact I6 (K:=Q .normal) (Kv hi hc.1) T hm (fun _ _ h=>h) hv
end Go.Am
namespace Go.Am
open Go
variable [bV]
variable {P:Program}{nt:Nat}
def AOp.gQ:AOp->Bool
 | .mov _=>true
 | .pick _ _ _=>true
 | .bin _ _ _=>true
 | .eqv _ _ _ _ _=>true
 | .un _ _=>true
 | .conv _ _=>true
 | .ext _ _=>true
 | .fld _ _ _ _=>true
 | .bld _ _=>true
 | .bldS _ _ _ _ _=>true
 | .slen _=>true
 | .sidx _ _ _ _ _=>true
 | .sslc _ _ _=>true
 | .mkf _ _ _=>true
 | .mn _ _=>true
 | .mx _ _=>true
 | .mn3 _ _ _=>true
 | .mx3 _ _ _=>true
 | _=>false
theorem DQ {op:AOp}(hf:op.gQ=true){K:D->Prop}{e:LEnv}{h h':Heap}(hv:vcdOp P op K e h):vcdOp P op K e h':=by
 cases op<;>first|exact hv|cases hf
theorem cb.free {a:AOper}(hf:a.op.gQ=true){e:LEnv}{h h':Heap}(hv:cb P a e h):cb P a e h':=by
 obtain⟨d,h1,h2⟩:=hv
 refine⟨d,h1,?_⟩
 cases hg:a.guard with
 | none=>rw[hg]at h2;exact fun K' hk=>DQ hf (h2 K' hk)
 | some p =>
  obtain⟨g,want⟩:=p
  rw[hg]at h2
  obtain⟨b,q1,q2,q3⟩:=h2
  exact⟨b,q1,fun hb K' hk=>DQ hf (q2 hb K' hk),q3⟩
def Dv (masks tl:List Nat) (k:Nat):Nat:=(tl.filter fun i=>(masks.getD k 0).testBit i).length
def jz (items:List AOper) (masks tl:List Nat) (j:Nat):List AOper:=((List.range items.length).filter fun k=> !tl.contains k&&Dv masks tl k == j).filterMap fun k=>items[k]?
def sRevI (items:List AOper) (masks tl:List Nat) (j i:Nat):List Nat :=
 (List.range items.length).filter fun k=> !tl.contains k&&decide (Dv masks tl k<j) && !(masks.getD i 0).testBit k&&(match items[k]? with|some b=> !b.op.gQ|none=>false)
def wX (items:List AOper) (masks tl:List Nat) (j i:Nat):List AOper:=(sRevI items masks tl j i).filterMap fun k=>items[k]?
def sCode (items:List AOper) (masks tl:List Nat):List Nat->Nat->bW
 | [],j=>.dreg (jz items masks tl j) [] []
 | i::r,j=>.seq (.dreg (jz items masks tl j) (match items[i]? with|some a=>[a]|none=>[⟨none,.dead,none⟩]) (wX items masks tl (j+1) i)) (sCode items masks tl r (j+1))
def sRest (P:Program) (items:List AOper) (masks tl:List Nat):List Nat->Nat->(LEnv->Heap->Prop)->LEnv->Heap->Prop
 | [],_,K=>K
 | i::r,j,K=>match items[i]? with
  | some a=>qI P a fun e h=>Bc P (wX items masks tl (j+1) i) e h/\vcVals P (jz items masks tl (j+1)) (sRest P items masks tl r (j+1) K) e h
  | none=>fun _ _=>False
def QL:AOp->Bool
 | .bldS ..=>false
 | .mk ..=>false
 | .call ..=>false
 | .fadd ..=>false
 | .nilq ..=>false
 | _=>true
theorem Mi {op:AOp}(hp:QL op=true){K:D->Prop}{e:LEnv}{h:Heap}:vcdOp P op K e h=vcOp P op (fun d _=>K d) e h:=by
 cases op<;>first|rfl|cases hp
theorem DP {op:AOp}{K K':D->Prop}(hk:∀d,K d->K' d){e:LEnv}{h:Heap}(hv:vcdOp P op K e h):vcdOp P op K' e h:=by
 by_cases hp:QL op=true
 ·rw[Mi hp]at hv ⊢
  exact kX (fun d _ hd=>hk d hd) hv
 cases op with
 | bldS a b c d f=>exact⟨hv.1,hv.2.1,hv.2.2.1,hk _ hv.2.2.2⟩
 | call f as =>
  obtain⟨r,h1,h2,h3,h4⟩:=hv
  exact⟨r,h1,h2,h3,hk _ h4⟩
 | mk a b z l c =>
  simp only[vcdOp]at hv ⊢
  exact gB (fun i hi=>gB (fun j hj=>⟨hj.1,hj.2.1,hk _ hj.2.2⟩) hi) hv
 | fadd x o =>
  simp only[vcdOp]at hv ⊢
  split at hv
  ·exact⟨hv.1,hk _ hv.2⟩
  ·exact hk _ hv
  ·exact hv
 | nilq neg x =>
  simp only[vcdOp]at hv ⊢
  split at hv
  ·exact hk _ hv
  ·exact hk _ hv
  ·exact hv
 | _=>exact absurd rfl hp
theorem lX:∀{l:List AOper}{K K':LEnv->Heap->Prop},(∀e h,K e h->K' e h)->∀{e:LEnv}{h:Heap},vcVals P l K e h->vcVals P l K' e h
 | [],_,_,hk,e,h,hv=>hk e h hv
 | o::r,K,K',hk,e,h,hv=>by
  simp only[vcVals,DO]at hv ⊢
  cases hg:o.guard with
  | none =>
   simp only[hg]at hv ⊢
   exact DP (fun d hd=>lX hk hd) hv
  | some q =>
   obtain⟨j,want⟩:=q
   simp only[hg,aQ]at hv ⊢
   cases hb:gv (e.get j)<;>simp only[hb]at hv ⊢<;>try exact hv
   exact⟨fun hb=>DP (fun d hd=>lX hk hd) (hv.1 hb),fun hb=>lX hk (hv.2 hb)⟩
theorem GD {o:AOper}{K K':LEnv->Heap->Prop}(hk:∀e h,K e h->K' e h){e:LEnv}{h:Heap}(hv:qI P o K e h):qI P o K' e h:=by
 simp only[iy,vguard]at hv ⊢
 cases hg:o.guard with
 | none=>simp only[hg]at hv ⊢;exact kX (fun d h' hh=>hk _ _ hh) hv
 | some q =>
  obtain⟨j,want⟩:=q
  simp only[hg]at hv ⊢
  cases hb:gv (e.get j)<;>simp only[hb]at hv ⊢<;>try exact hv
  exact⟨fun hb=>kX (fun d h' hh=>hk _ _ hh) (hv.1 hb),fun hb=>hk _ _ (hv.2 hb)⟩
theorem vF {items:List AOper}{masks tl:List Nat}:∀(l:List Nat) (j:Nat){Q:LPost}{e:LEnv}{h:Heap},vcC P (sCode items masks tl l j) Q e h->vcVals P (jz items masks tl j) (sRest P items masks tl l j (Q .normal)) e h
 | [],j,Q,e,h,hv=>hv
 | i::r,j,Q,e,h,hv=>by
  simp only[sCode,vcC]at hv
  refine lX (fun e h hv=>?_) hv
  simp only[sRest]
  have hv:=DR hv
  cases hi:items[i]? with
  | none=>simp only[hi,ga,iy,vcOp]at hv
  | some a =>
   simp only[hi,ga]at hv ⊢
   exact GD (fun e h hh=>⟨hh.1,vF r (j+1) hh.2⟩) hv
structure BE (P:Program) (nt:Nat) (ops:Array Oper) (items:List AOper) (masks tl:List Nat):Prop where
 len:items.length=ops.size
 itv:∀(i:Nat) (o:Oper) (a:AOper),ops[i]?=some o->items[i]?=some a->i∉tl->Item P nt ops false o a
 itt:∀(i:Nat) (o:Oper),ops[i]?=some o->i∈tl->cOper P true nt ops o=items[i]?
 edge:∀(i:Nat) (o:Oper),ops[i]?=some o->∀e∈o.after.toList,Region.binds .any e=true->e.on<i
 mask:∀(i:Nat) (o:Oper),ops[i]?=some o->∀k,(masks.getD i 0).testBit k=true->∃e,e∈o.after.toList/\Region.binds .any e=true/\(k=e.on\/(masks.getD e.on 0).testBit k=true)
 tlt:∀i∈tl,i<ops.size
 stg:∀(k l i:Nat),k<ops.size->k∉tl->tl[l]?=some i->((masks.getD k 0).testBit i=true↔l<Dv masks tl k)
 rdv:∀(i k:Nat) (a b:AOper),items[i]?=some a->items[k]?=some b->i∉tl->∀s,a.dst=some s->(i≠k->b.dst≠some s)/\(s∈b.rd->i<k/\(masks.getD k 0).testBit i=true/\(k∉tl->Dv masks tl i<=Dv masks tl k))
 rdt:∀(i k:Nat) (a b:AOper),items[i]?=some a->items[k]?=some b->i∈tl->k∉tl->∀s,a.dst=some s->s∈b.rd->(masks.getD k 0).testBit i=true\/(masks.getD i 0).testBit k=true
 rev:∀(l i:Nat),tl[l]?=some i->∀b,b∈wX items masks tl (l+1) i->b.guard=none/\b.dst.isSome=true
structure T8 (P:Program) (nt:Nat) (ops:Array Oper) (items:List AOper) (masks tl:List Nat):Prop extends BE P nt ops items masks tl where
 tord:∀l k i i':Nat,tl[l]?=some i->tl[k]?=some i'->l<k->(masks.getD i' 0).testBit i=true
variable {ops:Array Oper}{items:List AOper}{masks tl:List Nat}
theorem Ka (S:BE P nt ops items masks tl){listed:Array Bool}(hsz:listed.size=ops.size) (hdc:∀i k,i<ops.size->dp listed i=true->(masks.getD i 0).testBit k=true->dp listed k=true)
  {i:Nat}(hi:i∈Region.ready .any ops listed):SZ ops masks listed i:=by
 obtain⟨h1,h2,h3⟩:=Em hi
 refine⟨h1,h2,fun k hk=>?_⟩
 have ho:ops[i]?=some ops[i]:=by simp[h1]
 obtain⟨e,he,hb,hc⟩:=S.mask i _ ho k hk
 have hon:=S.edge i _ ho e he hb
 have hl:dp listed e.on=true:=by
  have:=h3 _ ho e he hb
  unfold dp
  have hsz:e.on<listed.size:=by rw[hsz];omega
  simpa[Array.getD,hsz] using this
 rcases hc with rfl|h
 ·exact hl
 ·exact hdc e.on k (by omega) hl h
theorem IN (S:BE P nt ops items masks tl){listed:Array Bool}(hsz:listed.size=ops.size) (hr:Region.ready .any ops listed=[]):∀i,i<ops.size->dp listed i=true:=by
 intro i
 induction i using Nat.strongRecOn with
 | _ i ih =>
  intro hi
  by_cases hl:dp listed i=true
  ·exact hl
  ·exfalso
   have hmem:i∈Region.ready .any ops listed:=by
    unfold Region.ready
    simp only[List.mem_filter,List.mem_range,Bool.and_eq_true,Bool.not_eq_true']
    refine⟨hi,by unfold dp at hl;simpa using hl,?_⟩
    have ho:ops[i]?=some ops[i]:=by simp[hi]
    rw[ho]
    simp only[Option.map_some,Option.getD_some,Array.all_eq_true']
    intro e he
    by_cases hb:Region.binds .any e=true
    ·have hlt:=S.edge i _ ho e (by simpa using he) hb
     have:=ih e.on hlt (by omega)
     unfold dp at this
     have hs:e.on<listed.size:=by omega
     simp[Array.getD,hs]at this ⊢
     simp[this]
    ·simp[hb]
   rw[hr]at hmem
   simp at hmem
theorem Q4 (S:BE P nt ops items masks tl){JJ:Array Bool->Act->World->Prop}{Q:Exit->Act->World->Prop}{r:Option Nat}
  (hsz:∀listed a w,JJ listed a w->listed.size=ops.size) (hdc:∀listed a w,JJ listed a w->∀i k,i<ops.size->dp listed i=true->(masks.getD i 0).testBit k=true->dp listed k=true)
  (step:∀listed a w i,JJ listed a w->i∈Region.ready .any ops listed->wpOpIn (rF r) 0 P ops Q i (JJ (listed.setIfInBounds i true)) a w)
  (hq:∀listed a w,JJ listed a w->(∀i,i<ops.size->dp listed i=true)->Q .normal a w):∀(fuel:Nat) (listed:Array Bool) (a:Act) (w:World),left ops.size listed<=fuel->JJ listed a w->wpAnyIn (rF r) 0 P .any ops Q fuel listed a w:=by
 have done:∀(listed:Array Bool) (a:Act) (w:World),JJ listed a w->Region.ready .any ops listed=[]->Q .normal a w:=by
  intro listed a w hJ hr
  exact hq listed a w hJ (IN S (hsz _ _ _ hJ) hr)
 intro fuel
 induction fuel with
 | zero =>
  intro listed a w hl hJ
  have hr:Region.ready .any ops listed=[]:=by
   cases hrd:Region.ready .any ops listed with
   | nil=>rfl
   | cons x r =>
    exfalso
    have hm:x∈Region.ready .any ops listed:=by rw[hrd];simp
    have R:=Ka S (hsz _ _ _ hJ) (hdc _ _ _ hJ) hm
    have:x∈(List.range ops.size).filter fun i=> !dp listed i:=by simp[R.lt,R.un]
    have h0:=List.length_pos_of_mem this
    unfold left at hl
    omega
  exact⟨hr,done listed a w hJ hr⟩
 | succ fuel ih =>
  intro listed a w hl hJ
  refine⟨done listed a w hJ,fun i hi=>?_⟩
  have R:=Ka S (hsz _ _ _ hJ) (hdc _ _ _ hJ) hi
  refine wpOpIn_mono (fun a' w' hJ'=>ih _ a' w' ?_ hJ') (step listed a w i hJ hi)
  have hil:i<listed.size:=by rw[hsz _ _ _ hJ];exact R.lt
  have:=Hb (l:=List.range ops.size) (p:=fun i=> !dp listed i) (q:=fun k=> !dp (listed.setIfInBounds i true) k) (fun x _ hx=>by
   rw[eX hil]at hx
   split at hx
   ·simp at hx
   ·exact hx) (i:=i) (by simpa using R.lt) (by simp[R.un]) (by simp[eX hil])
  unfold left at hl ⊢
  omega
structure OR (P:Program) (nt:Nat) (ops:Array Oper) (items:List AOper) (masks tl:List Nat) (X:XT) (L:(Nat->Option Nat)->Heap->World->Prop) (w₀:World) (K:LEnv->Heap->Prop) (listed:Array Bool) (a:Act) (w:World)
  (ρ:Nat->Option Nat) (h:Heap) (e:LEnv) (j:Nat):Prop where
 size:listed.size=ops.size
 dc:∀i k,i<ops.size->dp listed i=true->(masks.getD i 0).testBit k=true->dp listed k=true
 le:L ρ h w
 hr:aj ⟨ρ,X,h,w.heap⟩
 ws:WS w₀ w
 defers:eP ⟨ρ,X,h,w.heap⟩ a.defers
 tsz:a.tmps.size=nt
 jle:j<=tl.length
 rest:sRest P items masks tl (tl.drop j) j K e h
 prog:∀l i,tl[l]?=some i->(dp listed i=true↔l<j)
 rel:∀s,(∃i b,items[i]?=some b/\i∉tl/\dp listed i=false/\b.dst=some s)\/au ⟨ρ,X,h,w.heap⟩ (e.get s) (a.tmps.getD s Go.undef)
 val:∀i b,items[i]?=some b->i∉tl->dp listed i=false->Dv masks tl i<=j->cb P b e h
theorem dC {j:Nat}{b:AOper}(hb:b∈jz items masks tl j):∃i,items[i]?=some b/\i∉tl/\Dv masks tl i=j:=by
 simp only[jz,List.mem_filterMap,List.mem_filter,List.mem_range,Bool.and_eq_true,beq_iff_eq,Bool.not_eq_true']at hb
 obtain⟨i,⟨_,h1,h2⟩,h3⟩:=hb
 exact⟨i,h3,by simpa using h1,h2⟩
theorem wW {i:Nat}{b:AOper}(hi:items[i]?=some b) (hn:i∉tl):b∈jz items masks tl (Dv masks tl i):=by
 simp only[jz,List.mem_filterMap,List.mem_filter,List.mem_range,Bool.and_eq_true,beq_iff_eq,Bool.not_eq_true']
 exact⟨i,⟨(List.getElem?_eq_some_iff.1 hi).1,by simpa using hn,rfl⟩,hi⟩
theorem Dt (S:BE P nt ops items masks tl){j:Nat}{K:LEnv->Heap->Prop}{e:LEnv}{h:Heap}(hv:vcVals P (jz items masks tl j) K e h) :
  ∃T:LEnv,K T h/\(∀s,(∀a,a∈jz items masks tl j->a.dst≠some s)->T.get s=e.get s)/\∀a,a∈jz items masks tl j->cb P a T h:=by
 have opOf:∀(i:Nat) (b:AOper),items[i]?=some b->i∉tl->Item P nt ops false (ops[i]!) b:=by
  intro i b hi hn
  have hl:i<ops.size:=by rw[<- S.len];exact(List.getElem?_eq_some_iff.1 hi).1
  exact S.itv i _ b (by simp[hl]) hi hn
 refine HE _ (fun b hb=>?_) (fun b hb s hs hrd=>?_) ?_ hv
 ·obtain⟨i,h1,h2,h3⟩:=dC hb
  have:=(opOf i b h1 h2).op
  rw[if_neg (by simp)]at this
  exact gy this
 ·obtain⟨i,h1,h2,h3⟩:=dC hb
  have:=((S.rdv i i b b h1 h1 h2 s hs).2 hrd).1
  omega
 ·have hpw:((List.range items.length).filter fun k=> !tl.contains k&&Dv masks tl k == j).Pairwise (· < ·):=List.Pairwise.filter _ List.pairwise_lt_range
  have hall:∀i,i∈((List.range items.length).filter fun k=> !tl.contains k&&Dv masks tl k == j)->i∉tl:=by
   intro i hi
   simp only[List.mem_filter,Bool.and_eq_true]at hi
   simpa using hi.2.1
  have:∀(l:List Nat),(∀i∈l,i∉tl)->l.Pairwise (· < ·)->(l.filterMap (fun i=>items[i]?)).Pairwise (fun a b=>∀s,b.dst=some s->a.dst≠some s/\s∉a.rd):=by
   intro l
   induction l with
   | nil=>intro _ _;simp
   | cons x r ih =>
    intro hn hp'
    rw[List.pairwise_cons]at hp'
    have ih':=ih (fun i hi=>hn i (by simp[hi])) hp'.2
    cases hx:items[x]? with
    | none=>rw[List.filterMap_cons_none hx];exact ih'
    | some ax =>
     rw[List.filterMap_cons_some hx,List.pairwise_cons]
     refine⟨fun b hb s hs=>?_,ih'⟩
     simp only[List.mem_filterMap]at hb
     obtain⟨k,hk,hb⟩:=hb
     have hlt:=hp'.1 k hk
     have hkn:=hn k (by simp[hk])
     refine⟨(S.rdv k x b ax hb hx hkn s hs).1 (by omega),fun hrd=>?_⟩
     have:=((S.rdv k x b ax hb hx hkn s hs).2 hrd).1
     omega
  exact this _ hall hpw
theorem wpOp_put {ops:Array Oper}{i:Nat}{K:Act->World->Prop}{a:Act}{w:World}{Q:Exit->Act->World->Prop}{r:Option Nat}(h:wpOpIn (rF r) 0 P ops Q i K a w) :
    wpOpIn (rF r) 0 P ops Q i (fun a' w'=>K a' w'/\∀s,(∀o,ops[i]?=some o->o.dst≠some s)->a'.tmps.getD s Go.undef=a.tmps.getD s Go.undef) a w:=by
  unfold wpOpIn at h ⊢
  cases ho:ops[i]? with
  | none=>simp only[ho]at h ⊢;exact⟨h,fun s _=>trivial⟩
  | some o =>
    simp only[ho]at h ⊢
    have put:∀(d:List Deferred) (v:Value) (s:Nat),(∀o',some o=some o'->o'.dst≠some s)->(({ a with defers:=d }:Act).put o.dst v).tmps.getD s Go.undef=a.tmps.getD s Go.undef:=by
      intro d v s hs
      have:=hs o rfl
      cases hd:o.dst with
      | none=>rfl
      | some x =>
        have hx:x≠s:=by rintro rfl;exact this hd
        simp[Act.put,hx]
    split
    · rename_i hw
      rw[if_pos hw]at h
      unfold Oper.wpIn at h ⊢
      refine⟨h.1,?_⟩
      have h:=h.2
      generalize (o.semAt (rF r).round a.eval).run P w=res at h ⊢
      cases res with
      | ok n w' =>
        cases n<;>simp only[Oper.uponIn]at h ⊢<;>first
          | exact h
          | exact⟨h,fun s hs=>put _ _ s hs⟩
          | exact⟨h,fun s hs=>put a.defers _ s hs⟩
          | (refine⟨h.1,CallsIn.mono h.2 (fun e w'' he=>?_)⟩
             cases e
             · exact⟨he,fun s hs=>put a.defers _ s hs⟩
             · exact he
             · exact he)
          | (refine⟨h.1,RoundIn.mono h.2 (fun e w'' he=>?_)⟩
             cases e
             · exact⟨he,fun s hs=>put a.defers _ s hs⟩
             · exact he
             · exact he)
          | (refine⟨h.1,RowsIn.mono h.2 (fun v w'' he=>?_)⟩
             exact⟨he,fun s hs=>put a.defers _ s hs⟩)
      | halt x w' =>
        cases x<;>simp only[Oper.uponIn]at h ⊢<;>exact h
    · rename_i hw
      rw[if_neg hw]at h
      exact⟨h.1,h.2,fun s hs=>put a.defers _ s hs⟩
open Classical in
theorem yN (S:BE P nt ops items masks tl){X:XT}{L:(Nat->Option Nat)->Heap->World->Prop}(Lmono:∀ρ h w ρ' h' w',L ρ h w->Ctx.le ⟨ρ,X,h,w.heap⟩ ⟨ρ',X,h',w'.heap⟩->L ρ' h' w'){w₀:World}{K:LEnv->Heap->Prop}{listed:Array Bool}{a:Act}{w:World}
  {Q:Exit->Act->World->Prop}{rd:Option Nat}{ρ:Nat->Option Nat}{h:Heap}{e:LEnv}{j:Nat}
  (hJ:OR P nt ops items masks tl X L w₀ K listed a w ρ h e j) {i:Nat}(R:SZ ops masks listed i) (hlj:∀l,tl[l]?=some i->l=j) :
  wpOpIn (rF rd) 0 P ops Q i (fun a' w'=>∃ρ' h' e' j',OR P nt ops items masks tl X L w₀ K (listed.setIfInBounds i true) a' w' ρ' h' e' j'/\(j'=j\/(j'=j+1/\tl[j]?=some i))/\Ctx.le ⟨ρ,X,h,w.heap⟩ ⟨ρ',X,h',w'.heap⟩ /\
   ∀s,(∀k b,items[k]?=some b->k∉tl\/k=i->b.dst≠some s)->e'.get s=e.get s) a w:=by
 have hdc:=hJ.dc
 have hJsize:=hJ.size
 have hil:i<listed.size:=by rw[hJ.size];exact R.lt
 have hset:=fun k=>eX (k:=k) hil
 obtain⟨o,ho⟩:∃o,ops[i]?=some o:=⟨ops[i]'R.lt,by simp[R.lt]⟩
 have hitl:i<items.length:=by rw[S.len];exact R.lt
 obtain⟨a0,hai⟩:∃x,items[i]?=some x:=⟨items[i]'hitl,by simp[hitl]⟩
 obtain⟨_,_,hle,hr,hws,hdef,hsz,hj,htail,hprog,hrel,hval⟩:=hJ
 let c:Ctx:=⟨ρ,X,h,w.heap⟩
 let pend:Nat->Prop:=fun s=>∃k b,items[k]?=some b/\k∉tl/\dp listed k=false/\b.dst=some s
 let ef:LEnv:=(a0.rd++List.range nt).map fun s=>(s,if pend s then D.undef else e.get s)
 have efget:∀s,ef.get s=if s∈a0.rd++List.range nt then(if pend s then .undef else e.get s) else .undef:=fun s=>EJ _ _ s
 have hsim:jV c nt ef.get a:=by
  refine⟨hr.glob,hr.lo,hdef,hsz,fun s=>?_⟩
  rw[efget]
  split
  ·split
   ·exact .undef _
   ·rename_i hp
    exact(hrel s).resolve_left hp
  ·exact .undef _
 have hread:∀r∈a0.rd,ef.get r=e.get r:=by
  intro r hr'
  rw[efget,if_pos (by simp[hr']),if_neg]
  rintro⟨k,b,hb,hk,hun,hd⟩
  have hm:=((S.rdv k i b a0 hb hai hk r hd).2 hr').2.1
  have:=R.anc k hm
  rw[hun]at this
  cases this
 have hread':∀r∈a0.op.reads,e.get r=ef.get r:=fun r hr'=>(hread r (by simp[AOper.rd,hr'])).symm
 have dc':=Og hil R hdc
 have aD:∀{ρ':Nat->Option Nat}{h':Heap}{t':Env}{a':Act}{w':World}{d:D},c.le ⟨ρ',c.X,h',w'.heap⟩->jV ⟨ρ',c.X,h',w'.heap⟩ nt t' a'->t'=(ef.put o.dst d).get->∀s,o.dst≠some s->¬pend s->au ⟨ρ',c.X,h',w'.heap⟩ (e.get s) (a'.tmps.getD s Go.undef):=by
  intro ρ' h' t' a' w' d hle' hs' ht s hs hp
  by_cases hsn:s<nt
  ·have:=hs'.rel s
   rw[ht,LEnv.bo]at this
   have e1:Env.put ef.get o.dst d s=e.get s:=by
    have:Env.put ef.get o.dst d s=ef.get s:=by
     cases hd:o.dst with
     | none=>rfl
     | some x =>
      have:s≠x:=by rintro rfl;exact hs hd
      simp[Env.put,ah,this]
    rw[this,efget,if_pos (by simp[hsn]),if_neg hp]
   rw[e1]at this
   exact this
  ·have h1:=(hrel s).resolve_left hp
   have e1:a.tmps.getD s Go.undef=Go.undef:=by simp[Array.getD,hsz,hsn]
   have e2:a'.tmps.getD s Go.undef=Go.undef:=by simp[Array.getD,hs'.size,hsn]
   rw[e1]at h1
   rw[e2]
   exact h1.mono hle'
 by_cases htl:i∈tl
 ·
  obtain⟨l,hl⟩:=List.getElem?_of_mem htl
  have hlj':l=j:=hlj l hl
  subst hlj'
  have hlt:=(List.getElem?_eq_some_iff.1 hl).1
  have hli:tl[l]=i:=(List.getElem?_eq_some_iff.1 hl).2
  rw[List.drop_eq_getElem_cons hlt,hli]at htail
  simp only[sRest,hai]at htail
  have hco:cOper P true nt ops o=some a0:=by rw[S.itt i o ho htl,hai]
  unfold cOper at hco
  split at hco
  case isFalse=>cases hco
  rename_i hdst
  have hd:∀j,o.dst=some j->j<nt:=by intro j hj;rw[hj]at hdst;simpa using hdst
  have hop:∃op,cOp P true o=some op/\a0.op=op/\a0.dst=o.dst/\(o.guard=none->a0.guard=none)/\∀j want,o.guard=some (j,want)->∃s,(ops[j]?).bind (·.dst)=some s/\a0.guard=some (s,want):=by
   cases hop:cOp P true o with
   | none=>simp[hop]at hco
   | some op =>
    simp only[hop]at hco
    cases hg:o.guard with
    | none=>simp[hg]at hco;subst hco;exact⟨op,rfl,rfl,rfl,fun _=>rfl,fun j w hh=>by cases hh⟩
    | some p =>
     obtain⟨j,want⟩:=p
     simp only[hg]at hco
     cases hj:(ops[j]?).bind (·.dst) with
     | none=>simp[hj]at hco
     | some s=>simp[hj]at hco;subst hco;exact⟨op,rfl,rfl,rfl,fun hh=>by(cases hh),fun j' w hh=>by cases hh;exact⟨s,hj,rfl⟩⟩
  obtain⟨op,hop,e1,e2,gn,gs⟩:=hop
  subst e1
  have hnod:=mh hop
  let KK:LEnv->Heap->Prop:=fun e h=>Bc P (wX items masks tl (l+1) i) e h/\vcVals P (jz items masks tl (l+1)) (sRest P items masks tl (tl.drop (l+1)) (l+1) K) e h
  let Kenv:Env->Heap->Prop:=fun t' h'=>∃d,t'=(ef.put o.dst d).get/\KK (e.put a0.dst d) h'
  have run:vcOp P a0.op (fun d h'=>KK (e.put a0.dst d) h') e h->Gw P nt o (nF P nt ops [] Kenv) ef.get h:=by
   intro hv
   have:=nE (nt:=nt) hop hd _ ef h (vr hread' _ h hv)
   refine gz ?_ this
   rintro t' h' ⟨d,rfl,hk⟩
   exact fo ⟨d,rfl,hk⟩
  have hx:nF P nt ops [i] Kenv ef.get h:=by
   refine gK ho hnod a0.guard (fun j' want hg=>by obtain⟨s,h1,h2⟩:=gs j' want hg;exact⟨s,h1,h2⟩) gn hd ?_
   simp only[iy,vguard]at htail
   cases hg:a0.guard with
   | none=>simp only[hg]at htail;exact run htail
   | some p =>
    obtain⟨g,want⟩:=p
    simp only[hg]at htail
    cases hb:gv (e.get g)<;>simp only[hb]at htail<;>try exact htail.elim
    rename_i b
    refine⟨b,by rw[hread g (by simp[AOper.rd,hg])];exact hb,fun hbw=>run (htail.1 hbw),fun hbw=>?_⟩
    exact fo ⟨gU,by rw[LEnv.bo],htail.2 hbw⟩
  refine Eu (c:=c) hx rfl hr hsim ?_
  rintro a' w' ⟨ρ',t',h',k1,k2,k3,k4,d,ht,hk1,hk2⟩
  have hput:∀s,a0.dst≠some s->(e.put a0.dst d).get s=e.get s:=by
   intro s hs
   rw[LEnv.bo]
   cases hd:a0.dst with
   | none=>rfl
   | some x =>
    have:s≠x:=by rintro rfl;exact hs hd
    simp[Env.put,ah,this]
  obtain⟨T,t1,t2,t3⟩:=Dt S hk2
  have unl:∀k b,items[k]?=some b->k∉tl->Dv masks tl k=l+1->dp listed k=false:=by
   intro k b hb hk hst
   have hkl:k<ops.size:=by rw[<- S.len];exact(List.getElem?_eq_some_iff.1 hb).1
   have hm:=(S.stg k l i hkl hk hl).2 (by omega)
   cases hlk:dp listed k with
   | false=>rfl
   | true =>
    have:=hdc k i hkl hlk hm
    rw[R.un]at this
    cases this
  refine⟨ρ',h',T,l+1,⟨by simp[hJsize],dc',Lmono _ _ _ _ _ _ hle k1,k2,hws.trans k3,k4.defers,k4.size,by omega,t1,fun l' i' hl'=>?_,fun s=>?_,fun k b hb hk' hun hst=>?_⟩,Or.inr ⟨rfl,hl⟩,k1,fun s hs=>?_⟩
  rotate_right
  ·rw[t2 s (fun b hb hbd=>by obtain⟨k,h1,h2,h3⟩:=dC hb;exact hs k b h1 (Or.inl h2) hbd)]
   exact hput s (hs i a0 hai (Or.inr rfl))
  ·rw[hset]
   by_cases hii:i'=i
   ·subst hii
    rw[if_pos rfl]
    have:l'=l:=hlj l' hl'
    simp[this]
   ·rw[if_neg hii,hprog l' i' hl']
    have:l'≠l:=by rintro rfl;rw[hl]at hl';cases hl';exact hii rfl
    omega
  ·by_cases hex:∃b,b∈jz items masks tl (l+1)/\b.dst=some s
   ·obtain⟨b,hb,hbd⟩:=hex
    obtain⟨k,h1,h2,h3⟩:=dC hb
    left
    refine⟨k,b,h1,h2,?_,hbd⟩
    rw[hset,if_neg (by rintro rfl;exact h2 htl)]
    exact unl k b h1 h2 h3
   ·rw[t2 s (fun b hb hbd=>hex ⟨b,hb,hbd⟩)]
    by_cases hs:a0.dst=some s
    ·right
     have:=k4.rel s
     rw[ht,LEnv.bo, <- e2,hs]at this
     rw[LEnv.bo,hs]
     simpa[Env.put,ah] using this
    ·rw[hput s hs]
     by_cases hp:pend s
     ·left
      obtain⟨k,b,hb,hk',hun,hd⟩:=hp
      refine⟨k,b,hb,hk',?_,hd⟩
      rw[hset,if_neg (by rintro rfl;exact hk' htl)]
      exact hun
     ·right
      exact aD k1 k4 ht s (by rw[<- e2];exact hs) hp
  ·rw[hset]at hun
   split at hun
   ·cases hun
   ·rename_i hki
    rcases Nat.lt_or_ge (Dv masks tl k) (l+1) with hlt'|hge
    case inr =>
     have:Dv masks tl k=l+1:=by omega
     have hm:=wW (masks:=masks) hb hk'
     rw[this]at hm
     exact t3 b hm
    have hkl:k<ops.size:=by rw[<- S.len];exact(List.getElem?_eq_some_iff.1 hb).1
    have v0:=hval k b hb hk' hun (by omega)
    have hnanc:(masks.getD i 0).testBit k≠true:=by
     intro hm
     have:=R.anc k hm
     rw[hun]at this
     cases this
    have hni:¬(masks.getD k 0).testBit i=true:=by
     intro hm
     have:=(S.stg k l i hkl hk' hl).1 hm
     omega
    have vput:cb P b (e.put a0.dst d) h':=by
     by_cases hf:b.op.gQ=true
     ·refine cb.congr (e:=e) (fun r hr'=>?_) (fun s hs=>?_) (cb.free hf v0)
      ·rw[hput r]
       intro hd
       rcases S.rdt i k a0 b hai hb htl hk' r hd hr' with hm|hm
       ·exact hni hm
       ·exact hnanc hm
      ·exact hput s ((S.rdv k i b a0 hb hai hk' s hs).1 hki)
     ·have hm:b∈wX items masks tl (l+1) i:=by
       simp only[wX,sRevI,List.mem_filterMap,List.mem_filter,List.mem_range,Bool.and_eq_true,decide_eq_true_eq,Bool.not_eq_true']
       exact⟨k,⟨by rw[S.len];exact hkl,⟨⟨by simpa using hk',hlt'⟩,by simpa using hnanc⟩,by rw[hb];simpa using hf⟩,hb⟩
      have hopb:∀b',b'∈wX items masks tl (l+1) i->b'.guard=none/\b'.op.isVal=true:=by
       intro b' hb'
       refine⟨(S.rev l i hl b' hb').1,?_⟩
       simp only[wX,sRevI,List.mem_filterMap,List.mem_filter,List.mem_range,Bool.and_eq_true,decide_eq_true_eq,Bool.not_eq_true']at hb'
       obtain⟨k2,⟨q1,⟨⟨q2,q3⟩,q4⟩,q5⟩,q6⟩:=hb'
       have q7:k2<ops.size:=by rw[<- S.len];exact q1
       have:=(S.itv k2 ops[k2] b' (by simp[q7]) q6 (by simpa using q2)).op
       rw[if_neg (by simp)]at this
       exact gy this
      exact td hopb hk1 b hm (S.rev l i hl b hm).2
    refine cb.congr (fun r hr'=>(t2 r fun x hx hxd=>?_).symm) (fun s hs=>t2 s fun x hx hxd=>?_) vput
    ·obtain⟨m,m1,m2,m3⟩:=dC hx
     have:=((S.rdv m k x b m1 hb m2 r hxd).2 hr').2.2 hk'
     omega
    ·obtain⟨m,m1,m2,m3⟩:=dC hx
     have hmk:k≠m:=by rintro rfl;omega
     exact(S.rdv k m b x hb m1 hk' s hs).1 hmk hxd
 ·
  have It:=S.itv i o a0 ho hai htl
  have hsti:Dv masks tl i<=j:=by
   rcases Nat.lt_or_ge j (Dv masks tl i) with hlt|hge
   ·exfalso
    have hjl:j<tl.length:=by
     have:Dv masks tl i<=tl.length:=List.length_filter_le _ _
     omega
    have hm:=(S.stg i j tl[j] R.lt htl (by simp[hjl])).2 hlt
    have:=(hprog j tl[j] (by simp[hjl])).1 (R.anc _ hm)
    omega
   ·exact hge
  obtain⟨d,hd1,hd2⟩:=hval i a0 hai htl R.un hsti
  have hop:cdOp P o=some a0.op:=by have:=It.op;rw[if_neg (by simp)]at this;exact this
  have hnod:=pn hop
  let Kenv:Env->Heap->Prop:=fun t' h'=>t'=(ef.put o.dst d).get/\h'=h
  have run:(∀K':D->Prop,K' d->vcdOp P a0.op K' e h)->Gw P nt o (nF P nt ops [] Kenv) ef.get h:=by
   intro hv
   have:=v7 (nt:=nt) hop It.dlt (gp hread' (· = d) h (hv (· = d) rfl))
   refine gz ?_ this
   rintro t' h' ⟨d',rfl,rfl,rfl⟩
   exact fo ⟨rfl,rfl⟩
  have hx:nF P nt ops [i] Kenv ef.get h:=by
   refine gK ho hnod a0.guard (fun j' want hg=>by obtain⟨s,h1,h2⟩:=It.gs j' want hg;exact⟨s,h1,h2⟩) It.gn It.dlt ?_
   cases hg:a0.guard with
   | none=>rw[hg]at hd2;exact run hd2
   | some p =>
    obtain⟨g,want⟩:=p
    rw[hg]at hd2
    obtain⟨b,q1,q2,q3⟩:=hd2
    refine⟨b,by rw[hread g (by simp[AOper.rd,hg])];exact q1,fun hbw=>run (q2 hbw),fun hbw=>?_⟩
    exact fo ⟨by rw[LEnv.bo,q3 hbw],rfl⟩
  refine Eu (c:=c) hx rfl hr hsim ?_
  rintro a' w' ⟨ρ',t',h',k1,k2,k3,k4,ht,rfl⟩
  refine⟨ρ',h',e,j,⟨by simp[hJsize],dc',Lmono _ _ _ _ _ _ hle k1,k2,hws.trans k3,k4.defers,k4.size,hj,htail,fun l' i' hl'=>?_,fun s=>?_,fun k b hb hk' hun hst=>?_⟩,Or.inl rfl,k1,fun s hs=>rfl⟩
  ·rw[hset,if_neg (by rintro rfl;exact htl (List.mem_of_getElem? hl'))]
   exact hprog l' i' hl'
  ·by_cases hs:a0.dst=some s
   ·right
    have:=k4.rel s
    rw[ht,LEnv.bo, <- It.dst,hs]at this
    rw[hd1 s hs]
    simpa[Env.put,ah] using this
   ·by_cases hp:pend s
    ·left
     obtain⟨k,b,hb,hk',hun,hd⟩:=hp
     refine⟨k,b,hb,hk',?_,hd⟩
     rw[hset,if_neg (by rintro rfl;rw[hai]at hb;cases hb;exact hs hd)]
     exact hun
    ·right
     exact aD k1 k4 ht s (by rw[<- It.dst];exact hs) hp
  ·rw[hset]at hun
   split at hun
   ·cases hun
   ·exact hval k b hb hk' hun hst
theorem MO {id:Nat}(S:T8 P nt ops items masks tl) (hm:P.follows .mixedOrders=true){Q:LPost}{e:LEnv}{h:Heap}(hv:vcC P (sCode items masks tl tl 0) Q e h):tI P nt (.region id ops true) (fun x=>up (Q x)) e.get h:=by
 intro rd c w a hh hp hr hs _
 subst hh
 refine wpIn_region_any hm ?_
 obtain⟨T,t1,t2,t3⟩:=Dt S.toBE (vF tl 0 hv)
 have hfalse:∀i,i<ops.size->dp (Array.replicate ops.size false) i=false:=by intro i hi;unfold dp;simp[Array.getD,hi]
 have hlt:∀i b,items[i]?=some b->i<ops.size:=fun i b hb=>by rw[<- S.len];exact(List.getElem?_eq_some_iff.1 hb).1
 have hce:(⟨c.ρ,c.X,c.h,w.heap⟩:Ctx)=c:=by rw[<- hp]
 refine Q4 S.toBE (JJ:=fun listed a' w'=>∃ρ h e j,OR P nt ops items masks tl c.X (fun ρ h w=>c.le ⟨ρ,c.X,h,w.heap⟩) w (Q .normal) listed a' w' ρ h e j) (fun _ _ _ ⟨_,_,_,_,hJ⟩=>hJ.size) (fun _ _ _ ⟨_,_,_,_,hJ⟩=>hJ.dc) (fun listed a' w' i hJ hi=>?_) (fun listed a' w' hJ hall=>?_) ops.size _ a _ (Nat.le_trans (List.length_filter_le _ _) (by simp)) ?_
 ·obtain⟨ρ,h,e,j,hJ⟩:=hJ
  have R:=Ka S.toBE hJ.size hJ.dc hi
  refine wpOpIn_mono (fun a' w' ⟨ρ',h',e',j',hJ',_⟩=>⟨ρ',h',e',j',hJ'⟩) (yN S.toBE (fun ρ h w ρ' h' w' l k=>Ctx.le.trans l k) hJ R fun l hl=>?_)
  have h1:¬l<j:=by
   intro hlt
   have:=(hJ.prog l i hl).2 hlt
   rw[R.un]at this
   cases this
  rcases Nat.lt_or_ge j l with hgt|hge
  ·have hjl:j<tl.length:=Nat.lt_trans hgt (List.getElem?_eq_some_iff.1 hl).1
   have hpw:=S.tord j l tl[j] i (by simp[hjl]) hl hgt
   have:=(hJ.prog j tl[j] (by simp[hjl])).1 (R.anc _ hpw)
   omega
  ·omega
 ·obtain⟨ρ,h,e',j,hJ⟩:=hJ
  obtain⟨_,_,hle,hrr,hws,hdef,hsz,hj,htail,hprog,hrel,hval⟩:=hJ
  have hjl:j=tl.length:=by
   rcases Nat.lt_or_ge j tl.length with hlt|hge
   ·have:=(hprog j tl[j] (by simp[hlt])).1 (hall _ (S.tlt _ (List.getElem_mem hlt)))
    omega
   ·omega
  subst hjl
  rw[List.drop_length]at htail
  refine⟨ρ,e'.get,h,hle,hrr,hws,⟨hrr.glob,hrr.lo,hdef,hsz,fun s=>?_⟩,e',rfl,htail⟩
  rcases hrel s with⟨i,b,hb,_,hun,_⟩|h
  ·rw[hall i (hlt i b hb)]at hun
   cases hun
  ·exact h
 ·have hw:({ w with drawn:=w.drawn+1 }:World).heap=w.heap:=rfl
  refine⟨c.ρ,c.h,T,0,by simp,fun i k hi hl=>(by rw[hfalse i hi]at hl;cases hl),?_,?_,⟨rfl,rfl,rfl⟩,(by rw[hw,hce];exact hs.defers),hs.size,Nat.zero_le _,by simpa using t1,fun l i hl=>?_,fun s=>?_,fun i b hb hn _ hst=>?_⟩
  ·rw[hw,hce];exact Ctx.le.refl c
  ·rw[hw,hce];exact hr
  ·rw[hfalse i (S.tlt i (List.mem_of_getElem? hl))];simp
  ·by_cases hex:∃b,b∈jz items masks tl 0/\b.dst=some s
   ·obtain⟨b,hb,hbd⟩:=hex
    obtain⟨k,h1,h2,h3⟩:=dC hb
    exact Or.inl ⟨k,b,h1,h2,hfalse k (hlt k b h1),hbd⟩
   ·right
    rw[t2 s (fun b hb hbd=>hex ⟨b,hb,hbd⟩),hw,hce]
    exact hs.rel s
  ·have:=wW (masks:=masks) hb hn
   rw[show Dv masks tl i=0 by omega]at this
   exact t3 b this
def sItems (P:Program) (nt:Nat) (ops:Array Oper) (tl:List Nat):List Oper->Nat->Option (List AOper)
 | [],_=>some []
 | o::r,i=>match (if tl.contains i then cOper P true nt ops o else cdOper P nt ops o),sItems P nt ops tl r (i+1) with
  | some a,some s=>some (a::s)
  | _,_=>none
def Bd (masks tl:List Nat) (i k:Nat) (a b:AOper):Bool :=
 match a.dst with
 | none=>true
 | some s=>if tl.contains i then tl.contains k || !b.rd.contains s||(masks.getD k 0).testBit i||(masks.getD i 0).testBit k
  else(i == k||b.dst != some s)&&(!b.rd.contains s||(decide (i<k)&&(masks.getD k 0).testBit i&&(tl.contains k||decide (Dv masks tl i<=Dv masks tl k))))
def RH (ops:Array Oper) (items:List AOper) (masks tl:List Nat):Bool :=
 (ops.toList.zipIdx.all fun p=>(p.1.after.toList.all fun e=> !Region.binds .any e||decide (e.on<p.2))&&(masks.getD p.2 0 == zS masks p.1.after.toList)) &&
 tl.all (fun i=>decide (i<ops.size))&&ordOk masks tl &&
 ((List.range ops.size).all fun k=>tl.contains k||tl.zipIdx.all fun p=>(masks.getD k 0).testBit p.1 == decide (p.2<Dv masks tl k)) &&
 (items.zipIdx.all fun p=>items.zipIdx.all fun q=>Bd masks tl p.2 q.2 p.1 q.1) &&
 (tl.zipIdx.all fun p=>(wX items masks tl (p.2+1) p.1).all fun b=>b.guard.isNone&&b.dst.isSome)
theorem qR:∀{l:List Oper}{i:Nat}{items:List AOper},sItems P nt ops tl l i=some items->items.length=l.length/\∀(k:Nat) (o:Oper),l[k]?=some o->(if tl.contains (i+k) then cOper P true nt ops o else cdOper P nt ops o)=items[k]?
 | [],i,items,h=>by simp[sItems]at h;subst h;simp
 | o::r,i,items,h=>by
  simp only[sItems]at h
  split at h
  ·rename_i a s h1 h2
   simp at h;subst h
   obtain⟨l1,l2⟩:=qR h2
   refine⟨by simp[l1],fun k o' ho=>?_⟩
   cases k with
   | zero=>simp at ho;subst ho;simpa using h1
   | succ k =>
    have:=l2 k o' (by simpa using ho)
    rw[show i+(k+1)=i+1+k by omega,this]
    simp
  ·cases h
theorem Pk (hi:sItems P nt ops tl ops.toList 0=some items) (hc:RH ops items masks tl=true):T8 P nt ops items masks tl:=by
 obtain⟨l1,l2⟩:=qR hi
 simp only[RH,Bool.and_eq_true,List.all_eq_true]at hc
 obtain⟨⟨⟨⟨⟨c1,c2⟩,c3⟩,c4⟩,c5⟩,c6⟩:=hc
 have pair:∀(i k:Nat) (a b:AOper),items[i]?=some a->items[k]?=some b->Bd masks tl i k a b=true:=fun i k a b ha hb=>c5 (a,i) (mem_zipIdx ha) (b,k) (mem_zipIdx hb)
 refine⟨⟨by simpa using l1,fun i o a ho ha hn=>?_,fun i o ho hm=>?_,fun i o ho ed he hb=>?_,fun i o ho k hk=>?_,fun i hi=>by simpa using c2 i hi,fun k l i hk hn hl=>?_,fun i k a b ha hb hn s hs=>?_,fun i k a b ha hb hm hn s hs hr=>?_,fun l i hl b hb=>?_⟩,fun l k i i' hl hk hlt=>?_⟩
 ·have:=l2 i o (by simpa using ho)
  rw[Nat.zero_add,if_neg (by simpa using hn),ha]at this
  exact rP this
 ·have:=l2 i o (by simpa using ho)
  rw[Nat.zero_add,if_pos (by simpa using hm)]at this
  exact this
 ·have:=(c1 (o,i) (mem_zipIdx (by simpa using ho))).1 ed he
  simpa[hb] using this
 ·have:=(c1 (o,i) (mem_zipIdx (by simpa using ho))).2
  have hme:masks.getD i 0=zS masks o.after.toList:=by simpa using this
  rw[hme]at hk
  rcases vK _ _ hk with h|h
  ·simp at h
  ·exact h
 ·have:=c4 k (by simpa using hk)
  simp only[Bool.or_eq_true,List.all_eq_true]at this
  have:=(this.resolve_left (by simpa using hn)) (i,l) (mem_zipIdx hl)
  simp only[beq_iff_eq]at this
  rw[this];simp
 ·have:=pair i k a b ha hb
  simp only[Bd,hs]at this
  rw[if_neg (by simpa using hn)]at this
  simp only[Bool.and_eq_true,Bool.or_eq_true,beq_iff_eq,bne_iff_ne,ne_eq,Bool.not_eq_true',decide_eq_true_eq]at this
  refine⟨fun hne=>this.1.resolve_left hne,fun hr=>?_⟩
  have h2:=this.2.resolve_left (by simp[hr])
  exact⟨h2.1.1,h2.1.2,fun hk=>h2.2.resolve_left (by simpa using hk)⟩
 ·have:=pair i k a b ha hb
  simp only[Bd,hs]at this
  rw[if_pos (by simpa using hm)]at this
  simp only[Bool.or_eq_true,Bool.not_eq_true']at this
  rcases this with((h1|h1)|h1)|h1
  ·exact absurd (by simpa using h1) hn
  ·exfalso
   rw[List.contains_eq_mem]at h1
   simp[hr]at h1
  ·exact Or.inl h1
  ·exact Or.inr h1
 ·have:=c6 (i,l) (mem_zipIdx hl) b hb
  simp only[Bool.and_eq_true,Option.isNone_iff_eq_none]at this
  exact this
 ·have hl1:=List.getElem?_eq_some_iff.1 hl
  have hk1:=List.getElem?_eq_some_iff.1 hk
  have:=List.pairwise_iff_getElem.1 (vI c3) l k hl1.1 hk1.1 hlt
  rw[hl1.2,hk1.2]at this
  exact this
def cDrS (P:Program) (nt:Nat) (tbl:TT) (id:Nat) (ops:Array Oper):Option bW :=
 if P.follows .mixedOrders then
  match tbl id with
  | some (masks,tl,[999999])=>match sItems P nt ops tl ops.toList 0 with
   | some items=>if RH ops items masks tl then some (sCode items masks tl tl 0) else none
   | none=>none
  | _=>none
 else none
theorem Qo (P:Program) (nt:Nat) (tbl:TT):wD P nt (cDrS P nt tbl):=by
 intro id ops ac h Q e hp hv
 unfold cDrS at h
 split at h
 case isFalse=>cases h
 rename_i hm
 split at h
 case h_2=>cases h
 rename_i masks tl _
 cases hi:sItems P nt ops tl ops.toList 0 with
 | none=>simp[hi]at h
 | some items =>
  simp only[hi]at h
  split at h
  case isFalse=>cases h
  rename_i hc
  simp only[Option.some.injEq]at h
  subst h
  exact MO (Pk hi hc) hm hv
end Go.Am
namespace Go.Am
open Go
variable [bV]
variable {P:Program}{nt:Nat}
structure LZ (c c':Ctx):Prop where
 hp:c'.hp=c.hp
 h:∀k,c.h k≠.free->c'.h k=c.h k
 ρ:∀k,c.h k≠.free->c'.ρ k=c.ρ k
 own:∀b,b<c.hp.size->c'.own b->c.own b
theorem au.qQ {c c':Ctx}(s:LZ c c'){d:D}{v:Value}(h:au c d v):au c' d v:=by
 have row:∀{n:Nat}{x:Nat×List D},(c.h n).row=some x->(c'.h n).row=some x:=fun {n x} hx=>by rw[s.h n (Slot.fx hx)];exact hx
 induction h with
 | undef v=>exact .undef v
 | nil=>exact .nil
 | nilfn=>exact .nilfn
 | nilmap=>exact .nilmap
 | int k n=>exact .int k n
 | bool b=>exact .bool b
 | str s=>exact .str s
 | slE p cap hm=>exact .slE p cap hm
 | sl xs b o cap esz f hne hc hm he hlen hone hcell ho _ ih =>
  have hb:b<c.hp.size:=by
   cases xs with
   | nil=>exact absurd rfl hne
   | cons e r =>
    have hl:=hlen e (by simp)
    cases hcs:e.cells with
    | nil=>rw[hcs]at hl;simp at hl;omega
    | cons d ds=>exact Av (hcell 0 0 d (by simp[aU,hcs]))
  exact .sl xs b o cap esz f hne hc hm he hlen hone (fun i j d hd=>by rw[s.hp];exact hcell i j d hd) (fun h=>ho (s.own b hb h)) ih
 | msDead n off len p l k hd=>exact .msDead n off len p l k (by rw[s.h n (by rw[hd];simp)];exact hd)
 | msNil n esz els hrow hρ=>exact .msNil n esz els (row hrow) (by rw[s.ρ n (Slot.fx hrow)];exact hρ)
 | ms n off len g esz cap els cur ty fr hrow hρ hl hg hs hc hm=>exact .ms n off len g esz cap els cur ty fr (row hrow) (by rw[s.ρ n (Slot.fx hrow)];exact hρ) hl (by rw[s.hp];exact hg) hs hc hm
 | msE n off esz p els hrow=>exact .msE n off esz p els (row hrow)
 | ptrDead n i j b o hd=>exact .ptrDead n i j b o (by rw[s.h n (by rw[hd];simp)];exact hd)
 | ptrBox n j g v hb hρ=>exact .ptrBox n j g v (by rw[s.h n (by rw[hb];simp)];exact hb) (by rw[s.ρ n (by rw[hb];simp)];exact hρ)
 | ptrRow n i j g esz els hrow hρ hi=>exact .ptrRow n i j g esz els (row hrow) (by rw[s.ρ n (Slot.fx hrow)];exact hρ) hi
 | vp e j b o f hone hcell ho hb _ ih=>exact .vp e j b o f hone (fun k d hd=>by rw[s.hp];exact hcell k d hd) (fun h=>ho (s.own b hb h)) (by rw[s.hp];exact hb) ih
 | agg cs vs hsz hone _ ih=>exact .agg cs vs hsz hone ih
 | tup ds vs hsz _ ih=>exact .tup ds vs hsz ih
 | fn f a b va vb hsa hsb _ _ iha ihb=>exact .fn f a b va vb hsa hsb iha ihb
 | yld n g st B hl hρ=>exact .yld n g st B (by rw[s.h n (by rw[hl];simp)];exact hl) (by rw[s.ρ n (by rw[hl];simp)];exact hρ)
 | yldDead n g hd=>exact .yldDead n g (by rw[s.h n (by rw[hd];simp)];exact hd)
 | mp n g kt l hl hρ=>exact .mp n g kt l (by rw[s.h n (by rw[hl];simp)];exact hl) (by rw[s.ρ n (by rw[hl];simp)];exact hρ)
 | mpDead n p hd=>exact .mpDead n p (by rw[s.h n (by rw[hd];simp)];exact hd)
theorem cU.qQ {c c':Ctx}(s:LZ c c'){n:Nat}{x:Slot}(hρ:x≠.free->c'.ρ n=c.ρ n) (h:cU c n x):cU c' n x:=by
 cases x with
 | free=>trivial
 | dead=>trivial
 | box v =>
  obtain⟨g,cur,ty,h1,h2,h3,h4⟩:=h
  exact⟨g,cur,ty,by rw[hρ (by simp)];exact h1,by rw[s.hp];exact h2,h3,fun i d hd=>⟨(h4 i d hd).1,(h4 i d hd).2.qQ s⟩⟩
 | arr e l =>
  obtain⟨h1,h2,h3,h4⟩:=h
  refine⟨h1,h2,h3,?_⟩
  rcases h4 with⟨q1,q2⟩|⟨g,cur,ty,q1,q2,q3,q4⟩
  ·exact Or.inl ⟨by rw[hρ (by simp)];exact q1,q2⟩
  ·exact Or.inr ⟨g,cur,ty,by rw[hρ (by simp)];exact q1,by rw[s.hp];exact q2,q3,fun i j d hd=>(q4 i j d hd).qQ s⟩
 | frz e l =>
  obtain⟨h1,h2,h3,h4⟩:=h
  refine⟨h1,h2,h3,?_⟩
  rcases h4 with⟨q1,q2⟩|⟨g,cur,ty,fr,q1,q2,q3,q4,q5⟩
  ·exact Or.inl ⟨by rw[hρ (by simp)];exact q1,q2⟩
  ·exact Or.inr ⟨g,cur,ty,fr,by rw[hρ (by simp)];exact q1,by rw[s.hp];exact q2,q3,fun h=>q4 (s.own g (Array.getElem?_eq_some_iff.1 q2).1 h),fun i j d hd=>(q5 i j d hd).qQ s⟩
 | lp st B =>
  obtain⟨g,tmps,dfs,h1,h2,h3,h4⟩:=h
  exact⟨g,tmps,dfs,by rw[hρ (by simp)];exact h1,by rw[s.hp];exact h2,h3,fun i=>(h4 i).qQ s⟩
 | map kt l =>
  obtain⟨g,es,clock,h1,h2,h3,h4⟩:=h
  refine⟨g,es,clock,by rw[hρ (by simp)];exact h1,by rw[s.hp];exact h2,h3,fun i p hp=>?_⟩
  obtain⟨q1,q2,e,q3,q4,q5⟩:=h4 i p hp
  exact⟨q1,q2,e,q3,q4.qQ s,q5.qQ s⟩
theorem dU.qQ {c c':Ctx}(s:LZ c c') (k:dU c):dU c':=fun g o hg=>by
 obtain⟨h1,h2,h3⟩:=k g o hg
 exact⟨fun i v hi=>by rw[s.hp];exact h1 i v hi,fun ho=>h2 (s.own g h3 ho),by rw[s.hp];exact h3⟩
theorem eP.qQ {c c':Ctx}(s:LZ c c') (hl:c'.X.lo=c.X.lo) (hd:c'.X.dfs=c.X.dfs){ds:List Deferred}(k:eP c ds):eP c' ds:=by
 refine⟨⟨fun d hd'=>?_,k.marks.nd⟩,by rw[hd];exact k.rest⟩
 obtain⟨j,e,h0,h1,h2⟩:=k.marks.all d hd'
 exact⟨j,e,by rw[hl];exact h0,by rw[s.hp];exact h1,fun ho=>h2 (s.own j (Array.getElem?_eq_some_iff.1 h1).1 ho)⟩
def XT.plus (X:XT) (g:Nat):XT:=⟨fun x=>X.p x\/x=g,X.lo,X.dfs⟩
structure FA (P:Program) where
 op:AOp
 obj:Obj
 slot:Slot
 val:Nat->Value
 dv:Nat->D
 hop:∀(K:HK) (e:LEnv) (h:Heap),vcOp P op K e h->∀n,nT h n->K (dv n) (ah h n slot)
 hslot:∀(c:Ctx) (n g:Nat),c.ρ n=some g->c.hp[g]?=some obj->cU c n slot
 hrel:∀(c:Ctx) (n g:Nat),c.h n=slot->c.ρ n=some g->au c (dv n) (val g)
def OO (P:Program) (k:FA P) (o:Oper):Prop:=(∀c,o.op≠.defer c)/\∀(a:Act) (w:World),(execOp a.eval o).run P w=.ok (.value (k.val w.heap.size)) (w.alloc k.obj)
def NT (P:Program) (kt:KeyT):FA P :=
 ⟨.mkm kt,.map #[] 0,.map kt [],fun g=>.map (some g),fun n=>.mp n,fun _ _ _ h=>h,fun c n g h1 h2=>⟨g, #[],0,h1,h2,rfl,fun i p hi=>by simp at hi⟩,fun c n g h1 h2=>.mp n g kt [] h1 h2⟩
theorem Lo {kt:KeyT}{o:Oper}{t:TypeId}(hop:o.op=.makeMap t none):OO P (NT P kt) o :=
 ⟨fun c hc=>(by rw[hop]at hc;cases hc),fun a w=>(by simp[execOp,hop,Instr.makeMap,run_newObj,NT])⟩
def QS (P:Program) (zd:D) (cs:Array Value) (t:TypeId) (h:∀c:Ctx,cs.size=zd.cells.length/\∀(i:Nat) (d:D),zd.cells[i]?=some d->d.one=true/\au c d (cs.getD i Go.undef)):FA P :=
 ⟨.alloc zd,.cells cs t,.box zd,fun g=>.pointer (some ⟨g,0,none⟩),fun n=>.ptr n 0 0,fun _ _ _ h=>h,fun c n g h1 h2=>⟨g,cs,t,h1,h2,(h c).1,(h c).2⟩,fun c n g h1 h2=>.ptrBox n 0 g zd h1 h2⟩
theorem LQ {t:TypeId}{zd:D}(hz:dZ P t=some zd):∃z,(P.info? t).bind (·.zero)=some z/\∀c:Ctx,z.cells.size=zd.cells.length/\∀(i:Nat) (d:D),zd.cells[i]?=some d->d.one=true/\au c d (z.cells.getD i Go.undef):=by
 obtain⟨z,hz1,hz2⟩:=fG hz
 refine⟨z,hz1,fun c=>?_⟩
 have h:=cW (hY hz2 c) (fy hz2)
 refine⟨by simpa using h.len,fun i x hx=>?_⟩
 obtain⟨h1,h2⟩:=h.rel i x hx
 rw[aI]at h2
 exact⟨h1,h2⟩
structure IT (P:Program) (nt:Nat) (ops:Array Oper) (items:List AOper) (masks tl:List Nat) (p m s:Nat) (fk:FA P):Prop extends BE P nt ops items masks tl where
 tord:∀l k i i':Nat,tl[l]?=some i->tl[k]?=some i'->l<k->k≠p->(masks.getD i' 0).testBit i=true
 nd:∀l l' i:Nat,tl[l]?=some i->tl[l']?=some i->l=l'
 fm:tl[p]?=some m
 it:items[m]?=some ⟨some s,fk.op,none⟩
 us:∀(k:Nat) (b:AOper),items[k]?=some b->k≠m->b.dst≠some s
 sn:s<nt
 mko:∃(o:Oper),ops[m]?=some o/\OO P fk o/\o.dst=some s/\o.guard=none
 ntm:∀l i:Nat,tl[l]?=some i->l<p->(masks.getD i 0).testBit m=false
variable {ops:Array Oper}{items:List AOper}{masks tl:List Nat}{p m s:Nat}{fk:FA P}
theorem OR.congr {X:XT}{L:(Nat->Option Nat)->Heap->World->Prop}{w₀:World}{K:LEnv->Heap->Prop}{l1 l2:Array Bool}{a:Act}{w:World}{ρ:Nat->Option Nat}{h:Heap}{e:LEnv}{j:Nat}(hs:l2.size=l1.size) (hl:∀k,dp l2 k=dp l1 k)
  (J:OR P nt ops items masks tl X L w₀ K l1 a w ρ h e j):OR P nt ops items masks tl X L w₀ K l2 a w ρ h e j :=
 ⟨hs.trans J.size,fun i k hi h1 h2=>by rw[hl]at h1 ⊢;exact J.dc i k hi h1 h2,J.le,J.hr,J.ws,J.defers,J.tsz,J.jle,J.rest,fun l i hi=>by rw[hl];exact J.prog l i hi,
  fun s=>by
   rcases J.rel s with⟨i,b,h1,h2,h3,h4⟩|h
   ·exact Or.inl ⟨i,b,h1,h2,by rw[hl];exact h3,h4⟩
   ·exact Or.inr h,fun i b h1 h2 h3 h4=>J.val i b h1 h2 (by rw[<- hl];exact h3) h4⟩
def LP (ob:Obj) (c₀:Ctx) (g:Nat) (ρ:Nat->Option Nat) (h:Heap) (w:World):Prop :=
 c₀.le ⟨ρ,c₀.X,h,w.heap⟩/\c₀.hp.size<=g/\w.heap[g]?=some ob/\∀n,(h n).mine->ρ n≠some g
theorem LP.mono {ob:Obj}{c₀:Ctx}{g:Nat}{X:XT}{ρ ρ':Nat->Option Nat}{h h':Heap}{w w':World}(l:LP ob c₀ g ρ h w) (k:Ctx.le ⟨ρ,X,h,w.heap⟩ ⟨ρ',X,h',w'.heap⟩):LP ob c₀ g ρ' h' w':=by
 obtain⟨l1,l2,l3,l4⟩:=l
 have hlt:=(Array.getElem?_eq_some_iff.1 l3).1
 refine⟨l1.trans (k.Po c₀.X c₀.X rfl),l2,(k.aD g hlt l4).trans l3,fun n hm hρ=>?_⟩
 obtain⟨m,h1,h2⟩:=k.born n g hm hρ hlt
 exact l4 m h1 h2
def NX (listed:Array Bool) (m:Nat):Array Bool:=listed.setIfInBounds m false
theorem jF (listed:Array Bool) (m:Nat):(NX listed m).size=listed.size:=by simp[NX]
theorem eY {listed:Array Bool}{m:Nat}(hm:m<listed.size) (k:Nat):dp (NX listed m) k=if k=m then false else dp listed k:=by
 unfold dp NX
 by_cases h:k=m
 ·subst h;simp[Array.getD,hm]
 ·have h':m≠k:=fun e=>h e.symm
  rw[if_neg h]
  by_cases hk:k<listed.size
  ·simp[Array.getD,hk,h']
  ·simp[Array.getD,hk]
inductive JF (P:Program) (nt:Nat) (ops:Array Oper) (items:List AOper) (masks tl:List Nat) (p m s:Nat) (fk:FA P) (c₀:Ctx) (w₀:World) (K:LEnv->Heap->Prop) (listed:Array Bool) (a:Act) (w:World):Prop
 | A (ρ:Nat->Option Nat) (h:Heap) (e:LEnv) (j:Nat) (hJ:OR P nt ops items masks tl c₀.X (fun ρ h w=>c₀.le ⟨ρ,c₀.X,h,w.heap⟩) w₀ K listed a w ρ h e j) (he:j<=p->e.get s=.undef)
 | B (g:Nat) (ρ:Nat->Option Nat) (h:Heap) (e:LEnv) (j:Nat) (hjp:j<p) (hm:dp listed m=true) (hanc:∀k,(masks.getD m 0).testBit k=true->dp listed k=true) (hJ:OR P nt ops items masks tl (c₀.X.plus g) (LP fk.obj c₀ g) w₀ K (NX listed m) a w ρ h e j)
   (he:e.get s=.undef) (ht:a.tmps.getD s Go.undef=fk.val g)
theorem JF.size {c₀:Ctx}{w₀:World}{K:LEnv->Heap->Prop}{listed:Array Bool}{a:Act}{w:World}(hJ:JF P nt ops items masks tl p m s fk c₀ w₀ K listed a w):listed.size=ops.size:=by
 cases hJ with
 | A ρ h e j hJ he=>exact hJ.size
 | B g ρ h e j hjp hm hanc hJ he ht=>rw[<- hJ.size,jF]
theorem JF.dc (S:IT P nt ops items masks tl p m s fk){c₀:Ctx}{w₀:World}{K:LEnv->Heap->Prop}{listed:Array Bool}{a:Act}{w:World}(hJ:JF P nt ops items masks tl p m s fk c₀ w₀ K listed a w) :
  ∀i k,i<ops.size->dp listed i=true->(masks.getD i 0).testBit k=true->dp listed k=true:=by
 cases hJ with
 | A ρ h e j hJ he=>exact hJ.dc
 | B g ρ h e j hjp hm hanc hJ he ht =>
  have hmlt:m<listed.size:=by
   have:=S.tlt m (List.mem_of_getElem? S.fm)
   have hs:=hJ.size
   rw[jF]at hs
   omega
  intro i k hi h1 h2
  by_cases him:i=m
  ·subst him;exact hanc k h2
  ·have:=hJ.dc i k hi (by rw[eY hmlt,if_neg him];exact h1) h2
   rw[eY hmlt]at this
   split at this
   ·cases this
   ·exact this
theorem Ln (S:IT P nt ops items masks tl p m s fk){c₀:Ctx}(hX0:∀g,c₀.X g->g<c₀.hp.size){w₀:World}{K:LEnv->Heap->Prop}{listed:Array Bool}{a:Act}{w:World}{g:Nat}{ρ:Nat->Option Nat}{h:Heap}{e:LEnv}{j:Nat}(hjp:j=p) (hm:dp listed m=true)
  (hsz:listed.size=ops.size) (hanc:∀k,(masks.getD m 0).testBit k=true->dp listed k=true) (hJ:OR P nt ops items masks tl (c₀.X.plus g) (LP fk.obj c₀ g) w₀ K (NX listed m) a w ρ h e j) (ht:a.tmps.getD s Go.undef=fk.val g) :
  JF P nt ops items masks tl p m s fk c₀ w₀ K listed a w:=by
 subst hjp
 obtain⟨_,hdc,⟨l1,l2,l3,l4⟩,hr,hws,hdef,htsz,hj,htail,hprog,hrel,hval⟩:=hJ
 have hmop:m<ops.size:=S.tlt m (List.mem_of_getElem? S.fm)
 have hmlt:m<listed.size:=by rw[hsz];exact hmop
 have hlt:j<tl.length:=(List.getElem?_eq_some_iff.1 S.fm).1
 have hli:tl[j]=m:=(List.getElem?_eq_some_iff.1 S.fm).2
 rw[List.drop_eq_getElem_cons hlt,hli]at htail
 simp only[sRest,S.it,iy]at htail
 have htail:=fk.hop _ _ _ htail
 obtain⟨n,top⟩:=da hr
 have top:nT h n:=top
 have hn:=top.free
 obtain⟨hk1,hk2⟩:=htail n top
 let c1:Ctx:=⟨ρ,c₀.X.plus g,h,w.heap⟩
 let c2:Ctx:=⟨ah ρ n (some g),c₀.X,ah h n fk.slot,w.heap⟩
 have hglt:=(Array.getElem?_eq_some_iff.1 l3).1
 have sc:LZ c1 c2:=by
  refine⟨rfl,fun k hk=>?_,fun k hk=>?_,fun b hb ho=>?_⟩
  ·have:k≠n:=by rintro rfl;exact hk hn
   simp[c1,c2,ah,this]
  ·have:k≠n:=by rintro rfl;exact hk hn
   simp[c1,c2,ah,this]
  ·rcases ho with hx|⟨k,h1,h2⟩
   ·exact Or.inl (Or.inl hx)
   ·by_cases hk:k=n
    ·subst hk
     simp[c2,ah]at h2
     exact Or.inl (Or.inr h2.symm)
    ·simp[c2,ah,hk]at h1 h2
     exact Or.inr ⟨k,h1,h2⟩
 have hle2:c₀.le c2:=by
  have fr:∀k,c₀.h k≠.free->k≠n:=by
   rintro k hk rfl
   have:=l1.tr k
   simp only at this
   rw[hn]at this
   cases hx:c₀.h k<;>rw[hx]at this hk<;>first|exact hk rfl|cases this
  refine⟨l1.size,rfl,l1.aD,l1.shape,l1.loop,fun k hk=>?_,fun k=>?_,fun k b h1 h2 hb=>?_⟩
  ·show ah ρ n (some g) k=_
   rw[aa _ _ (fr k hk)];exact l1.names k hk
  ·show Trans _ (ah h n _ k)
   by_cases hk:k=n
   ·subst hk
    have:c₀.h k=.free:=by
     cases hx:c₀.h k<;>first|rfl|exact absurd rfl (fr k (by rw[hx];simp))
    rw[this];exact .free _
   ·rw[aa _ _ hk];exact l1.tr k
  ·by_cases hk:k=n
   ·subst hk
    have h2':ah ρ k (some g) k=some b:=h2
    rw[ad]at h2'
    cases h2'
    omega
   ·have h1':(ah h n fk.slot k).mine:=h1
    have h2':ah ρ n (some g) k=some b:=h2
    rw[aa _ _ hk]at h1' h2'
    exact l1.born k b h1' h2' hb
 have hg2:dU c2:=hr.glob.qQ sc
 have hr2:aj c2:=by
  refine⟨fun k=>?_,fun k1 k2 b m1 m2 r1 r2=>?_,fun k b hm hb hX=>?_,fun b hX=>?_,?_,hg2,hr.lo⟩
  ·show cU c2 k (ah h n fk.slot k)
   by_cases hk:k=n
   ·subst hk
    rw[ad]
    exact fk.hslot c2 k g (by simp[c2,ah]) l3
   ·rw[aa _ _ hk]
    exact cU.qQ sc (fun _=>by simp[c1,c2,ah,hk]) (hr.slot k)
  ·have m1':(ah h n fk.slot k1).mine:=m1
   have m2':(ah h n fk.slot k2).mine:=m2
   have r1':ah ρ n (some g) k1=some b:=r1
   have r2':ah ρ n (some g) k2=some b:=r2
   by_cases e1:k1=n
   ·by_cases e2:k2=n
    ·rw[e1,e2]
    ·exfalso
     subst e1
     rw[ad]at r1'
     cases r1'
     rw[aa _ _ e2]at m2' r2'
     exact l4 k2 m2' r2'
   ·by_cases e2:k2=n
    ·exfalso
     subst e2
     rw[ad]at r2'
     cases r2'
     rw[aa _ _ e1]at m1' r1'
     exact l4 k1 m1' r1'
    ·rw[aa _ _ e1]at m1' r1'
     rw[aa _ _ e2]at m2' r2'
     exact hr.inj k1 k2 b m1' m2' r1' r2'
  ·have hm':(ah h n fk.slot k).mine:=hm
   have hb':ah ρ n (some g) k=some b:=hb
   have hX':c₀.X b:=hX
   by_cases hk:k=n
   ·subst hk
    rw[ad]at hb'
    cases hb'
    have:=hX0 g hX'
    omega
   ·rw[aa _ _ hk]at hm' hb'
    exact hr.apart k b hm' hb' (Or.inl hX')
  ·exact hr.xlt b (Or.inl hX)
  ·obtain⟨N,hN⟩:=hr.fin
   refine⟨N+n+1,fun k hk=>?_⟩
   show ah h n _ k=_
   rw[aa _ _ (show k≠n by omega)]
   exact hN k (by omega)
 obtain⟨T,t1,t2,t3⟩:=Dt S.toBE hk2
 have mtl:m∈tl:=List.mem_of_getElem? S.fm
 have vals:∀b,b∈jz items masks tl (j+1)->b.dst≠some s:=by
  intro b hb
  obtain⟨k,h1,h2,h3⟩:=dC hb
  exact S.us k b h1 (by rintro rfl;exact h2 mtl)
 have hput:∀s',s'≠s->(e.put (some s) (fk.dv n)).get s'=e.get s':=by
  intro s' hs
  rw[LEnv.bo]
  simp[Env.put,ah,hs]
 refine .A (ah ρ n (some g)) (ah h n fk.slot) T (j+1) ⟨hsz,fun i k hi h1 h2=>?_,hle2,hr2,hws,eP.qQ sc rfl rfl hdef,htsz,by omega,t1,fun l i hl=>?_,fun s'=>?_,fun k b hb hk hun hst=>?_⟩ (fun h=>by omega)
 ·by_cases him:i=m
  ·subst him;exact hanc k h2
  ·have:=hdc i k hi (by rw[eY hmlt,if_neg him];exact h1) h2
   rw[eY hmlt]at this
   split at this
   ·cases this
   ·exact this
 ·by_cases him:i=m
  ·subst him
   have:=S.nd l j i hl S.fm
   simp[hm,this]
  ·have:=hprog l i hl
   rw[eY hmlt,if_neg him]at this
   rw[this]
   have:l≠j:=by rintro rfl;rw[S.fm]at hl;cases hl;exact him rfl
   omega
 ·by_cases hex:∃b,b∈jz items masks tl (j+1)/\b.dst=some s'
  ·obtain⟨b,hb,hbd⟩:=hex
   obtain⟨k,h1,h2,h3⟩:=dC hb
   left
   refine⟨k,b,h1,h2,?_,hbd⟩
   have hkl:k<ops.size:=by rw[<- S.len];exact(List.getElem?_eq_some_iff.1 h1).1
   have hmk:=(S.stg k j m hkl h2 S.fm).2 (by omega)
   have hkm:k≠m:=by rintro rfl;exact h2 mtl
   cases hlk:dp listed k with
   | false=>rfl
   | true =>
    have:=hdc k m hkl (by rw[eY hmlt,if_neg hkm];exact hlk) hmk
    rw[eY hmlt,if_pos rfl]at this
    cases this
  ·rw[t2 s' (fun b hb hbd=>hex ⟨b,hb,hbd⟩)]
   by_cases hs:s'=s
   ·subst hs
    right
    rw[LEnv.bo,ht]
    have:Env.put e.get (some s') (fk.dv n) s'=fk.dv n:=by simp[Env.put,ah]
    rw[this]
    exact fk.hrel _ n g (by simp[ah]) (by simp[ah])
   ·rw[hput s' hs]
    rcases hrel s' with⟨k,b,h1,h2,h3,h4⟩|h
    ·left
     refine⟨k,b,h1,h2,?_,h4⟩
     rw[eY hmlt]at h3
     split at h3
     ·rename_i hkm;subst hkm;exact absurd mtl h2
     ·exact h3
    ·exact Or.inr (au.qQ sc h)
 ·have hkm:k≠m:=by rintro rfl;exact hk mtl
  rcases Nat.lt_or_ge (Dv masks tl k) (j+1) with hlt'|hge
  case inr =>
   have:Dv masks tl k=j+1:=by omega
   have hmm:=wW (masks:=masks) hb hk
   rw[this]at hmm
   exact t3 b hmm
  have hkl:k<ops.size:=by rw[<- S.len];exact(List.getElem?_eq_some_iff.1 hb).1
  have v0:=hval k b hb hk (by rw[eY hmlt,if_neg hkm];exact hun) (by omega)
  have hnanc:(masks.getD m 0).testBit k≠true:=by
   intro hmk
   have:=hanc k hmk
   rw[hun]at this
   cases this
  have hni:¬(masks.getD k 0).testBit m=true:=by
   intro hmk
   have:=(S.stg k j m hkl hk S.fm).1 hmk
   omega
  have vput:cb P b (e.put (some s) (fk.dv n)) (ah h n fk.slot):=by
   by_cases hf:b.op.gQ=true
   ·refine cb.congr (e:=e) (fun r hr'=>?_) (fun s' hs=>?_) (cb.free hf v0)
    ·rw[hput r]
     rintro rfl
     rcases S.rdt m k _ b S.it hb mtl hk r rfl hr' with hmm|hmm
     ·exact hni hmm
     ·exact hnanc hmm
    ·exact hput s' (by rintro rfl;exact S.us k b hb hkm hs)
   ·have hmm:b∈wX items masks tl (j+1) m:=by
     simp only[wX,sRevI,List.mem_filterMap,List.mem_filter,List.mem_range,Bool.and_eq_true,decide_eq_true_eq,Bool.not_eq_true']
     exact⟨k,⟨by rw[S.len];exact hkl,⟨⟨by simpa using hk,hlt'⟩,by simpa using hnanc⟩,by rw[hb];simpa using hf⟩,hb⟩
    have hopb:∀b',b'∈wX items masks tl (j+1) m->b'.guard=none/\b'.op.isVal=true:=by
     intro b' hb'
     refine⟨(S.rev j m S.fm b' hb').1,?_⟩
     simp only[wX,sRevI,List.mem_filterMap,List.mem_filter,List.mem_range,Bool.and_eq_true,decide_eq_true_eq,Bool.not_eq_true']at hb'
     obtain⟨k2,⟨q1,⟨⟨q2,q3⟩,q4⟩,q5⟩,q6⟩:=hb'
     have q7:k2<ops.size:=by rw[<- S.len];exact q1
     have:=(S.itv k2 ops[k2] b' (by simp[q7]) q6 (by simpa using q2)).op
     rw[if_neg (by simp)]at this
     exact gy this
    exact td hopb hk1 b hmm (S.rev j m S.fm b hmm).2
  refine cb.congr (fun r hr'=>(t2 r fun x hx hxd=>?_).symm) (fun s' hs=>t2 s' fun x hx hxd=>?_) vput
  ·obtain⟨m',m1,m2,m3⟩:=dC hx
   have:=((S.rdv m' k x b m1 hb m2 r hxd).2 hr').2.2 hk
   omega
  ·obtain⟨m',m1,m2,m3⟩:=dC hx
   have hmk:k≠m':=by rintro rfl;omega
   exact(S.rdv k m' b x hb m1 hk s' hs).1 hmk hxd
theorem QB (S:IT P nt ops items masks tl p m s fk){c₀:Ctx}(hX0:∀g,c₀.X g->g<c₀.hp.size){w₀:World}{K:LEnv->Heap->Prop}{listed:Array Bool}{a:Act}{w:World}{Q:Exit->Act->World->Prop}{rd:Option Nat}
  (hJ:JF P nt ops items masks tl p m s fk c₀ w₀ K listed a w) {i:Nat}(hi:i∈Region.ready .any ops listed):wpOpIn (rF rd) 0 P ops Q i (JF P nt ops items masks tl p m s fk c₀ w₀ K (listed.setIfInBounds i true)) a w:=by
 have R:=Ka S.toBE hJ.size (hJ.dc S) hi
 have mtl:m∈tl:=List.mem_of_getElem? S.fm
 have hmop:m<ops.size:=S.tlt m mtl
 have hmlt:m<listed.size:=by rw[hJ.size];exact hmop
 have hil:i<listed.size:=by rw[hJ.size];exact R.lt
 have hp:=(List.getElem?_eq_some_iff.1 S.fm).1
 cases hJ with
 | A ρ h e j hJ he =>
  by_cases him:i=m
  ·subst him
   have hjp:j<=p:=by
    have:=(hJ.prog p i S.fm).2
    rcases Nat.lt_or_ge p j with hlt|hge
    ·have:=this hlt
     rw[R.un]at this
     cases this
    ·exact hge
   by_cases hj:j=p
   ·refine wpOpIn_mono (fun a' w' ⟨ρ',h',e',j',hJ',_⟩=>?_) (yN S.toBE (fun ρ h w ρ' h' w' l k=>Ctx.le.trans l k) hJ R fun l hl=>by rw[hj];exact S.nd l p i hl S.fm)
    refine .A ρ' h' e' j' hJ' fun hle=>?_
    have:=(hJ'.prog p i S.fm).1 (by rw[eX hil,if_pos rfl])
    omega
   ·
    have hj:j<p:=by omega
    obtain⟨o,ho,hmk,hdst,hg⟩:=S.mko
    have hrun:=hmk.2 a w
    unfold wpOpIn
    simp only[ho]
    rw[if_pos (by simp[Region.wanted,hg])]
    refine gE hmk.1 hrun ?_
    rw[Oper.uponIn_value,hdst]
    obtain⟨hsz,hdc,hle,hr,hws,hdef,htsz,hjl,htail,hprog,hrel,hval⟩:=hJ
    let g:=w.heap.size
    have hpush:(w.alloc fk.obj).heap=w.heap.push fk.obj:=rfl
    let C:Ctx:=⟨ρ,c₀.X,h,w.heap⟩
    let Cp:Ctx:=⟨ρ,c₀.X.plus g,h,w.heap⟩
    let C1:Ctx:=⟨ρ,c₀.X.plus g,h,w.heap.push fk.obj⟩
    have sc:LZ C Cp:=by
     refine⟨rfl,fun _ _=>rfl,fun _ _=>rfl,fun b hb ho=>?_⟩
     rcases ho with hx|hx
     ·rcases hx with hx|hx
      ·exact Or.inl hx
      ·exact absurd hx (Nat.ne_of_lt hb)
     ·exact Or.inr hx
    obtain⟨gle,_⟩:=tf hr fk.obj
    have le1:Cp.le C1:=gle.Po (c₀.X.plus g) (c₀.X.plus g) rfl
    have mlt:∀k b,(h k).mine->ρ k=some b->b<g:=fun k b hm hb=>jw hr hm hb
    have hr1:aj C1:=by
     refine⟨fun k=>?_,hr.inj,fun k b hm hb hX=>?_,fun b hX=>?_,hr.fin,(hr.glob.qQ sc).mono le1,by have:=hr.lo;simp only at this;show c₀.X.lo<=(w.heap.push _).size;simp;omega⟩
     ·exact gC le1 (cU.qQ sc (fun _=>rfl) (hr.slot k)) (fun _ _=>rfl) (fun b hm hb=>by
       have:=mlt k b hm hb
       show(w.heap.push _)[b]?=w.heap[b]?
       rw[Array.getElem?_push,if_neg (by omega)])
     ·have:=mlt k b hm hb
      rcases hX with hx|hx
      ·exact hr.apart k b hm hb hx
      ·have:b=g:=hx
       omega
     ·show b<(w.heap.push _).size
      simp only[Array.size_push]
      rcases hX with hx|hx
      ·have:=hr.xlt b hx
       simp only at this
       omega
      ·have:b=w.heap.size:=hx
       omega
    have hls:∀k,dp (NX (listed.setIfInBounds i true) i) k=dp listed k:=by
     intro k
     rw[eY (by simpa using hmlt),eX hil]
     by_cases hk:k=i
     ·subst hk;simp[R.un]
     ·simp[hk]
    have hes:=he hjp
    refine .B g ρ h e j hj (by rw[eX hil,if_pos rfl]) (fun k hk=>by rw[eX hil];split;rfl;exact R.anc k hk) (OR.congr (l1:=listed) (by rw[jF];simp) hls ?_) hes (by simp[Act.put,htsz,S.sn,g])
    refine⟨hsz,hdc,⟨hle.trans gle,by have:=hle.size;simpa using this,gq _ _,fun k hm hb=>by have:=mlt k _ hm hb;omega⟩,hr1,⟨hws.os,hws.tape,hws.output⟩,(eP.qQ sc rfl rfl hdef).mono le1,by simpa[Act.put] using htsz,hjl,htail,hprog,fun s'=>?_,hval⟩
    by_cases hs:s'=s
    ·subst hs;rw[hes];exact Or.inr (.undef _)
    ·rcases hrel s' with h0|h0
     ·exact Or.inl h0
     ·right
      have hs':s≠s':=fun e=>hs e.symm
      have:((a.put (some s) (fk.val w.heap.size)).tmps.getD s' Go.undef)=a.tmps.getD s' Go.undef:=by simp[Act.put,hs']
      rw[this]
      exact(au.qQ sc h0).mono le1
  ·refine wpOpIn_mono (fun a' w' hh=>?_) (yN S.toBE (fun ρ h w ρ' h' w' l k=>Ctx.le.trans l k) hJ R fun l hl=>?_)
   ·obtain⟨ρ',h',e',j',hJ',hj',_,hes⟩:=hh
    refine .A ρ' h' e' j' hJ' fun hle=>?_
    rw[hes s fun k b hb hk=>S.us k b hb ?_]
    ·exact he (by omega)
    ·rintro rfl
     rcases hk with hk|hk
     ·exact hk mtl
     ·exact him hk.symm
   ·have h1:¬l<j:=by
     intro hlt
     have:=(hJ.prog l i hl).2 hlt
     rw[R.un]at this
     cases this
    rcases Nat.lt_or_ge j l with hgt|hge
    ·have hjl:j<tl.length:=Nat.lt_trans hgt (List.getElem?_eq_some_iff.1 hl).1
     have hpw:=S.tord j l tl[j] i (by simp[hjl]) hl hgt (by rintro rfl;rw[S.fm]at hl;cases hl;exact him rfl)
     have:=(hJ.prog j tl[j] (by simp[hjl])).1 (R.anc _ hpw)
     omega
    ·omega
 | B g ρ h e j hjp hm hanc hJ he ht =>
  have him:i≠m:=by
   rintro rfl
   have:=R.un
   rw[hm]at this
   cases this
  have hjl:j<tl.length:=Nat.lt_trans hjp hp
  have htj:tl[j]?=some tl[j]:=by simp[hjl]
  have hjm:tl[j]≠m:=by
   intro hq
   have:=S.nd j p m (by rw[htj,hq]) S.fm
   omega
  have unl:dp listed tl[j]=false:=by
   cases hl:dp listed tl[j] with
   | false=>rfl
   | true =>
    have:=(hJ.prog j tl[j] htj).1 (by rw[eY hmlt,if_neg hjm];exact hl)
    omega
  have nom:(masks.getD i 0).testBit m≠true:=by
   intro hq
   by_cases hit:i∈tl
   ·obtain⟨l,hl⟩:=List.getElem?_of_mem hit
    have hlp:l≠p:=by rintro rfl;rw[S.fm]at hl;cases hl;exact him rfl
    rcases Nat.lt_or_ge l p with hlt|hge
    ·rw[S.ntm l i hl hlt]at hq;cases hq
    ·have:=R.anc _ (S.tord j l tl[j] i htj hl (by omega) hlp)
     rw[unl]at this
     cases this
   ·have h1:=(S.stg i p m R.lt hit S.fm).1 hq
    have:=R.anc _ ((S.stg i j tl[j] R.lt hit htj).2 (by omega))
    rw[unl]at this
    cases this
  have RV:SZ ops masks (NX listed m) i:=by
   refine⟨R.lt,by rw[eY hmlt,if_neg him];exact R.un,fun k hk=>?_⟩
   rw[eY hmlt,if_neg (by rintro rfl;exact nom hk)]
   exact R.anc k hk
  have hitl:i<items.length:=by rw[S.len];exact R.lt
  have hdst:∀o,ops[i]?=some o->o.dst≠some s:=by
   intro o ho hq
   obtain⟨b,hb⟩:∃b,items[i]?=some b:=⟨items[i]'hitl,by simp[hitl]⟩
   refine S.us i b hb him ?_
   by_cases hit:i∈tl
   ·have hc:=S.itt i o ho hit
    rw[hb]at hc
    unfold cOper at hc
    split at hc
    case isFalse=>cases hc
    cases hop:cOp P true o with
    | none=>simp[hop]at hc
    | some op =>
     simp only[hop]at hc
     split at hc
     ·cases hc;exact hq
     ·split at hc
      ·cases hc;exact hq
      ·cases hc
   ·have:=(S.itv i o b ho hb hit).dst
    rw[this];exact hq
  refine wpOpIn_mono (fun a' w' hh=>?_) (wpOp_put (yN S.toBE (fun ρ h w ρ' h' w' l k=>LP.mono l k) hJ RV fun l hl=>?_))
  ·obtain⟨⟨ρ',h',e',j',hJ',hj',_,hes⟩,hput⟩:=hh
   have hsz':(listed.setIfInBounds i true).size=ops.size:=by
    have:=hJ.size
    rw[jF]at this
    simpa using this
   have hls:∀k,dp (NX (listed.setIfInBounds i true) m) k=dp ((NX listed m).setIfInBounds i true) k:=by
    intro k
    rw[eY (by simpa using hmlt),eX hil,eX (by rw[jF];exact hil),eY hmlt]
    by_cases hk:k=m
    ·subst hk
     have:¬k=i:=fun e=>him e.symm
     simp[this]
    ·simp[hk]
   have hJ2:=OR.congr (l2:=NX (listed.setIfInBounds i true) m) (by rw[jF];simp[jF]) hls hJ'
   have hm':dp (listed.setIfInBounds i true) m=true:=by rw[eX hil];split;rfl;exact hm
   have hanc':∀k,(masks.getD m 0).testBit k=true->dp (listed.setIfInBounds i true) k=true:=fun k hk=>by rw[eX hil];split;rfl;exact hanc k hk
   have ht':a'.tmps.getD s Go.undef=fk.val g:=(hput s hdst).trans ht
   have he':e'.get s=.undef:=by
    rw[hes s fun k b hb hk=>S.us k b hb ?_]
    ·exact he
    ·rintro rfl
     rcases hk with hk|hk
     ·exact hk mtl
     ·exact him hk.symm
   rcases Nat.lt_or_ge j' p with hlt|hge
   ·exact .B g ρ' h' e' j' hlt hm' hanc' hJ2 he' ht'
   ·exact Ln S hX0 (by omega) hm' hsz' hanc' hJ2 ht'
  ·have hlp:l≠p:=by rintro rfl;rw[S.fm]at hl;cases hl;exact him rfl
   have h1:¬l<j:=by
    intro hlt
    have:=(hJ.prog l i hl).2 hlt
    rw[RV.un]at this
    cases this
   rcases Nat.lt_or_ge j l with hgt|hge
   ·have hpw:=S.tord j l tl[j] i htj hl hgt hlp
    have:=(hJ.prog j tl[j] htj).1 (RV.anc _ hpw)
    omega
   ·omega
theorem MP {id:Nat}(S:IT P nt ops items masks tl p m s fk) (hm:P.follows .mixedOrders=true){Q:LPost}{e:LEnv}{h:Heap}(hes:e.get s=.undef) (hv:vcC P (sCode items masks tl tl 0) Q e h):tI P nt (.region id ops true) (fun x=>up (Q x)) e.get h:=by
 intro rd c w a hh hp hr hs _
 subst hh
 refine wpIn_region_any hm ?_
 obtain⟨T,t1,t2,t3⟩:=Dt S.toBE (vF tl 0 hv)
 have hfalse:∀i,i<ops.size->dp (Array.replicate ops.size false) i=false:=by intro i hi;unfold dp;simp[Array.getD,hi]
 have hlt:∀i b,items[i]?=some b->i<ops.size:=fun i b hb=>by rw[<- S.len];exact(List.getElem?_eq_some_iff.1 hb).1
 have hce:(⟨c.ρ,c.X,c.h,w.heap⟩:Ctx)=c:=by rw[<- hp]
 have mtl:m∈tl:=List.mem_of_getElem? S.fm
 refine Q4 S.toBE (JJ:=JF P nt ops items masks tl p m s fk c w (Q .normal)) (fun _ _ _ hJ=>hJ.size) (fun _ _ _ hJ=>hJ.dc S) (fun listed a' w' i hJ hi=>QB S hr.xlt hJ hi) (fun listed a' w' hJ hall=>?_) ops.size _ a _ (Nat.le_trans (List.length_filter_le _ _) (by simp)) ?_
 ·cases hJ with
  | B g ρ h e' j hjp hm hanc hJ he ht =>
   exfalso
   have hmlt:m<listed.size:=by
    have:=S.tlt m mtl
    have hs:=hJ.size
    rw[jF]at hs
    omega
   have hjl:j<tl.length:=Nat.lt_trans hjp (List.getElem?_eq_some_iff.1 S.fm).1
   have htj:tl[j]?=some tl[j]:=by simp[hjl]
   have hjm:tl[j]≠m:=by
    intro hq
    have:=S.nd j p m (by rw[htj,hq]) S.fm
    omega
   have:=(hJ.prog j tl[j] htj).1 (by rw[eY hmlt,if_neg hjm];exact hall _ (S.tlt _ (List.getElem_mem hjl)))
   omega
  | A ρ h e' j hJ he =>
   obtain⟨_,_,hle,hrr,hws,hdef,hsz,hj,htail,hprog,hrel,hval⟩:=hJ
   have hjl:j=tl.length:=by
    rcases Nat.lt_or_ge j tl.length with hlt|hge
    ·have:=(hprog j tl[j] (by simp[hlt])).1 (hall _ (S.tlt _ (List.getElem_mem hlt)))
     omega
    ·omega
   subst hjl
   rw[List.drop_length]at htail
   refine⟨ρ,e'.get,h,hle,hrr,hws,⟨hrr.glob,hrr.lo,hdef,hsz,fun s=>?_⟩,e',rfl,htail⟩
   rcases hrel s with⟨i,b,hb,_,hun,_⟩|h
   ·rw[hall i (hlt i b hb)]at hun
    cases hun
   ·exact h
 ·have hw:({ w with drawn:=w.drawn+1 }:World).heap=w.heap:=rfl
  refine .A c.ρ c.h T 0 ⟨by simp,fun i k hi hl=>(by rw[hfalse i hi]at hl;cases hl),?_,?_,⟨rfl,rfl,rfl⟩,(by rw[hw,hce];exact hs.defers),hs.size,Nat.zero_le _,by simpa using t1,fun l i hl=>?_,fun s=>?_,fun i b hb hn _ hst=>?_⟩ (fun _=>?_)
  ·rw[hw,hce];exact Ctx.le.refl c
  ·rw[hw,hce];exact hr
  ·rw[hfalse i (S.tlt i (List.mem_of_getElem? hl))];simp
  ·by_cases hex:∃b,b∈jz items masks tl 0/\b.dst=some s
   ·obtain⟨b,hb,hbd⟩:=hex
    obtain⟨k,h1,h2,h3⟩:=dC hb
    exact Or.inl ⟨k,b,h1,h2,hfalse k (hlt k b h1),hbd⟩
   ·right
    rw[t2 s (fun b hb hbd=>hex ⟨b,hb,hbd⟩),hw,hce]
    exact hs.rel s
  ·have:=wW (masks:=masks) hb hn
   rw[show Dv masks tl i=0 by omega]at this
   exact t3 b this
  ·rw[t2 s fun b hb=>?_]
   ·exact hes
   ·obtain⟨k,h1,h2,h3⟩:=dC hb
    exact S.us k b h1 (by rintro rfl;exact h2 mtl)
def Tw (masks:List Nat) (p:Nat) (tl:List Nat):Bool :=
 (List.range tl.length).all fun k=>k == p||(List.range k).all fun l=>(masks.getD (tl.getD k 0) 0).testBit (tl.getD l 0)
def MH (ops:Array Oper) (items:List AOper) (masks tl:List Nat):Bool :=
 (ops.toList.zipIdx.all fun p=>(p.1.after.toList.all fun e=> !Region.binds .any e||decide (e.on<p.2))&&(masks.getD p.2 0 == zS masks p.1.after.toList)) &&
 tl.all (fun i=>decide (i<ops.size)) &&
 ((List.range ops.size).all fun k=>tl.contains k||tl.zipIdx.all fun p=>(masks.getD k 0).testBit p.1 == decide (p.2<Dv masks tl k)) &&
 (items.zipIdx.all fun p=>items.zipIdx.all fun q=>Bd masks tl p.2 q.2 p.1 q.1) &&
 (tl.zipIdx.all fun p=>(wX items masks tl (p.2+1) p.1).all fun b=>b.guard.isNone&&b.dst.isSome)
def sMk (P:Program) (op:AOp) (o:Oper):Bool :=
 match op,o.op with
 | .mkm _,.makeMap _ none=>true
 | .alloc _,.alloc _=>true
 | _,_=>false
def sChkF (P:Program) (ops:Array Oper) (nt:Nat) (items:List AOper) (masks tl:List Nat) (p:Nat):Option Nat :=
 match tl[p]? with
 | some m=>match items[m]?,ops[m]? with
  | some ⟨some s,op,none⟩,some o=>match o.dst,o.guard with
   | some s',none=>if s'=s/\s<nt/\sMk P op o=true/\MH ops items masks tl=true/\Tw masks p tl=true/\tl.Nodup/\(items.zipIdx.all fun q=>decide (q.2=m)||q.1.dst != some s)=true/\((List.range p).all fun l=> !(masks.getD (tl.getD l 0) 0).testBit m)=true then some s else none
   | _,_=>none
  | _,_=>none
 | none=>none
theorem MG (hi:sItems P nt ops tl ops.toList 0=some items) (hc:MH ops items masks tl=true):BE P nt ops items masks tl:=by
 obtain⟨l1,l2⟩:=qR hi
 simp only[MH,Bool.and_eq_true,List.all_eq_true]at hc
 obtain⟨⟨⟨⟨c1,c2⟩,c4⟩,c5⟩,c6⟩:=hc
 have pair:∀(i k:Nat) (a b:AOper),items[i]?=some a->items[k]?=some b->Bd masks tl i k a b=true:=fun i k a b ha hb=>c5 (a,i) (mem_zipIdx ha) (b,k) (mem_zipIdx hb)
 refine⟨by simpa using l1,fun i o a ho ha hn=>?_,fun i o ho hm=>?_,fun i o ho ed he hb=>?_,fun i o ho k hk=>?_,fun i hi=>by simpa using c2 i hi,fun k l i hk hn hl=>?_,fun i k a b ha hb hn s hs=>?_,fun i k a b ha hb hm hn s hs hr=>?_,fun l i hl b hb=>?_⟩
 ·have:=l2 i o (by simpa using ho)
  rw[Nat.zero_add,if_neg (by simpa using hn),ha]at this
  exact rP this
 ·have:=l2 i o (by simpa using ho)
  rw[Nat.zero_add,if_pos (by simpa using hm)]at this
  exact this
 ·have:=(c1 (o,i) (mem_zipIdx (by simpa using ho))).1 ed he
  simpa[hb] using this
 ·have:=(c1 (o,i) (mem_zipIdx (by simpa using ho))).2
  have hme:masks.getD i 0=zS masks o.after.toList:=by simpa using this
  rw[hme]at hk
  rcases vK _ _ hk with h|h
  ·simp at h
  ·exact h
 ·have:=c4 k (by simpa using hk)
  simp only[Bool.or_eq_true,List.all_eq_true]at this
  have:=(this.resolve_left (by simpa using hn)) (i,l) (mem_zipIdx hl)
  simp only[beq_iff_eq]at this
  rw[this];simp
 ·have:=pair i k a b ha hb
  simp only[Bd,hs]at this
  rw[if_neg (by simpa using hn)]at this
  simp only[Bool.and_eq_true,Bool.or_eq_true,beq_iff_eq,bne_iff_ne,ne_eq,Bool.not_eq_true',decide_eq_true_eq]at this
  refine⟨fun hne=>this.1.resolve_left hne,fun hr=>?_⟩
  have h2:=this.2.resolve_left (by simp[hr])
  exact⟨h2.1.1,h2.1.2,fun hk=>h2.2.resolve_left (by simpa using hk)⟩
 ·have:=pair i k a b ha hb
  simp only[Bd,hs]at this
  rw[if_pos (by simpa using hm)]at this
  simp only[Bool.or_eq_true,Bool.not_eq_true']at this
  rcases this with((h1|h1)|h1)|h1
  ·exact absurd (by simpa using h1) hn
  ·exfalso
   rw[List.contains_eq_mem]at h1
   simp[hr]at h1
  ·exact Or.inl h1
  ·exact Or.inr h1
 ·have:=c6 (i,l) (mem_zipIdx hl) b hb
  simp only[Bool.and_eq_true,Option.isNone_iff_eq_none]at this
  exact this
theorem MF (hi:sItems P nt ops tl ops.toList 0=some items) (hc:sChkF P ops nt items masks tl p=some s):∃m fk,IT P nt ops items masks tl p m s fk:=by
 unfold sChkF at hc
 split at hc<;>try (cases hc;done)
 rename_i m hm
 split at hc<;>try (cases hc;done)
 rename_i s0 op o hit hop
 split at hc<;>try (cases hc;done)
 rename_i s' h2 h3
 split at hc<;>try (cases hc;done)
 rename_i hcc
 obtain⟨rfl,c1,cm,c2,c3,c4,c5,c6⟩:=hcc
 cases hc
 have S0:=MG hi c2
 obtain⟨fk,rfl,hmk⟩:∃fk:FA P,op=fk.op/\OO P fk o:=by
  have hc:=S0.itt m o hop (List.mem_of_getElem? hm)
  unfold sMk at cm
  split at cm<;>try (cases cm;done)
  ·rename_i kt t h1
   exact⟨NT P kt,rfl,Lo h1⟩
  ·rename_i zd t h1
   rw[hit]at hc
   have hz:dZ P t=some zd:=by
    unfold cOper at hc
    split at hc
    case isFalse=>cases hc
    cases hcp:cOp P true o with
    | none=>simp[hcp]at hc
    | some op' =>
     simp only[hcp]at hc
     have:op'=.alloc zd:=by
      split at hc
      ·simp only[Option.some.injEq,AOper.mk.injEq]at hc;exact hc.2.1
      ·split at hc
       ·simp only[Option.some.injEq,AOper.mk.injEq]at hc;exact hc.2.1
       ·cases hc
     subst this
     unfold cOp at hcp
     cases hz:dZ P t with
     | none=>simp[cOp0,h1,hz,cOpM,deadOp]at hcp
     | some z=>simp[cOp0,h1,hz]at hcp;rw[hcp]
   obtain⟨z,z1,z2⟩:=LQ (P:=P) hz
   refine⟨QS P zd z.cells t z2,rfl,fun c hc=>(by rw[h1]at hc;cases hc),fun a w=>?_⟩
   simp[execOp,h1,Instr.alloc,bT z1,newVar,cZ,QS]
 refine⟨m,fk,S0,fun l k i i' hl hk hlt hkp=>?_,fun l l' i hl hl'=>?_,hm,hit,fun k b hb hk=>?_,c1,⟨o,hop,hmk,h2,h3⟩,fun l i hl hlt=>?_⟩
 ·simp only[Tw,List.all_eq_true,List.mem_range,Bool.or_eq_true,beq_iff_eq]at c3
  have hk1:=List.getElem?_eq_some_iff.1 hk
  have:=(c3 k hk1.1).resolve_left hkp l hlt
  simpa[List.getD,hl,hk] using this
 ·have h1:=(List.getElem?_eq_some_iff.1 hl).1
  exact(List.getElem?_inj h1 c4).1 (hl.trans hl'.symm)
 ·have:=List.all_eq_true.1 c5 (b,k) (mem_zipIdx hb)
  simp only[Bool.or_eq_true,decide_eq_true_eq,bne_iff_ne,ne_eq]at this
  exact this.resolve_left hk
 ·have:=List.all_eq_true.1 c6 l (by simpa using hlt)
  simp only[Bool.not_eq_true']at this
  simpa[List.getD,hl] using this
def cDrF (P:Program) (nt:Nat) (tbl:TT) (id:Nat) (ops:Array Oper):Option bW :=
 if P.follows .mixedOrders then
  match tbl id with
  | some (masks,tl,[999998,p])=>match sItems P nt ops tl ops.toList 0 with
   | some items=>match sChkF P ops nt items masks tl p with
    | some s=>some (.seq (.dreg [⟨some s,.mov (.c .undef),none⟩] [] []) (sCode items masks tl tl 0))
    | none=>none
   | none=>none
  | _=>none
 else none
theorem Qp (P:Program) (nt:Nat) (tbl:TT):wD P nt (cDrF P nt tbl):=by
 intro id ops ac h Q e hp hv
 unfold cDrF at h
 split at h
 case isFalse=>cases h
 rename_i hm
 split at h
 case h_2=>cases h
 rename_i masks tl p _
 cases hi:sItems P nt ops tl ops.toList 0 with
 | none=>simp[hi]at h
 | some items =>
  simp only[hi]at h
  split at h
  case h_2=>cases h
  rename_i s hc
  simp only[Option.some.injEq]at h
  subst h
  obtain⟨m,fk,S⟩:=MF hi hc
  have hv':vcC P (sCode items masks tl tl 0) Q (e.put (some s) .undef) hp:=hv
  refine wc (fun i=>?_) (MP S hm (e:=e.put (some s) .undef) (by simp[LEnv.put,LEnv.get]) hv')
  simp only[LEnv.put,LEnv.get]
  split
  ·exact Or.inl rfl
  ·exact Or.inr rfl
def cDr (P:Program) (nt:Nat) (tbl:TT) (id:Nat) (ops:Array Oper):Option bW :=
 match cDrS P nt tbl id ops with
 | some x=>some x
 | none=>match cDrF P nt tbl id ops with
 | some x=>some x
 | none=>match cDr0 P nt tbl id ops with
  | some x=>some x
  | none=>match SL P nt tbl id ops with
   | some x=>some x
   | none=>some (.dreg [⟨none,.dead,none⟩] [] [])
theorem aA (P:Program) (nt:Nat) (tbl:TT):wD P nt (cDr P nt tbl):=by
 intro id ops ac h Q e hp hv
 unfold cDr at h
 split at h
 ·rename_i x h0
  cases h
  exact Qo P nt tbl id ops _ h0 Q e hp hv
 split at h
 ·rename_i x h0
  cases h
  exact Qp P nt tbl id ops _ h0 Q e hp hv
 split at h
 ·rename_i x h0
  cases h
  exact Qr P nt tbl id ops _ h0 Q e hp hv
 split at h
 ·rename_i x h0
  cases h
  exact Qq P nt tbl id ops _ h0 Q e hp hv
 ·simp at h
  subst h
  exact hv.elim
end Go.Am
namespace Go.Am
open Go
variable [bV]
def vcond (x:D) (A B:Prop):Prop :=
 match x with
 | .bool t=>(t=true->A)/\(t=false->B)
 | _=>False
variable {P:Program}{h:Heap}{K:D->Prop}{KH:HK}{k:IntKind}{a b:Int}
theorem Dq {t w:Bool}{A:(HK)->Prop}:vguard (.bool t) w A h KH=((t=w->A KH)/\(t≠w->KH gU h)):=by simp[vguard,gv]
theorem wK {ds:List D}{w:Bool}{A:(HK)->Prop}:vguard (.tup ds) w A h KH=KH gU h:=by simp[vguard,gv]
theorem wL {t w:Bool}{A:(D->Prop)->Prop}:aQ (.bool t) w A K=((t=w->A K)/\(t≠w->K gU)):=by simp[aQ,gv]
theorem zw {ds:List D}{w:Bool}{A:(D->Prop)->Prop}:aQ (.tup ds) w A K=K gU:=by simp[aQ,gv]
theorem bp:vbin .add (.int k a) (.int k b) K=K (.int k (k.wrap (a+b))):=by simp[vbin]
theorem gO:vbin .sub (.int k a) (.int k b) K=K (.int k (k.wrap (a-b))):=by simp[vbin]
theorem gb:vbin .mul (.int k a) (.int k b) K=K (.int k (k.wrap (a*b))):=by simp[vbin]
theorem kn:vbin .quo (.int k a) (.int k b) K=(b≠0/\K (.int k (k.wrap (a.tdiv b)))):=by simp[vbin]
theorem bJ:vbin .rem (.int k a) (.int k b) K=(b≠0/\K (.int k (a.tmod b))):=by simp[vbin]
theorem S5:vbin .and (.int k a) (.int k b) K=K (.int k (ibits .and k a b)):=by simp[vbin]
theorem Ul:vbin .or (.int k a) (.int k b) K=K (.int k (ibits .or k a b)):=by simp[vbin]
theorem S3:vbin .xor (.int k a) (.int k b) K=K (.int k (ibits .xor k a b)):=by simp[vbin]
theorem Mn {k':IntKind}:vbin .shl (.int k a) (.int k' b) K=(0<=b/\K (.int k (H6 k a b))):=rfl
theorem QF {k':IntKind}:vbin .shr (.int k a) (.int k' b) K=(0<=b/\K (.int k (Jl k a b))):=rfl
theorem aM:vbin .eql (.int k a) (.int k b) K=K (.bool (decide (a=b))):=by simp[vbin]
theorem cq:vbin .neq (.int k a) (.int k b) K=K (.bool (!decide (a=b))):=by simp[vbin]
theorem bK:vbin .lss (.int k a) (.int k b) K=K (.bool (decide (a<b))):=by simp[vbin]
theorem JV:vbin .leq (.int k a) (.int k b) K=K (.bool (decide (a<=b))):=by simp[vbin]
theorem qK:vbin .gtr (.int k a) (.int k b) K=K (.bool (decide (b<a))):=by simp[vbin]
theorem iz:vbin .geq (.int k a) (.int k b) K=K (.bool (decide (b<=a))):=by simp[vbin]
theorem F7:vun .neg (.int k a) K=K (.int k (k.wrap (0-a))):=rfl
theorem QG {t:Bool}:vun .not (.bool t) K=K (.bool !t):=rfl
theorem S4:vun .xor (.int k a) K=K (.int k (ibits .xor k (if k.signed then -1 else k.max) a)):=rfl
theorem jf {xs:List D}:bR (.sl xs) h K=K (.int .i64 xs.length):=rfl
theorem iJ {n o l:Nat}:bR (.ms n o l) h K=((h n).live=true/\K (.int .i64 l)):=rfl
theorem cu {k':IntKind}:ab P (.conv k (.c (.int k' a))) h KH=KH (.int k (k.wrap a)) h:=rfl
theorem h_ext {ds:List D}{i:Nat}:ab P (.ext (.c (.tup ds)) i) h KH=(match ds[i]? with|some d=>KH d h|none=>False):=rfl
theorem NK {cs:List D}{o s:Nat}{g:Bool}:ab P (.fld (.c (.agg cs)) o s g) h KH=vpart cs o s g (KH · h):=rfl
theorem ig {d:D}{j o:Nat}:ab P (.fadd (.c (.vp d j)) o) h KH=KH (.vp d (j+o)) h:=rfl
theorem im {xs:List D}{s:Nat}:ab P (.iadd (.c (.sl xs)) (.c (.int k a)) s) h KH=(0<=a/\a<xs.length/\∀d,xs[a.toNat]?=some d->d.cells.length=s/\KH (.vp d 0) h):=rfl
theorem bF {n o l s:Nat}:ab P (.iadd (.c (.ms n o l)) (.c (.int k a)) s) h KH=(0<=a/\a<l/\(∃els,(h n).row=some (s,els))/\KH (.ptr n (o+a.toNat) 0) h):=rfl
theorem gY {d:D}{j s:Nat}{g:Bool}:ab P (.ld (.c (.vp d j)) s g) h KH=vpart d.cells j s g (KH · h):=rfl
theorem bk {cs:List D}{o s:Nat}:vpart cs o s false K=(match cs[o]? with|some d=>K d|none=>False):=rfl
theorem cn {cs:List D}{o s:Nat}:vpart cs o s true K=(o+s<=cs.length/\K (.agg ((cs.drop o).take s))):=rfl
theorem wrap64 {n:Int}(h1 : -9223372036854775808<=n) (h2:n<=9223372036854775807):IntKind.i64.wrap n=n:=by
 simp only[IntKind.wrap,IntKind.signed,IntKind.bits]
 first|omega|(simp;omega)
end Go.Am
namespace Go.Am
open Go
variable [bV]
abbrev LH:=List Slot
def LH.h (l:LH):Heap:=fun n=>l.getD n .free
def LH.nf (l:LH):Prop:=∀s∈l,s≠.free
def fi {α:Type}(n:Int) (k:Int->α):α:=match n with
 | .ofNat m=>Nat.rec (k 0) (fun p _=>k (.ofNat (p+1))) m
 | .negSucc m=>Nat.rec (k (.negSucc 0)) (fun p _=>k (.negSucc (p+1))) m
def fb {α:Type}(b:Bool) (k:Bool->α):α:=match b with
 | true=>k true
 | false=>k false
def fl {α β:Type}:List α->(List α->β)->β
 | [],k=>k []
 | a::r,k=>fl r fun r'=>k (a::r')
def Ta (a b:ByteArray):Bool:=a.data.toList == b.data.toList
mutual
def D.same:D->D->Bool
 | .undef,.undef=>true
 | .nil,.nil=>true
 | .nilfn,.nilfn=>true
 | .nilmap,.nilmap=>true
 | .int q n,.int q' n'=>decide (q=q')&&decide (n=n')
 | .bool b,.bool b'=>b == b'
 | .str s,.str s'=>Ta s s'
 | .sl xs,.sl ys=>D.sameL xs ys
 | .ms n o m,.ms n' o' m'=>n == n'&&o == o'&&m == m'
 | .ptr n o m,.ptr n' o' m'=>n == n'&&o == o'&&m == m'
 | .vp e j,.vp e' j'=>D.same e e'&&j == j'
 | .agg xs,.agg ys=>D.sameL xs ys
 | .tup xs,.tup ys=>D.sameL xs ys
 | .fn f a b,.fn f' a' b'=>f == f'&&D.sameL a a'&&D.sameL b b'
 | .yld n,.yld n'=>n == n'
 | .mp n,.mp n'=>n == n'
 | _,_=>false
def D.sameL:List D->List D->Bool
 | [],[]=>true
 | d::r,e::s=>D.same d e&&D.sameL r s
 | _,_=>false
end
def Hm (d:D):Bool:=d.cells.all D.one
theorem E0 {d:D}(h:Hm d=true):aw d:=fun x hx=>List.all_eq_true.1 h x hx
theorem LH.TK {l:LH}{n:Nat}(hn:n<l.length):l.h n=l[n]:=by simp[LH.h,hn]
theorem LH.Sm {l:LH}{n:Nat}(hn:l.length<=n):l.h n=.free:=by simp[LH.h,hn]
theorem LH.top {l:LH}(h:l.nf){n:Nat}(t:nT l.h n):n=l.length:=by
 rcases Nat.lt_trichotomy n l.length with h1|h1|h1
 ·have:=t.free
  rw[LH.TK h1]at this
  exact absurd this (h _ (List.getElem_mem h1))
 ·exact h1
 ·exfalso
  obtain⟨k,rfl⟩:∃k,n=k+1:=⟨n-1,by omega⟩
  exact t.2 k rfl (LH.Sm (by omega))
theorem LH.NJ (l:LH) (s:Slot):LH.h (l++[s])=ah l.h l.length s:=by
 funext n
 unfold LH.h ah
 by_cases h:n=l.length
 ·subst h;simp
 ·rw[if_neg h]
  rcases Nat.lt_or_ge n l.length with h1|h1
  ·simp[List.getD,List.getElem?_append_left h1]
  ·have:(l++[s]).length<=n:=by simp;omega
   simp[List.getD,List.getElem?_eq_none this,List.getElem?_eq_none h1]
theorem LH.TI {l:LH}{n:Nat}(s:Slot) (hn:n<l.length):LH.h (l.set n s)=ah l.h n s:=by
 funext m
 unfold LH.h ah
 by_cases h:m=n
 ·subst h;simp[List.getD,hn]
 ·have:n≠m:=fun e=>h e.symm
  simp[List.getD,this,h]
def LH.frz (l:LH) (n:Nat):LH:=match l.h n with
 | .arr e x=>l.set n (.frz e x)
 | _=>l
end Go.Am
namespace Go.Am
open Go
variable [bV]
structure Ht where
 call:FuncId->List D->LH->Option (D×LH)
 vcall:FuncId->List D->Option D
 own:FuncId->Bool
def xD (n:Nat) (l:List (Nat×Nat×D)):Bool:=l.all fun p=>p.2.2.cells.length == p.2.1&&decide (p.1+p.2.1<=n)&&Hm p.2.2
theorem vZ {n:Nat}{l:List (Nat×Nat×D)}(h:xD n l=true):fF n l:=by
 intro p hp
 have:=List.all_eq_true.1 h p hp
 simp only[Bool.and_eq_true,beq_iff_eq,decide_eq_true_eq]at this
 exact⟨this.1.1,this.1.2,E0 this.2⟩
def SO (len esz:Nat) (l:List (Nat×D)):Bool:=l.all fun p=>decide (p.1<len)&&p.2.cells.length == esz&&Hm p.2
theorem tj {len esz:Nat}{l:List (Nat×D)}(h:SO len esz l=true):IE len esz l:=by
 intro p hp
 have:=List.all_eq_true.1 h p hp
 simp only[Bool.and_eq_true,beq_iff_eq,decide_eq_true_eq]at this
 exact⟨this.1.1,this.1.2,E0 this.2⟩
structure Uj (P:Program) (C:Ht):Prop where
 call:∀f ds l d l',C.call f ds l=some (d,l')->l.nf->l'.nf/\∀K:HK,K d l'.h->ag P f ds l.h K
 vcall:∀f ds r,C.vcall f ds=some r->aF P f ds (· = r)
variable {P:Program}{C:Ht}
end Go.Am
namespace Go.Am
open Go
variable [bV]
variable {P:Program}{C:Ht}
end Go.Am
namespace Go.Am
open Go
variable [bV]
variable {P:Program}{C:Ht}
structure Vz (P:Program) (fs:FuncId->Option aK) where
 a:∀f F,fs f=some F->∀ds K h,Ml P F ds K h->ag P f ds h K
 spec:FuncId->Option (List D->Option D)
 sp:∀f s,spec f=some s->∀ds r,s ds=some r->aF P f ds (· = r)
 v:∀f F,fs f=some F->∀ds (K:D->Prop),Ml P F ds (fun r h=>ik r/\p8 h r/\(r.fzt h).FB=true/\K (r.fzt h)) aC->aF P f ds K
theorem cX:aC=LH.h []:=by funext n;simp[aC,LH.h]
end Go.Am
namespace Go.Am
open Go
variable [bV]
variable {P:Program}{l:LH}{KH:HK}{K:D->Prop}
theorem O9 (hn:l.nf):nT l.h l.length:=by
 refine⟨fun m hm=>LH.Sm hm,fun k hk=>?_⟩
 have:k<l.length:=by omega
 rw[LH.TK this]
 exact hn _ (List.getElem_mem this)
theorem KG (hn:l.nf){Q:Nat->Prop}:(∀n,nT l.h n->Q n)=Q l.length:=by
 apply propext
 constructor
 ·exact fun h=>h _ (O9 hn)
 ·intro h n t
  rw[LH.top hn t];exact h
theorem Sd:LH.nf []:=fun _ h=>by cases h
theorem PO {s:Slot}{l:LH}:LH.nf (s::l)=(s≠.free/\LH.nf l):=by
 apply propext
 constructor
 ·exact fun h=>⟨h s (by simp),fun x hx=>h x (by simp[hx])⟩
 ·rintro⟨h1,h2⟩ x hx
  rcases List.mem_cons.1 hx with rfl|hx
  ·exact h1
  ·exact h2 x hx
theorem TE {d:D}(hn:l.nf):ab P (.box (.c d)) l.h KH=(aw d/\KH (.ptr l.length 0 0) (LH.h (l++[.box d]))):=by
 simp only[ab,vcOp,Arg.get]
 rw[KG hn,LH.NJ]
theorem ic {d:D}(hn:l.nf):ab P (.alloc d) l.h KH=KH (.ptr l.length 0 0) (LH.h (l++[.box d])):=by
 simp only[ab,vcOp]
 rw[KG hn,LH.NJ]
theorem NL {n i j o:Nat}:ab P (.fadd (.c (.ptr n i j)) o) l.h KH=((l.h n).used=true/\KH (.ptr n i (j+o)) l.h):=rfl
theorem h_ldp {n i j s:Nat}{g:Bool}:ab P (.ld (.c (.ptr n i j)) s g) l.h KH=(match l.h n with
   | .box v=>i=0/\vpart v.cells j s g (KH · l.h)
   | .arr _ els=>i<els.length/\∀d,els[i]?=some d->vpart d.cells j s g (KH · l.h)
   | .frz _ els=>i<els.length/\∀d,els[i]?=some d->vpart d.cells j s g (KH · l.h)
   | _=>False):=rfl
theorem h_stp {n i j s:Nat}{v:D}:ab P (.st (.c (.ptr n i j)) (.c v) s) l.h KH=(v.cells.length=s/\aw v/\match l.h n with
   | .box d=>i=0/\j+s<=d.cells.length/\KH .undef (ah l.h n (.box (setCells d j v.cells)))
   | .arr esz els=>i<els.length/\j+s<=esz/\∀d,els[i]?=some d->KH .undef (ah l.h n (.arr esz (els.set i (setCells d j v.cells))))
   | _=>False):=rfl
theorem kS {s:Slot}{l:LH}:LH.h (s::l) 0=s:=rfl
theorem xA {s:Slot}{l:LH}{n:Nat}:LH.h (s::l) (n+1)=LH.h l n:=rfl
theorem DU {n:Nat}{s:Slot}(hn:n<l.length):ah l.h n s=LH.h (l.set n s):=(LH.TI s hn).symm
theorem TJ {f:FuncId}{a b:List Arg}{h:Heap}:ab P (.mkf f a b) h KH=KH (.fn f (a.map (·.get [])) (b.map (·.get []))) h:=rfl
theorem Kp {f:FuncId}{a b:List D}{as:List Arg}{h:Heap}:ab P (.callv (.c (.fn f a b)) as) h KH=(dW P f=true/\ag P f (a++as.map (·.get [])++b) h KH):=rfl
theorem ku {z:List D}{ps:List (Nat×Nat×Arg)}{h:Heap}:ab P (.bld z ps) h KH=(fF z.length (ps.map fun p=>(p.1,p.2.1,p.2.2.get []))/\KH (.agg (fillD z (ps.map fun p=>(p.1,p.2.1,(p.2.2.get []).cells)))) h):=rfl
theorem Ig {neg agg:Bool}{ks:List CK}{x y:D}{h:Heap}:ab P (.eqv neg agg ks (.c x) (.c y)) h KH=(x.isAgg=agg/\y.isAgg=agg/\veqv neg ks x y (KH · h)):=rfl
theorem cJ {d:D}{h:Heap}:ab P (.box (.c d)) h KH=(aw d/\∀n,nT h n->KH (.ptr n 0 0) (ah h n (.box d))):=rfl
theorem bQ {d:D}{h:Heap}:ab P (.alloc d) h KH=∀n,nT h n->KH (.ptr n 0 0) (ah h n (.box d)):=rfl
theorem P4 {esz bytes:Nat}{z:D}{k k':IntKind}{a b:Int}{h:Heap}:ab P (.mk esz bytes z (.c (.int k a)) (.c (.int k' b))) h KH =
  (0<=a/\a<=b/\b*bytes<=140737488355328/\b<=9223372036854775807/\∀n,nT h n->KH (.ms n 0 a.toNat) (ah h n (.arr esz (List.replicate a.toNat z)))):=rfl
theorem rG {n i j o:Nat}{h:Heap}:ab P (.fadd (.c (.ptr n i j)) o) h KH=((h n).used=true/\KH (.ptr n i (j+o)) h):=rfl
theorem jE {n i j s:Nat}{g:Bool}{h:Heap}:ab P (.ld (.c (.ptr n i j)) s g) h KH=(match h n with
   | .box v=>i=0/\vpart v.cells j s g (KH · h)
   | .arr _ els=>i<els.length/\∀d,els[i]?=some d->vpart d.cells j s g (KH · h)
   | .frz _ els=>i<els.length/\∀d,els[i]?=some d->vpart d.cells j s g (KH · h)
   | _=>False):=rfl
theorem dq {n i j s:Nat}{v:D}{h:Heap}:ab P (.st (.c (.ptr n i j)) (.c v) s) h KH=(v.cells.length=s/\aw v/\match h n with
   | .box d=>i=0/\j+s<=d.cells.length/\KH .undef (ah h n (.box (setCells d j v.cells)))
   | .arr esz els=>i<els.length/\j+s<=esz/\∀d,els[i]?=some d->KH .undef (ah h n (.arr esz (els.set i (setCells d j v.cells))))
   | _=>False):=rfl
theorem nT.ne {h:Heap}{n m:Nat}(t:nT h n) (hm:h m≠.free):m≠n:=by rintro rfl;exact hm t.free
theorem Ext.refl {h:Heap}:Ext h h:=fun _ _=>rfl
theorem Ext.trans {a b c:Heap}(h:Ext a b) (k:Ext b c):Ext a c:=fun n hn=>by rw[k n (by rw[h n hn];exact hn),h n hn]
theorem Ext.new {h:Heap}{n:Nat}(t:nT h n) (s:Slot):Ext h (ah h n s):=mg t.free s
theorem bE {f:FuncId}{ds:List D}{h:Heap}{KH:HK}{R:D->Prop}(hv:aF P f ds R) (hds:∀d∈ds,d.vd=true/\aw d) (hk:∀r,R r->KH r h):ag P f ds h KH:=by
 have xc:∀(x:D),x.vone=true->x.fzc h=x/\x.jA=[]/\lQ h x:=by
  intro x hx
  cases x<;>simp_all [D.vone,D.fzc,D.jA,lQ]
 have hfz:∀d∈ds,d.fz h=d/\d.nm=[]/\jP h d:=by
  intro d hd
  obtain⟨h1,h2⟩:=hds d hd
  rcases DM h1 with hv|⟨cs,rfl,hcs⟩
  ·have:=xc d hv
   cases d<;>simp_all [D.fz,D.nm,D.vone,jP,D.cells]
  ·refine⟨?_,?_,fun x hx=>(xc x (hcs x hx)).2.2⟩
   ·simp only[D.fz]
    congr 1
    rw[List.map_congr_left (fun x hx=>(xc x (hcs x hx)).1)]
    simp
   ·simp only[D.nm]
    rw[List.flatMap_eq_nil_iff]
    exact fun x hx=>(xc x (hcs x hx)).2.1
 have e1:ds.map (D.fz h)=ds:=by
  rw[List.map_congr_left (fun d hd=>(hfz d hd).1)]
  simp
 have e2:ds.flatMap D.nm=[]:=by
  rw[List.flatMap_eq_nil_iff]
  exact fun d hd=>(hfz d hd).2.1
 refine ag.mono ?_ (gA (K:=R) (by rw[e1];exact hv) (fun d hd=>⟨(hds d hd).2,(hfz d hd).2.2,by rw[(hfz d hd).1];exact(hds d hd).1⟩))
 rintro r h' ⟨k1,k2,_⟩
 rw[k2 (Or.inr e2)]
 exact hk r k1
theorem Bh {d:D}(h:d.one=true):aw d=True:=by
 apply propext;refine⟨fun _=>trivial,fun _ x hx=>?_⟩
 cases d<;>simp_all [D.cells,D.one]
theorem MT {cs:List D}:aw (.agg cs)=∀x∈cs,x.one=true:=rfl
theorem af {A B:Prop}:vcond (.bool true) A B=A:=by simp[vcond]
theorem ae {A B:Prop}:vcond (.bool false) A B=B:=by simp[vcond]
theorem I5 {d:D}{h:Heap}{K:D->Prop}(hd:d.vd=true) (ho:aw d) (hk:K d):ik d/\p8 h d/\(d.fzt h).FB=true/\K (d.fzt h):=by
 have xc:∀(x:D),x.vone=true->x.fzc h=x/\lQ h x:=by
  intro x hx
  cases x<;>simp_all [D.vone,D.fzc,lQ]
 have e:d.fzt h=d/\p8 h d/\ik d/\d.FB=true:=by
  rcases DM hd with hv|⟨cs,rfl,hcs⟩
  ·have:=xc d hv
   have hc:d.cells=[d]:=by cases d<;>simp_all [D.vone,D.cells]
   refine⟨?_,?_,?_,?_⟩
   ·cases d<;>simp_all [D.fzt,D.fz,D.vone]
   ·cases d<;>simp_all [p8,jP,D.vone]
   ·cases d<;>simp_all [ik,D.vone]
   ·cases d<;>simp_all [D.FB,D.vone]
  ·refine⟨?_,fun x hx=>(xc x (hcs x hx)).2,ho,hd⟩
   simp only[D.fzt,D.fz]
   congr 1
   rw[List.map_congr_left (fun x hx=>(xc x (hcs x hx)).1)]
   simp
 exact⟨e.2.2.1,e.2.1,by rw[e.1];exact e.2.2.2,by rw[e.1];exact hk⟩
def qH (K:D->Prop) (r:D) (h:Heap):Prop:=ik r/\p8 h r/\(r.fzt h).FB=true/\K (r.fzt h)
theorem bI {k:IntKind}{n:Int}{h:Heap}{K:D->Prop}:qH K (.int k n) h=K (.int k n):=by
 apply propext;exact⟨fun h=>h.2.2.2,fun hk=>I5 rfl (fun x hx=>by simp[D.cells]at hx;subst hx;rfl) hk⟩
theorem bM {b:Bool}{h:Heap}{K:D->Prop}:qH K (.bool b) h=K (.bool b):=by
 apply propext;exact⟨fun h=>h.2.2.2,fun hk=>I5 rfl (fun x hx=>by simp[D.cells]at hx;subst hx;rfl) hk⟩
theorem JT {d:D}{h:Heap}{K:D->Prop}(hd:d.vd=true/\aw d) (hk:K d):qH K d h:=I5 hd.1 hd.2 hk
theorem O1 {n esz:Nat}{els:List D}{h:Heap}{K:D->Prop}(hn:(h n).row=some (esz,els)) (hv:∀x∈els,∀y∈x.cells,y.vone=true) (hk:K (.sl els)):qH K (.ms n 0 els.length) h:=by
 refine⟨fun x hx=>by simp[D.cells]at hx;subst hx;rfl,fun x hx=>?_,?_,?_⟩
 ·simp only[D.cells,List.mem_singleton]at hx
  subst hx
  exact⟨esz,els,hn,by simp,fun x hx y hy=>hv x (by simpa using hx) y hy⟩
 ·simp[D.fzt,D.fz,D.fzc,hn,D.FB,D.vd,D.vone]
 ·simpa[D.fzt,D.fz,D.fzc,hn] using hk
theorem bg {fz:Bool}{f:FuncId}{loops:TL}{dr:Nat->Array Oper->Option bW}{F:aK}(hc:cFn P fz f loops dr=some F) (hdr:wD P F.nt dr)
  {ds:List D}{K:D->Prop}(hlen:Nat.ble ds.length F.nt=true) {V:(HK)->Prop}(hV:∀K,V K=vcC P F.code (fun x e h'=>match x with|.exit _=>False|.pan=>False|_=>iI P F.res K e h') (params ds 0) aC)
  (hv:V (qH K)):aF P f ds K :=
 Mj hc hdr ⟨Nat.le_of_ble_eq_true hlen,Eq.mp (hV _) hv⟩
theorem aW {fz:Bool}{f:FuncId}{loops:TL}{dr:Nat->Array Oper->Option bW}{F:aK}(hc:cFn P fz f loops dr=some F) (hdr:wD P F.nt dr)
  {ds:List D}{h:Heap}{K:HK}(hlen:Nat.ble ds.length F.nt=true) {V:(HK)->Prop}(hV:∀K,V K=vcC P F.code (fun x e h'=>match x with|.exit _=>False|.pan=>False|_=>iI P F.res K e h') (params ds 0) h)
  (hv:V K):ag P f ds h K :=
 IQ hc hdr ⟨Nat.le_of_ble_eq_true hlen,Eq.mp (hV _) hv⟩
theorem ca {cs:List D}:(D.agg cs).cells=cs:=rfl
theorem nD {k:IntKind}{n:Int}:(D.int k n).cells=[.int k n]:=rfl
theorem Jz {b:Bool}:(D.bool b).cells=[.bool b]:=rfl
theorem LG {s:ByteArray}:(D.str s).cells=[.str s]:=rfl
theorem Om {xs:List D}:(D.sl xs).cells=[.sl xs]:=rfl
theorem LJ:D.nil.cells=[.nil]:=rfl
theorem Iw:D.nilfn.cells=[.nilfn]:=rfl
theorem Hg:D.nilmap.cells=[.nilmap]:=rfl
theorem On {n:Nat}:(D.mp n).cells=[.mp n]:=rfl
theorem Jd:D.nilmap.one=true:=rfl
theorem R0 {n:Nat}:(D.mp n).one=true:=rfl
theorem EU {n o l:Nat}:(D.ms n o l).cells=[.ms n o l]:=rfl
theorem LI {n o l:Nat}:(D.ptr n o l).cells=[.ptr n o l]:=rfl
theorem Oo {f:FuncId}{a b:List D}:(D.fn f a b).cells=[.fn f a b]:=rfl
theorem ai {a:List D}:aG a a=True:=by simp[aG]
theorem PI {k:IntKind}{n:Int}:aw (.int k n)=True:=Bh rfl
theorem Nj {b:Bool}:aw (.bool b)=True:=Bh rfl
theorem PF {s:ByteArray}:aw (.str s)=True:=Bh rfl
theorem RY {xs:List D}:aw (.sl xs)=True:=Bh rfl
theorem PH:aw .nil=True:=Bh rfl
theorem RZ {n o l:Nat}:aw (.ms n o l)=True:=Bh rfl
theorem PG {n o l:Nat}:aw (.ptr n o l)=True:=Bh rfl
theorem Sa {f:FuncId}{a b:List D}:aw (.fn f a b)=True:=Bh rfl
theorem NM {e:LEnv}{d:D}:Arg.get e (.c d)=d:=rfl
theorem Mz {cs new:List D}{j:Nat}:setCells (.agg cs) j new=.agg (cs.take j++new++cs.drop (j+new.length)):=rfl
theorem My {k:IntKind}{n:Int}{j:Nat}{x:D}:setCells (.int k n) j [x]=x:=rfl
theorem K9 {b:Bool}{j:Nat}{x:D}:setCells (.bool b) j [x]=x:=rfl
theorem Pc {xs:List D}{j:Nat}{x:D}:setCells (.sl xs) j [x]=x:=rfl
theorem Mx {j:Nat}{x:D}:setCells .nil j [x]=x:=rfl
attribute [simp] Mz My K9 Pc Mx
theorem HB {k:IntKind}{n:Int}:(D.int k n).vone=true:=rfl
theorem KT {b:Bool}:(D.bool b).vone=true:=rfl
theorem Mg {s:ByteArray}:(D.str s).vone=true:=rfl
theorem JU {xs:List D}:(D.sl xs).vone=true:=rfl
theorem Mh:D.nil.vone=true:=rfl
theorem Nn {k:IntKind}{n:Int}:(D.int k n).one=true:=rfl
theorem Li {b:Bool}:(D.bool b).one=true:=rfl
theorem Nk {s:ByteArray}:(D.str s).one=true:=rfl
theorem PJ {xs:List D}:(D.sl xs).one=true:=rfl
theorem Nm:D.nil.one=true:=rfl
theorem PK {n o l:Nat}:(D.ms n o l).one=true:=rfl
theorem Nl {n o l:Nat}:(D.ptr n o l).one=true:=rfl
theorem PL {f:FuncId}{a b:List D}:(D.fn f a b).one=true:=rfl
theorem Ri {cs:List D}:(D.agg cs).vd=cs.all D.vone:=rfl
theorem Rh {k:IntKind}{n:Int}:(D.int k n).vd=true:=rfl
theorem O4 {b:Bool}:(D.bool b).vd=true:=rfl
theorem Rf {s:ByteArray}:(D.str s).vd=true:=rfl
theorem S1 {xs:List D}:(D.sl xs).vd=true:=rfl
theorem Rg:D.nil.vd=true:=rfl
theorem Lw {cs:List D}:(D.agg cs).isAgg=true:=rfl
theorem Lv {k:IntKind}{n:Int}:(D.int k n).isAgg=false:=rfl
theorem Jm {b:Bool}:(D.bool b).isAgg=false:=rfl
theorem Lu {s:ByteArray}:(D.str s).isAgg=false:=rfl
attribute [simp] HB KT Mg JU Mh Nn Li Nk PJ Nm PK Nl PL Ri Rh O4 Rf S1 Rg Lw Lv Jm Lu
attribute [simp] Sd PO Slot.live Slot.used ca nD Jz LG Om LJ Iw Hg On Jd R0 EU LI Oo ai PI Nj PF RY PH RZ PG Sa MT ad NM
end Go.Am
namespace Go.Am
open Go
variable [bV]
variable {P:Program}{KH:HK}{h:Heap}
def Own (esz:Nat) (h:Heap) (v:D) (els:List D):Prop:=(v=.nil/\els=[])\/∃n,v=.ms n 0 els.length/\h n=.arr esz els
def QA (h h':Heap) (v:D):Prop:=∀k,h k≠.free->(∀l,v≠.ms k 0 l)->h' k=h k
theorem xc {x:D}(hx:x.vone=true):x.fzc h=x/\x.jA=[]/\lQ h x:=by
 cases x<;>simp_all [D.vone,D.fzc,D.jA,lQ]
theorem DL {d:D}(h1:d.vd=true):d.fz h=d/\d.nm=[]/\jP h d:=by
 rcases DM h1 with hv|⟨cs,rfl,hcs⟩
 ·have:=xc (h:=h) hv
  cases d<;>simp_all [D.fz,D.nm,D.vone,jP,D.cells]
 ·refine⟨?_,?_,fun x hx=>(xc (hcs x hx)).2.2⟩
  ·simp only[D.fz]
   congr 1
   rw[List.map_congr_left (fun x hx=>(xc (h:=h) (hcs x hx)).1)]
   simp
  ·simp only[D.nm]
   rw[List.flatMap_eq_nil_iff]
   exact fun x hx=>(xc (h:=h) (hcs x hx)).2.1
theorem NO {esz:Nat}{z d:D}(h1:d.vd=true) (h2:aw d) (h3:d.cells.length=esz) (hk:∀n,nT h n->KH (.ms n 0 1) (ah h n (.arr esz [d]))):ab P (.bldS true esz 1 z [(0,.c d)]) h KH:=by
 obtain⟨a1,a2,a3⟩:=DL (h:=h) h1
 refine⟨fun p hp=>by simp[Arg.get]at hp;subst hp;exact⟨Nat.one_pos,h3,h2⟩,fun _ p hp=>by simp[Arg.get]at hp;subst hp;exact a3,fun n t=>?_⟩
 have:=hk n t
 simpa[Arg.get,a1,a2,Heap.freezeAll,setEls] using this
theorem m6 {esz:Nat}{z:D}{fz:Bool}(hk:∀n,nT h n->KH (.ms n 0 0) (ah h n (.arr esz []))):ab P (.bldS fz esz 0 z []) h KH:=by
 refine⟨fun p hp=>by simp at hp,fun _ p hp=>by simp at hp,fun n t=>?_⟩
 have:=hk n t
 cases fz<;>simpa[Heap.freezeAll,setEls] using this
end Go.Am
