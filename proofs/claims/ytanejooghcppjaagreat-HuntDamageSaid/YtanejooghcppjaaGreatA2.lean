/- The abstract machine: what the operations of the program do, on plain data. No condition. -/
import Derived.Test.YtanejooghcppjaaGreatA1
set_option linter.unnecessarySimpa false
set_option linter.defProp false
set_option linter.unusedSectionVars false
set_option linter.unusedSimpArgs false
set_option linter.unusedVariables false
namespace Go.Am
open Go
variable [ck]
variable {P:Program}{nt:Nat}
def cOper (P:Program) (fz:Bool) (nt:Nat) (ops:Array Oper) (o:Oper):Option AOper :=
 if o.dst.all (· < nt) then
  match cOp P fz o with
  | some op=>match o.guard with
   | none=>some ⟨o.dst,op,none⟩
   | some (j,want)=>match (ops[j]?).bind (·.dst) with
    | some s=>some ⟨o.dst,op,some (s,want)⟩
    | none=>none
  | none=>none
 else none
theorem kV {o:Oper}{K K':Env->Heap->Prop}(hk:∀t h,K t h->K' t h){t:Env}{h:Heap}(hx:MR P nt o K t h):MR P nt o K' t h :=
 λ u r c w a Q E hp hr hs=>Oper.wpIn_mono (λ _ _ G=>Fin.mono hk G) (hx u r c w a Q E hp hr hs)
theorem sE {fz:Bool}{o:Oper}{op:AOp}(h:cOp P fz o=some op):∀c,o.op≠.defer c:=by
 grind [cOp,cOp0,NH,H5]
theorem Pf {fz:Bool}{ops:Array Oper}{i:Nat}{rest:List Nat}{o:Oper}{ao:AOper}(ho:ops[i]?=some o) (hc:cOper P fz nt ops o=some ao){K:LEnv->Heap->Prop}{K2:LEnv->Heap->Prop}{e:LEnv}{h:Heap}
  (hrest:∀e' h',K e' h'->vc P nt ops rest (up K2) e'.get h') (hv:zv P ao K e h):vc P nt ops (i::rest) (up K2) e.get h:=by
 unfold cOper at hc;split at hc
 case isFalse=>cases hc
 rename_i H
 have hd:∀j,o.dst=some j->j<nt:=by
  grind
 cases hop:cOp P fz o with
 | none=>simp[hop]at hc
 | some op =>
  have hs:=u6 (nt:=nt) hop hd
  have main:vcOp P op (λ d h'=>K (e.put o.dst d) h') e h->MR P nt o (vc P nt ops rest (up K2)) e.get h:=by
   intro E;refine kV ?_ (hs _ e h E);grind
  simp only[hop]at hc
  cases hg:o.guard with
  | none =>
   simp[hg]at hc;subst hc;refine kF ho (sE hop) none (by simp[hg]) (λ _=>rfl) hd ?_;exact main (by grind [ji])
  | some p =>
   obtain⟨j,want⟩:=p;simp only[hg]at hc
   cases G:(ops[j]?).bind (·.dst) with
   | none=>simp[G]at hc
   | some s =>
    simp[G]at hc;subst hc
    refine kF ho (sE hop) (some (s,want)) (by
     grind) (by simp[hg]) hd ?_
    simp only[ji,vguard]at hv;cases hb:gv (e.get s)<;>simp only[hb]at hv<;>try exact hv.elim
    rename_i b;refine⟨b,hb,λ u=>main (hv.1 u),λ u=>?_⟩;grind [LEnv.bu]
theorem K3 {fz:Bool}{ops:Array Oper}:∀(l:List AOper) (i:Nat),(ops.toList.drop i).mapM (cOper P fz nt ops)=some l->∀{K:LEnv->Heap->Prop}{e:LEnv}{h:Heap},zu P l K e h ->
  vc P nt ops (List.range' i (ops.size-i)) (up K) e.get h:=by
 intro l
 induction l with
 | nil =>
  intro i hm K e h E
  have h0:ops.toList.drop i=[]:=by
   cases hd:ops.toList.drop i with
   | nil=>rfl
   | cons x r =>
    rw[hd,List.mapM_cons]at hm
    cases h1:cOper P fz nt ops x with
    | none=>simp[h1]at hm
    | some y=>cases h2:r.mapM (cOper P fz nt ops)<;>simp[h1,h2]at hm
  have:ops.size-i=0:=by simpa using congrArg List.length h0
  rw[this];exact iy ⟨e,rfl,E⟩
 | cons O l H =>
  intro i hm K e h E
  cases hd:ops.toList.drop i with
  | nil=>rw[hd]at hm;simp at hm
  | cons x r =>
   rw[hd,List.mapM_cons]at hm
   cases h1:cOper P fz nt ops x with
   | none=>simp[h1]at hm
   | some y =>
    cases h2:r.mapM (cOper P fz nt ops) with
    | none=>simp[h1,h2]at hm
    | some s =>
     simp[h1,h2]at hm;obtain⟨rfl,rfl⟩:=hm
     have G:i<ops.size:=by
      grind [List.drop_eq_nil_of_le]
     have u:ops.toList.drop i=ops[i]::ops.toList.drop (i+1):=by
      grind [List.drop_eq_getElem_cons]
     rw[u]at hd;simp at hd;obtain⟨rfl,rfl⟩:=hd
     have hr:List.range' i (ops.size-i)=i::List.range' (i+1) (ops.size-(i+1)):=by
      rw[show ops.size-i=(ops.size-(i+1))+1 by omega,List.range'_succ]
     rw[hr];refine Pf (by simp[G]) h1 (K:=zu P s K) (λ I h' hk=>H (i+1) h2 hk) E
def cCode (P:Program) (fz:Bool) (nt:Nat) (loops:TLq) (dr:Nat->Array Oper->Option ACode):Code->Option ACode
 | .skip=>some .skip
 | .seq a b=>match cCode P fz nt loops dr a,cCode P fz nt loops dr b with
  | some a',some b'=>match loops (1000001+firstReg b) with
   | some (aS,vars)=>some (.seqj aS vars a' b')
   | none=>some (.seq a' b')
  | _,_=>none
 | .cond c a b=>match cArg c,cCode P fz nt loops dr a,cCode P fz nt loops dr b with
  | some c,some a,some b=>some (.cond c a b)
  | _,_,_=>none
 | .block id a=>(cCode P fz nt loops dr a).map (.block id)
 | .loop a=>match cCode P fz nt loops dr a,loops (firstReg a) with
  | some a,some (aS,vars)=>some (.loop aS vars a)
  | _,_=>none
 | .exit id=>some (.exit id)
 | .ret=>some .ret
 | .label l=>some (.label l)
 | .goto l=>some (.goto l)
 | .scope a=>match cCode P fz nt loops dr a,loops (9000001+firstReg a) with
  | some a',some (aS,vars)=>match a'.label1 with
   | some l=>(a'.after l).map λ b'=>.scope l aS vars a' b'
   | none=>none
  | _,_=>none
 | .region id ops false=>match loops (8000000+id) with
  | none=>(ops.toList.mapM (cOper P fz nt ops)).map .tT
  | some ([],_)=>if isPanR P nt ops then some .panr else none
  | some (_::_,_)=>(ops.toList.mapM (ue P fz nt)).map .regx
 | .region id ops true=>match dr id ops with
  | some p=>if p.label1.isNone then(match loops (6000001+id) with
   | some _=>some (.frz p)
   | none=>some p) else none
  | none=>none
 | .rangeFunc g ps assign body=>match cArg g,cCode P fz nt loops dr assign,cCode P fz nt loops dr body with
  | some g',some a',some b'=>match loops (4000001+firstReg body) with
   | some (aS,exs)=>if ps.toList.Nodup/\(ps.toList.all λ p=>decide (p<nt))=true then some (.range g' ps.toList aS exs a' b') else none
   | none=>none
  | _,_,_=>none
 | _=>none
where firstReg:Code->Nat
 | .region id _ _=>id
 | .seq a b=>if firstReg a=1000000 then firstReg b else firstReg a
 | .cond _ a b=>if firstReg a=1000000 then firstReg b else firstReg a
 | .block _ a=>firstReg a
 | .scope a=>firstReg a
 | .loop a=>firstReg a
 | _=>1000000
def CX (P:Program) (nt:Nat) (dr:Nat->Array Oper->Option ACode):Prop :=
 ∀id ops ac,dr id ops=some ac->∀(Q:LPost) (e:LEnv) (h:Heap),vcC P ac Q e h->uu P nt (.region id ops true) (λ x=>up (Q x)) e.get h
theorem QK {l:Nat}:∀(p:ACode),p.label1.isNone=true->p.after l=none:=by
 intro p
 induction p with
 | seq a b E u|seqj _ _ a b E u =>
  grind [ACode.label1,ACode.after]
 | label x=>grind [ACode.label1]
 | _=>intro _;rfl
theorem M5 {K:LEnv->Heap->Prop}{Q:LPost}{K':Env->Heap->Prop}(hk:∀e h,K e h->K' e.get h):∀x t h,up (LPost.then K Q x) t h->Post.then K' (λ x=>up (Q x)) x t h:=by
 rintro x t h ⟨e,rfl,hx⟩
 cases x with
 | normal=>exact hk e h hx
 | exit id=>exact⟨e,rfl,hx⟩
 | ret=>exact⟨e,rfl,hx⟩
 | pan=>exact⟨e,rfl,hx⟩
 | jump l=>exact⟨e,rfl,hx⟩
theorem wZ {x:Code}{Q:Post}{t t':Env}{h:Heap}(ht:∀i,t' i=.undef\/t' i=t i) (hx:uu P nt x Q t' h):uu P nt x Q t h:=by
 intro r c w a u hp hr hs ho;refine hx r c w a u hp hr ⟨hs.glob,hs.lo,hs.defers,hs.size,λ i=>?_⟩ ho;rcases ht i with h|h
 ·rw[h];exact .undef _
 ·rw[h];exact hs.rel i
theorem mQ (vars:List Nat) (f:Nat->D) (e:LEnv) (i:Nat) (he:e.get i=.undef\/e.get i=f i):LEnv.get (vars.map (λ v=>(v,f v))++e) i=.undef\/LEnv.get (vars.map (λ v=>(v,f v))++e) i=f i:=by
 induction vars with
 | nil=>exact he
 | cons k r u =>
  grind [LEnv.get]
theorem Rp {aS:List Nat}{e e':LEnv}(hkeep:aS.map (LEnv.get e')=aS.map e.get):(aS.map λ k=>(k,e.get k))=aS.map λ k=>(k,e'.get k):=by
 have hk:∀k∈aS,e'.get k=e.get k:=by
  intro k hk;obtain⟨j,u⟩:=db hk;have:=congrArg (λ l=>l[j]?) hkeep;simpa[u] using this
 grind [List.map_congr_left]
theorem Yz {x:Code}{Q:Post}{t:Env}{h:Heap}(ns:List Nat) (hx:uu P nt x Q t (h.freezeAll ns)):uu P nt x Q t h:=by
 intro r c w a E hp hr hs ho;subst E;obtain⟨hle,u⟩:=dU hr ns;refine wpIn_mono (hx r ⟨c.ρ,c.X,c.h.freezeAll ns,c.hp⟩ w a rfl hp u (hs.mono hle) (ho.mono hle)) λ x H w' G=>?_
 exact FinX.from hle (WS.refl w) _ _ _ G
def CS (P:Program) (nt:Nat) (code:Code) (ac:ACode):Prop:=∀(Q:LPost) (e:LEnv) (h:Heap),vcC P ac Q e h->uu P nt code (λ x=>up (Q x)) e.get h
def CL (P:Program) (nt:Nat) (code:Code) (ac:ACode):Prop:=∀l,(findLabel code l=none/\ac.after l=none)\/∃rest ac',findLabel code l=some rest/\ac.after l=some ac'/\CS P nt rest ac'
theorem od {fz:Bool}{loops:TLq}{dr:Nat->Array Oper->Option ACode}{code:Code}{ac:ACode}(h1:∀a b,code≠.seq a b) (h2:∀l,code≠.label l) (hc:cCode P fz nt loops dr code=some ac):CL P nt code ac:=by
 intro l;left
 cases code with
 | seq a b=>exact absurd rfl (h1 a b)
 | label l=>exact absurd rfl (h2 l)
 | region id ops draw =>
  refine⟨rfl,?_⟩
  cases draw with
  | false =>
   simp only[cCode]at hc;split at hc
   ·simp only[Option.map_eq_some_iff]at hc;obtain⟨_,_,rfl⟩:=hc;rfl
   ·split at hc
    ·cases hc;rfl
    ·cases hc
   ·simp only[Option.map_eq_some_iff]at hc;obtain⟨_,_,rfl⟩:=hc;rfl
  | true =>
   simp only[cCode]at hc;split at hc
   ·split at hc
    ·rename_i hn;split at hc
     ·cases hc;rfl
     grind [QK]
    ·cases hc
   ·cases hc
 | skip=>simp only[cCode,Option.some.injEq]at hc;subst hc;exact⟨rfl,rfl⟩
 | exit id=>simp only[cCode,Option.some.injEq]at hc;subst hc;exact⟨rfl,rfl⟩
 | goto id=>simp only[cCode,Option.some.injEq]at hc;subst hc;exact⟨rfl,rfl⟩
 | ret=>simp only[cCode,Option.some.injEq]at hc;subst hc;exact⟨rfl,rfl⟩
 | refuse w=>simp[cCode]at hc
 | cond c a b =>
  simp only[cCode]at hc;split at hc
  ·simp only[Option.some.injEq]at hc;subst hc;exact⟨rfl,rfl⟩
  ·cases hc
 | block id a=>simp only[cCode,Option.map_eq_some_iff]at hc;obtain⟨_,_,rfl⟩:=hc;exact⟨rfl,rfl⟩
 | loop a =>
  simp only[cCode]at hc;split at hc
  ·simp only[Option.some.injEq]at hc;subst hc;exact⟨rfl,rfl⟩
  ·cases hc
 | scope a =>
  simp only[cCode]at hc;split at hc
  ·split at hc
   ·simp only[Option.map_eq_some_iff]at hc;obtain⟨_,_,rfl⟩:=hc;exact⟨rfl,rfl⟩
   ·cases hc
  ·cases hc
 | rangeFunc g ps a b =>
  simp only[cCode]at hc;split at hc
  ·split at hc
   ·split at hc
    ·simp only[Option.some.injEq]at hc;subst hc;exact⟨rfl,rfl⟩
    ·cases hc
   ·cases hc
  ·cases hc
theorem Kf {a b:Code}{a' b':ACode}{aS vars:List Nat}(ha:CS P nt a a') (hb:CS P nt b b'):CS P nt (.seq a b) (.seqj aS vars a' b'):=by
 intro Q e h G;obtain⟨J,h1,h2⟩:=G;refine RO (u9 ?_ (ha _ e h h2));refine M5 ?_;rintro E h' ⟨u,hJ⟩;have hk:(aS.map λ k=>(k,e.get k))=aS.map λ k=>(k,E.get k):=Rp u
 refine wZ (λ i=>mQ vars E.get _ i ?_) (hb Q _ h' (h1 E.get h' hJ));rw[hk];exact get_map aS E.get i
theorem Ml {a b:Code}{a' b':ACode}(ha:CS P nt a a') (hb:CS P nt b b'):CS P nt (.seq a b) (.seq a' b'):=by
 intro Q e h u;refine RO (u9 ?_ (ha _ e h u));exact M5 (λ e h hx=>hb Q e h hx)
theorem NI {fz:Bool}{loops:TLq}{dr:Nat->Array Oper->Option ACode}(hdr:CX P nt dr):∀(code:Code) (ac:ACode),cCode P fz nt loops dr code=some ac ->
  CS P nt code ac/\CL P nt code ac:=by
 intro code
 induction code with
 | skip=>intro ac hc;refine⟨?_,od (by simp) (by simp) hc⟩;intro Q e h G;simp[cCode]at hc;subst hc;exact Pk ⟨e,rfl,G⟩
 | exit id=>intro ac hc;refine⟨?_,od (by simp) (by simp) hc⟩;intro Q e h G;simp[cCode]at hc;subst hc;exact Wg ⟨e,rfl,G⟩
 | ret=>intro ac hc;refine⟨?_,od (by simp) (by simp) hc⟩;intro Q e h G;simp[cCode]at hc;subst hc;exact Yy ⟨e,rfl,G⟩
 | seq a b O T =>
  intro ac hc;simp only[cCode]at hc;split at hc
  ·rename_i U b' ha hb;obtain⟨a1,a2⟩:=O U ha;obtain⟨b1,b2⟩:=T b' hb;split at hc
   ·rename_i aS vars _;simp at hc;subst hc;refine⟨Kf a1 b1,λ l=>?_⟩;rcases a2 l with⟨p,q⟩|⟨rest,W,p,q,r⟩
    ·rcases b2 l with⟨p',q'⟩|⟨rest,W,p',q',r'⟩
     ·grind [findLabel,ACode.after]
     grind [findLabel,ACode.after]
    grind [findLabel,ACode.after,Kf]
   ·simp at hc;subst hc;refine⟨Ml a1 b1,λ l=>?_⟩;rcases a2 l with⟨p,q⟩|⟨rest,W,p,q,r⟩
    ·rcases b2 l with⟨p',q'⟩|⟨rest,W,p',q',r'⟩
     ·grind [findLabel,ACode.after]
     grind [findLabel,ACode.after]
    grind [findLabel,ACode.after,Ml]
  ·cases hc
 | label l =>
  intro ac hc;simp[cCode]at hc;subst hc;refine⟨λ Q e h G=>Tf ⟨e,rfl,G⟩,λ l'=>?_⟩;by_cases hl:(l == l')=true
  ·exact Or.inr ⟨.skip,.skip,by grind [findLabel],by grind [ACode.after],λ Q e h G=>Pk ⟨e,rfl,G⟩⟩
  grind [findLabel,ACode.after]
 | goto l=>intro ac hc;refine⟨?_,od (by simp) (by simp) hc⟩;intro Q e h G;simp[cCode]at hc;subst hc;exact Wf ⟨e,rfl,G⟩
 | scope a O =>
  intro ac hc;refine⟨?_,od (by simp) (by simp) hc⟩;intro Q e h G;simp only[cCode]at hc;split at hc
  ·rename_i U aS vars ha _;split at hc
   ·rename_i l _;simp only[Option.map_eq_some_iff]at hc;obtain⟨b',a5,rfl⟩:=hc;obtain⟨a1,a2⟩:=O U ha;rcases a2 l with⟨_,q⟩|⟨rest,W,p,q,r⟩
    ·rw[q]at a5;cases a5
    rw[a5]at q;cases q;obtain⟨I,V,S⟩:=G
    let E:(Nat->D)->LEnv:=λ f=>vars.map (λ v=>(v,f v))++aS.map (λ k=>(k,e.get k))
    have back:∀(u:LEnv),aS.map (LEnv.get u)=aS.map e.get->∀i,(E u.get).get i=.undef\/(E u.get).get i=u.get i:=by
     intro u H i;refine mQ vars u.get _ i ?_;rw[Rp H];exact get_map aS u.get i
    refine Td p (λ n t h=>∃f:Nat->D,I n (vars.map f) h/\∀i,(E f).get i=.undef\/(E f).get i=t i) ?_ ?_
    ·refine u9 ?_ (a1 _ e h V);rintro x t h' ⟨u,rfl,hx⟩
     cases x with
     | jump l' =>
      obtain⟨rfl,H,m,hI⟩:=hx;exact⟨rfl,m,u.get,hI,back u H⟩
     | normal=>exact⟨u,rfl,hx⟩
     | ret=>exact⟨u,rfl,hx⟩
     | pan=>exact⟨u,rfl,hx⟩
     | exit id=>exact⟨u,rfl,hx⟩
    ·rintro n t h' ⟨f,hI,hE⟩;refine wZ hE (u9 ?_ (r _ (E f) h' (S n f h' hI)));rintro x t h' ⟨u,rfl,hx⟩
     cases x with
     | jump l' =>
      obtain⟨rfl,H,m,hm,hI⟩:=hx;exact⟨rfl,m,hm,u.get,hI,back u H⟩
     | normal=>exact⟨u,rfl,hx⟩
     | ret=>exact⟨u,rfl,hx⟩
     | pan=>exact⟨u,rfl,hx⟩
     | exit id=>exact⟨u,rfl,hx⟩
   ·cases hc
  ·cases hc
 | cond c a b O T =>
  intro ac hc;refine⟨?_,od (by simp) (by simp) hc⟩;intro Q e h G;simp only[cCode]at hc;split at hc
  ·rename_i c' U b' a8 ha hb;simp at hc;subst hc;simp only[vcC]at G;cases ht:c'.get e<;>simp only[ht]at G<;>try exact G.elim
   rename_i t;refine Wh (b:=t) (λ c a _ hs=>?_) ?_
   ·have:=aH a8 hs;grind [zL]
   ·cases t
    ·exact(T b' hb).1 Q e h (G.2 rfl)
    ·exact(O U ha).1 Q e h (G.1 rfl)
  ·cases hc
 | block id a O =>
  intro ac hc;refine⟨?_,od (by simp) (by simp) hc⟩;intro Q e h G;simp only[cCode]at hc
  cases ha:cCode P fz nt loops dr a with
  | none=>simp[ha]at hc
  | some U =>
   simp[ha]at hc;subst hc;refine Tg (u9 ?_ ((O U ha).1 _ e h G));rintro x t h ⟨u,rfl,hx⟩
   cases x with
   | normal=>exact⟨u,rfl,hx⟩
   | ret=>exact⟨u,rfl,hx⟩
   | pan=>exact⟨u,rfl,hx⟩
   | jump l=>exact⟨u,rfl,hx⟩
   | exit c2 =>
    simp only[LPost.block]at hx;simp only[Post.block];split
    ·rename_i Z;rw[if_pos Z]at hx;exact⟨u,rfl,hx⟩
    ·rename_i Z;rw[if_neg Z]at hx;exact⟨u,rfl,hx⟩
 | loop a O =>
  intro ac hc;refine⟨?_,od (by simp) (by simp) hc⟩;intro Q e h G;simp only[cCode]at hc;split at hc
  ·rename_i U aS vars ha _;simp at hc;subst hc;obtain⟨I,n₀,h0,S⟩:=G
   let E:(Nat->D)->LEnv:=λ f=>vars.map (λ v=>(v,f v))++aS.map (λ k=>(k,e.get k))
   refine We (λ n t h=>∃f:Nat->D,I n (vars.map f) h/\∀i,(E f).get i=.undef\/(E f).get i=t i) n₀ ⟨e.get,h0,λ i=>mQ vars e.get _ i (get_map aS e.get i)⟩ ?_;rintro n t h' ⟨f,hI,hE⟩;refine wZ hE (u9 ?_ ((O U ha).1 _ (E f) h' (S n f h' hI)));refine M5 ?_;rintro u c3 ⟨H,m,hm,c1⟩;refine⟨m,hm,u.get,c1,λ i=>mQ vars u.get _ i ?_⟩
   have:(aS.map λ k=>(k,e.get k))=aS.map λ k=>(k,u.get k):=by
    have hk:∀k∈aS,u.get k=e.get k:=by
     intro k hk;obtain⟨j,hj⟩:=db hk;have:=congrArg (λ l=>l[j]?) H;simpa[hj] using this
    grind [List.map_congr_left]
   rw[this];exact get_map aS u.get i
  ·cases hc
 | region id ops draw =>
  intro ac hc;refine⟨?_,od (by simp) (by simp) hc⟩;intro Q e h G
  cases draw with
  | false =>
   simp only[cCode]at hc;split at hc
   ·cases hl:ops.toList.mapM (cOper P fz nt ops) with
    | none=>simp[hl]at hc
    | some l =>
     simp[hl]at hc;subst hc;refine QD ?_;have:=K3 l 0 (by simpa using hl) G;grind [List.range_eq_range']
   ·split at hc
    ·rename_i hp;cases hc;exact Wd hp ⟨[],rfl,G []⟩
    ·cases hc
   ·cases hl:ops.toList.mapM (ue P fz nt) with
    | none=>simp[hl]at hc
    | some l =>
     simp[hl]at hc;subst hc;refine Pl ?_;have:=Pe l 0 (by simpa using hl) G;grind [List.range_eq_range']
  | true =>
   simp only[cCode]at hc
   cases hl:dr id ops with
   | none=>simp[hl]at hc
   | some p =>
    simp only[hl]at hc;split at hc
    case isFalse=>cases hc
    cases a6:loops (6000001+id) with
    | none =>
     rw[a6]at hc;simp only[Option.some.injEq]at hc;subst hc;exact hdr id ops p hl Q e h G
    | some _ =>
     rw[a6]at hc;simp only[Option.some.injEq]at hc;subst hc;obtain⟨ns,G⟩:=G;exact Yz ns (hdr id ops p hl Q e _ G)
 | rangeFunc g ps assign body O T =>
  intro ac hc;refine⟨?_,od (by simp) (by simp) hc⟩;intro Q e h G;simp only[cCode]at hc;split at hc
  ·rename_i g' U b' hg ha hb;split at hc
   ·split at hc
    ·rename_i a7;simp at hc;subst hc;refine Te hg a7.1 (λ p hp=>by grind) (O U ha).1 (T b' hb).1 G
    ·cases hc
   ·cases hc
  ·cases hc
 | _=>grind [cCode]
theorem sF {fz:Bool}{loops:TLq}{dr:Nat->Array Oper->Option ACode}(hdr:CX P nt dr) (code:Code) (ac:ACode) (hc:cCode P fz nt loops dr code=some ac) :
  ∀(Q:LPost) (e:LEnv) (h:Heap),vcC P ac Q e h->uu P nt code (λ x=>up (Q x)) e.get h:=(NI hdr code ac hc).1
end Go.Am
namespace Go.Am
open Go
variable [ck]
variable {P:Program}
inductive RV where
 | t (i:Nat)
 | cell (i size:Nat) (agg:Bool)
structure aJ where
 nt:Nat
 code:ACode
 res:List RV
def TM (P:Program) (r:RV) (e:LEnv) (h:Heap) (K:D->Prop):Prop :=
 match r with
 | .t i=>K (e.get i)
 | .cell i size agg=>vcOp P (.ld (.t i) size agg) (λ d _=>K d) e h
def vcRess (P:Program):List RV->LEnv->Heap->(List D->Prop)->Prop
 | [],_,_,K=>K []
 | r::s,e,h,K=>TM P r e h λ d=>vcRess P s e h λ ds=>K (d::ds)
def mu (P:Program) (rs:List RV) (K:HKq) (e:LEnv) (h:Heap):Prop :=
 match rs with
 | [r]=>TM P r e h (K · h)
 | rs=>vcRess P rs e h λ ds=>K (.tup ds) h
def params:List D->Nat->LEnv
 | [],_=>[]
 | d::r,i=>(i,d)::params r (i+1)
def vcFn (P:Program) (F:aJ) (ds:List D) (K:HKq) (h:Heap):Prop :=
 ds.length<=F.nt/\vcC P F.code (λ x e h'=>match x with
  | .exit _=>False
  | .pan=>False
  | .jump _=>False
  | _=>mu P F.res K e h') (params ds 0) h
def cRes (P:Program):ResultVar->Option RV
 | .tmp i=>some (.t i)
 | .cell i t=>match cTy P t with
  | some (n,b)=>some (.cell i n b)
  | none=>none
def cFn (P:Program) (fz:Bool) (f:FuncId) (loops:TLq) (dr:Nat->Array Oper->Option ACode):Option aJ :=
 match P.funcs[f]? with
 | some fn=>match fn.body with
  | some body=>match cCode P fz fn.ntmps loops dr body,fn.results.toList.mapM (cRes P) with
   | some code,some res=>some ⟨fn.ntmps,code,res⟩
   | _,_=>none
  | none=>none
 | none=>none
theorem qL:∀(ds:List D) (k i:Nat),(params ds k).get i=if k<=i/\i<k+ds.length then ds.getD (i-k) .undef else .undef
 | [],k,i=>by simp[params,LEnv.get]
 | d::r,k,i=>by
  simp only[params,LEnv.get,qL r (k+1) i,List.length_cons];grind
theorem Hh (vals:Array Value) (n i:Nat):(vals++Array.replicate n Go.undef).getD i Go.undef=vals.getD i Go.undef:=by
 by_cases h:i<vals.size
 ·exact C4 _ _ _ h
 ·rw[C3 _ _ _ (by omega)];simp[Array.getD,h]
def Ou (tmps:Array Value):ResultVar->Sem Value
 | .tmp t=>pure (tmps.getD t Go.undef)
 | .cell x t=>do loadVar t (<- asAddr (tmps.getD x Go.undef))
theorem Q7 {c:Ctx}{w:World}{nt:Nat}{e:LEnv}{a:Act}(hp:c.hp=w.heap) (hr:au c) (hs:oe c nt e.get a){r:ResultVar}{rv:RV}(hc:cRes P r=some rv){K:D->Prop}(hv:TM P rv e c.h K) :
  ∃v d,(Ou a.tmps r).run P w=.ok v w/\aA c d v/\K d:=by
 cases r with
 | tmp i =>
  simp[cRes]at hc;subst hc;exact⟨_,_,rfl,hs.rel i,hv⟩
 | cell i t =>
  simp only[cRes]at hc;split at hc
  ·rename_i n b ht;simp at hc;subst hc;have ty:=Ap ht
   let o:Oper:=⟨none,.load t (.tmp i),0, "", #[],none⟩
   have u:vcOp P (.ld (.t i) n b) (λ d _=>K d) e c.h:=hv;have rx:=hs.rel i;simp only[vcOp,Arg.get]at u
   have fin:∀(g G j:Nat) (cs:List D),a.tmps.getD i Go.undef=.pointer (some ⟨g,G+j,none⟩)->Mem c g G cs->vpart cs j n b K ->
     ∃v d,(Ou a.tmps (.cell i t)).run P w=.ok v w/\aA c d v/\K d:=by
    grind [xu,Ou,asAddr]
   generalize H:e.get i=I at u rx;cases I<;>try exact u.elim
   ·rename_i m k j;cases hn:c.h m<;>simp only[hn]at u<;>try exact u.elim
    ·grind [Nm]
    ·obtain⟨hi,u⟩:=u;rename_i esz els;have E:els[k]?=some els[k]:=by simp[hi]
     obtain⟨g,he,_,hm⟩:=mem_row hr (by rw[hn];rfl) E rx;grind
    ·obtain⟨hi,u⟩:=u;rename_i esz els;have E:els[k]?=some els[k]:=by simp[hi]
     obtain⟨g,he,_,hm⟩:=mem_row hr (by rw[hn];rfl) E rx;grind
   grind [UL]
  ·cases hc
theorem T7 {c:Ctx}{w:World}{nt:Nat}{e:LEnv}{a:Act}(hp:c.hp=w.heap) (hr:au c) (hs:oe c nt e.get a):∀(rs:List ResultVar) (rvs:List RV),rs.mapM (cRes P)=some rvs->∀{K:List D->Prop},vcRess P rvs e c.h K ->
  ∃(vs:List Value) (ds:List D),(rs.mapM (Ou a.tmps)).run P w=.ok vs w/\vs.length=ds.length/\ds.length=rs.length/\(∀(i:Nat) (d:D),ds[i]?=some d->aA c d (vs.getD i Go.undef))/\K ds:=by
 intro rs
 induction rs with
 | nil =>
  intro rvs hm K E;simp at hm;subst hm;exact⟨[],[],by simp,rfl,rfl,by simp,E⟩
 | cons r s O =>
  intro rvs hm K E;rw[List.mapM_cons]at hm
  cases h1:cRes P r with
  | none=>simp[h1]at hm
  | some rv =>
   cases h2:s.mapM (cRes P) with
   | none=>simp[h1,h2]at hm
   | some u =>
    simp[h1,h2]at hm;subst hm;simp only[vcRess]at E;obtain⟨v,d,V,U,Q⟩:=Q7 (P:=P) hp hr hs h1 E;obtain⟨vs,ds,T,I,G,S,H⟩:=O u h2 Q;refine⟨v::vs,d::ds,?_,by simp[I],by simp[G],λ i x hx=>?_,H⟩
    ·grind [Sem.run_bind,Result.andThen_ok,Sem.run_pure]
    grind
theorem Kk (fn:Func) (tmps:Array Value):results fn tmps=(do let vs <- fn.results.mapM (Ou tmps);pure (if h:vs.size=1 then vs[0] else .tuple vs)):=by
 unfold results;congr 1
theorem zK {c:Ctx}{w:World}{nt:Nat}{e:LEnv}{a:Act}(hp:c.hp=w.heap) (hr:au c) (hs:oe c nt e.get a){fn:Func}{rvs:List RV}(hm:fn.results.toList.mapM (cRes P)=some rvs){K:HKq}
  (hv:mu P rvs K e c.h):∃v d,(results fn a.tmps).run P w=.ok v w/\aA c d v/\K d c.h:=by
 have one:∀r rv,fn.results.toList=[r]->rvs=[rv]->∃v d,(results fn a.tmps).run P w=.ok v w/\aA c d v/\K d c.h:=by
  rintro r rv E rfl;rw[E]at hm
  have hc:cRes P r=some rv:=by
   rw[List.mapM_cons]at hm
   cases h1:cRes P r with
   | none=>simp[h1]at hm
   | some x=>simp[h1]at hm;rw[hm]
  obtain⟨v,d,g1,Z,W⟩:=Q7 (P:=P) (K:=λ d=>K d c.h) hp hr hs hc hv;have G:fn.results = #[r]:=by grind
  refine⟨v,d,?_,Z,W⟩;rw[Kk,G];simp[g1]
 have many:fn.results.toList.length≠1->vcRess P rvs e c.h (λ ds=>K (.tup ds) c.h)->∃v d,(results fn a.tmps).run P w=.ok v w/\aA c d v/\K d c.h:=by
  intro hne I;obtain⟨vs,ds,V,O,S,U,T⟩:=T7 (P:=P) hp hr hs _ _ hm I;refine⟨.tuple vs.toArray,.tup ds,?_,.tup _ _ (by simpa using O) (λ i d hd=>by rw[<- aO];exact U i d hd),T⟩;rw[Kk,Array.mapM_eq_mapM_toList];have H:vs.length≠1:=by rw[O,S];exact hne
  simp[V,H]
 cases E:fn.results.toList with
 | nil =>
  rw[E]at hm;simp at hm;subst hm;exact many (by simp[E]) hv
 | cons r s =>
  cases s with
  | nil =>
   have u:=hm;rw[E,List.mapM_cons]at u
   cases h1:cRes P r with
   | none=>simp[h1]at u
   | some x=>grind
  | cons r' s' =>
   have u:=hm;rw[E,List.mapM_cons]at u
   cases h1:cRes P r with
   | none=>simp[h1]at u
   | some x =>
    rw[List.mapM_cons]at u
    cases h2:cRes P r' with
    | none=>simp[h1,h2]at u
    | some x' =>
     cases h3:s'.mapM (cRes P) with
     | none=>simp[h1,h2,h3]at u
     | some Q=>simp[h1,h2,h3]at u;subst u;exact many (by simp[E]) hv
structure ni (c c':Ctx):Prop where
 ρ:c'.ρ=c.ρ
 h:c'.h=c.h
 X:∀g,c'.X g↔c.X g
 size:c'.hp.size=c.hp.size
 cells:∀(g:Nat) (cur:Array Value) (ty:TypeId) (fr:Nat×Nat),c.hp[g]?=some (Obj.cells cur ty fr)->c'.hp[g]?=some (Obj.cells cur ty fr)
 loops:∀(g:Nat) (r:Loop),c.hp[g]?=some (Obj.loop r)->c'.hp[g]?=some (Obj.loop r)
 maps:∀(g:Nat) (es:Array MapEntry) (k:Nat),c.hp[g]?=some (Obj.map es k)->c'.hp[g]?=some (Obj.map es k)
theorem ni.own {c c':Ctx}(s:ni c c') (g:Nat):c'.own g↔c.own g:=by
 unfold Ctx.own;rw[s.ρ,s.h,s.X g]
theorem ni.cell {c c':Ctx}(s:ni c c'){b o:Nat}{v:Value}(h:cellOf c.hp b o=some v):cellOf c'.hp b o=some v:=by
 unfold cellOf at h ⊢;split at h
 ·rename_i cur ty fr hb;rw[s.cells b cur ty fr hb];exact h
 ·cases h
theorem aA.aM {c c':Ctx}(s:ni c c'){d:D}{v:Value}(h:aA c d v):aA c' d v:=by
 have hown:∀{g},¬c.own g->¬c'.own g:=λ hn h=>hn ((s.own _).1 h)
 induction h with
 | undef v=>exact .undef v
 | nil=>exact .nil
 | nilfn=>exact .nilfn
 | nilmap=>exact .nilmap
 | nilp=>exact .nilp
 | int k n=>exact .int k n
 | bool b=>exact .bool b
 | str s=>exact .str s
 | yA p cap hm=>exact .yA p cap hm
 | sl xs b o cap esz f hne hc hm he hlen hone hcell ho _ E=>exact .sl xs b o cap esz f hne hc hm he hlen hone (λ i j d hd=>s.cell (hcell i j d hd)) (hown ho) E
 | msDead n off len p l k hd=>exact .msDead n off len p l k (by rw[s.h];exact hd)
 | msNil n esz els u hρ=>exact .msNil n esz els (by rw[s.h];exact u) (by rw[s.ρ];exact hρ)
 | ms n off len g esz cap els cur ty fr u hρ hl hg hs hc hm=>exact .ms n off len g esz cap els cur ty fr (by rw[s.h];exact u) (by rw[s.ρ];exact hρ) hl (s.cells _ _ _ _ hg) hs hc hm
 | msE n off esz p els u=>exact .msE n off esz p els (by rw[s.h];exact u)
 | ptrDead n i j b o hd=>exact .ptrDead n i j b o (by rw[s.h];exact hd)
 | ptrBox n j g v hb hρ=>exact .ptrBox n j g v (by rw[s.h];exact hb) (by rw[s.ρ];exact hρ)
 | ptrRow n i j g esz els u hρ hi=>exact .ptrRow n i j g esz els (by rw[s.h];exact u) (by rw[s.ρ];exact hρ) hi
 | vp e j b o f hone hcell ho hb _ E=>exact .vp e j b o f hone (λ k d hd=>s.cell (hcell k d hd)) (hown ho) (by rw[s.size];exact hb) E
 | agg cs vs hsz hone _ E=>exact .agg cs vs hsz hone E
 | tup ds vs hsz _ E=>exact .tup ds vs hsz E
 | fn f a b va vb hsa hsb _ _ H G=>exact .fn f a b va vb hsa hsb H G
 | yld n g st B hl hρ=>exact .yld n g st B (by rw[s.h];exact hl) (by rw[s.ρ];exact hρ)
 | yldDead n g hd=>exact .yldDead n g (by rw[s.h];exact hd)
 | mp n g kt l hl hρ=>exact .mp n g kt l (by rw[s.h];exact hl) (by rw[s.ρ];exact hρ)
 | mpDead n p hd=>exact .mpDead n p (by rw[s.h];exact hd)
theorem dg.aM {c c':Ctx}(s:ni c c'){n:Nat}{x:Slot}(h:dg c n x):dg c' n x:=by
 cases x with
 | free=>trivial
 | dead=>trivial
 | box v =>
  obtain⟨g,cur,ty,h1,h2,h3,h4⟩:=h;exact⟨g,cur,ty,by rw[s.ρ];exact h1,s.cells _ _ _ _ h2,h3,λ i d hd=>⟨(h4 i d hd).1,(h4 i d hd).2.aM s⟩⟩
 | arr e l =>
  obtain⟨h1,h2,h3,h4⟩:=h;refine⟨h1,h2,h3,?_⟩;rcases h4 with⟨E,u⟩|⟨g,cur,ty,E,u,H,G⟩
  ·exact Or.inl ⟨by rw[s.ρ];exact E,u⟩
  ·exact Or.inr ⟨g,cur,ty,by rw[s.ρ];exact E,s.cells _ _ _ _ u,H,λ i j d hd=>(G i j d hd).aM s⟩
 | frz e l =>
  obtain⟨h1,h2,h3,h4⟩:=h;refine⟨h1,h2,h3,?_⟩;rcases h4 with⟨E,u⟩|⟨g,cur,ty,fr,E,u,H,G,I⟩
  ·exact Or.inl ⟨by rw[s.ρ];exact E,u⟩
  ·exact Or.inr ⟨g,cur,ty,fr,by rw[s.ρ];exact E,s.cells _ _ _ _ u,H,λ h=>G ((s.own g).1 h),λ i j d hd=>(I i j d hd).aM s⟩
 | lp st B =>
  obtain⟨g,tmps,dfs,h1,h2,h3,h4⟩:=h;exact⟨g,tmps,dfs,by rw[s.ρ];exact h1,s.loops _ _ h2,h3,λ i=>(h4 i).aM s⟩
 | map kt l =>
  obtain⟨g,es,clock,h1,h2,h3,O,h4⟩:=h;refine⟨g,es,clock,by rw[s.ρ];exact h1,s.maps _ _ _ h2,h3,O,λ i p hp=>?_⟩;obtain⟨E,u,e,H,G,I⟩:=h4 i p hp;exact⟨E,u,e,H,G.aM s,I.aM s⟩
theorem au.aM {c c':Ctx}(s:ni c c') (hr:au c) (hg:fj c') (hl:c'.X.lo<=c'.hp.size):au c':=by
 refine⟨λ n=>?_,?_,?_,λ g u=>?_,?_,hg,hl⟩
 ·rw[s.h];exact(hr.slot n).aM s
 ·rw[s.h,s.ρ];exact hr.inj
 ·rw[s.h,s.ρ];intro n g hm hρ u;exact hr.apart n g hm hρ ((s.X g).1 u)
 ·rw[s.size];exact hr.xlt g ((s.X g).1 u)
 ·rw[s.h];exact hr.fin
theorem Ctx.le.Tx {c c':Ctx}(h:c.le c') (X X':XT) (hX:X'=X):(⟨c.ρ,X,c.h,c.hp⟩:Ctx).le ⟨c'.ρ,X',c'.h,c'.hp⟩ :=
 ⟨h.size,hX,h.aS,h.shape,h.loop,h.names,h.tr,h.born⟩
theorem Ow {c:Ctx}{ρ:Nat->Option Nat}{h:Heap}{w:World}(hglob:fj c) (hlo:c.X.lo=c.hp.size) (hle:c.le ⟨ρ,c.X,h,w.heap⟩) (hr:au ⟨ρ,c.X,h,w.heap⟩){d:Deferred}(hm:Mark ⟨ρ,c.X,h,w.heap⟩ d) :
  ∃k w',d.target=.collected k/\(Instr.takeDeferred k).run P w=.ok [] w'/\WS w w'/\c.le ⟨ρ,c.X,h,w'.heap⟩/\au ⟨ρ,c.X,h,w'.heap⟩/\ni ⟨ρ,c.X,h,w.heap⟩ ⟨ρ,c.X,h,w'.heap⟩ /\
   ∀d',d'≠d->Mark ⟨ρ,c.X,h,w.heap⟩ d'->Mark ⟨ρ,c.X,h,w'.heap⟩ d':=by
 obtain⟨k,rfl,U,E,T⟩:=hm;have Q:k<w.heap.size:=(Array.getElem?_eq_some_iff.1 E).1
 have S:c.hp.size<=k:=by
  grind
 have other:∀g,g≠k->(w.putObj k (.deferred none)).heap[g]?=w.heap[g]?:=λ g hg=>World.putObj_heap_other hg
 have same:ni ⟨ρ,c.X,h,w.heap⟩ ⟨ρ,c.X,h,(w.putObj k (.deferred none)).heap⟩:=by
  refine⟨rfl,rfl,λ _=>Iff.rfl,World.putObj_size,λ g cur ty fr hg=>?_,λ g r hg=>?_,λ g es q hg=>?_⟩
  ·grind
  ·grind
  grind
 have u:c.le ⟨ρ,c.X,h,(w.putObj k (.deferred none)).heap⟩:=by
  refine⟨by grind [World.putObj_size],rfl,λ g hg hn=>?_,λ g cur ty fr hg=>?_,λ g r hg=>?_,hle.names,hle.tr,hle.born⟩
  ·exact(other g (by omega)).trans (hle.aS g hg hn)
  ·obtain⟨cur',h1,h2⟩:=hle.shape g cur ty fr hg;grind
  ·obtain⟨r',h1,h2⟩:=hle.loop g r hg;grind
 have G:fj ⟨ρ,c.X,h,(w.putObj k (.deferred none)).heap⟩:=hglob.mono u;refine⟨k,w.putObj k (.deferred none),rfl,run_takeDeferred E,⟨rfl,rfl,rfl⟩,u,hr.aM same G (by grind [World.putObj_size]),same,?_⟩;rintro d' hne ⟨k',rfl,O,I,H⟩
 have hne:k'≠k:=by
  rintro rfl;exact hne rfl
 exact⟨k',rfl,O,(other k' hne).trans I,λ ho=>H ((same.own k').1 ho)⟩
theorem oe.pop {c:Ctx}{ρ:Nat->Option Nat}{h:Heap}{w w':World}{nt:Nat}{e:LEnv}{tmps:Array Value}{d:Deferred}{ds:List Deferred}(hs:oe ⟨ρ,c.X,h,w.heap⟩ nt e.get { tmps:=tmps,defers:=d::ds }) (hd:uc d=true) (hr:au ⟨ρ,c.X,h,w'.heap⟩)
  (same:ni ⟨ρ,c.X,h,w.heap⟩ ⟨ρ,c.X,h,w'.heap⟩) (hmk:∀d',d'≠d->Mark ⟨ρ,c.X,h,w.heap⟩ d'->Mark ⟨ρ,c.X,h,w'.heap⟩ d'):oe ⟨ρ,c.X,h,w'.heap⟩ nt e.get { tmps:=tmps,defers:=ds }:=by
 obtain⟨⟨G,E⟩,u⟩:=hs.defers;simp only at G E u;rw[List.filter_cons_of_pos hd]at G E;rw[List.filter_cons_of_neg (by simp[hd])]at u;rw[List.pairwise_cons]at E;exact⟨hr.glob,hr.lo,⟨⟨λ d' H=>hmk d' (λ e=>E.1 d' H e.symm) (G d' (by grind)),E.2⟩,u⟩,hs.size,λ i=>(hs.rel i).aM same⟩
theorem om {fn:Func}{R:Ending->World->Prop}{c:Ctx}{nt:Nat}{e:LEnv}(hglob:fj c) (hdf:c.X.dfs=[]){u:FrameMode}(hu:u≠.run):∀(ds:List Deferred) (ρ:Nat->Option Nat) (h:Heap) (w:World) (tmps:Array Value),c.X.lo=c.hp.size->c.le ⟨ρ,c.X,h,w.heap⟩ ->
  au ⟨ρ,c.X,h,w.heap⟩->oe ⟨ρ,c.X,h,w.heap⟩ nt e.get { tmps:=tmps,defers:=ds } ->
  (∀w',c.le ⟨ρ,c.X,h,w'.heap⟩->au ⟨ρ,c.X,h,w'.heap⟩->WS w w'->oe ⟨ρ,c.X,h,w'.heap⟩ nt e.get { tmps:=tmps,defers:=[] }->LeavesIn Fence.wide 0 P fn tmps R [] u w') ->
  LeavesInM Fence.wide 0 P fn tmps R ds u w:=by
 intro ds
 induction ds with
 | nil =>
  intro ρ h w tmps E hle hr hs hk;exact hk w hle hr (WS.refl w) hs
 | cons d ds Z =>
  intro ρ h w tmps E hle hr hs hk
  have G:uc d=true:=by
   cases hc:uc d with
   | true=>rfl
   | false =>
    have:=hs.defers.rest;grind
  have hm:Mark ⟨ρ,c.X,h,w.heap⟩ d:=hs.defers.marks.all d (by grind);obtain⟨k,V,H,I,T,Q,O,same,U⟩:=Ow (P:=P) hglob E hle hr hm;refine⟨hu,Or.inl ⟨k,V,H,I,?_⟩⟩;exact Z ρ h _ tmps E Q O (oe.pop hs G O same U) (λ w' l1 W S s1=>hk w' l1 W (T.trans S) s1)
theorem Pv {fz:Bool}{f:FuncId}{loops:TLq}{dr:Nat->Array Oper->Option ACode}{F:aJ}(hc:cFn P fz f loops dr=some F) (hdr:CX P F.nt dr)
  {ds:List D}{K:HKq}{h:Heap}(hv:vcFn P F ds K h):ag P f ds h K:=by
 unfold cFn at hc
 cases hf:P.funcs[f]? with
 | none=>simp[hf]at hc
 | some fn =>
  cases hb:fn.body with
  | none=>simp[hf,hb]at hc
  | some body =>
   simp only[hf,hb]at hc;split at hc
   ·rename_i code res S W;simp at hc;subst hc;obtain⟨hlen,hv⟩:=hv;intro c0 w vals hh hp H hs O;subst hh;obtain⟨c,u⟩:∃c:Ctx,c=⟨c0.ρ,⟨c0.X.p,c0.hp.size,[]⟩,c0.h,c0.hp⟩:=⟨_,rfl⟩;have G:ni c0 c:=by subst u;exact⟨rfl,rfl,λ _=>Iff.rfl,rfl,λ _ _ _ _ h=>h,λ _ _ h=>h,λ _ _ _ h=>h⟩
    have a1:c.X.lo=c.hp.size:=by subst u;rfl
    have Q:fj c:=λ g o hg=>⟨by subst u;exact(H.glob g o hg).1,λ ho=>(H.glob g o hg).2 ((G.own g).1 ho),by subst u;exact(H.glob g o hg).3⟩
    have hr:au c:=H.aM G Q (by rw[a1];exact Nat.le_refl _);have a6:c.hp=w.heap:=by subst u;exact hp
    refine(callsIn_wide (n:=0)).1 (callsIn_of_wp_marks hf hb trivial ?_)
    let a:Act:={ tmps:=vals++Array.replicate (fn.ntmps-vals.size) Go.undef,defers:=[] }
    have V:oe c fn.ntmps (params ds 0).get a:=by
     refine⟨Q,hr.lo,fV.nil (by subst u;rfl),by grind,λ i=>?_⟩;simp only[a];rw[Hh,qL];split
     ·rename_i hi;rw[Nat.sub_zero];have a2:i<ds.length:=by omega
      have:ds.getD i .undef=ds[i]:=by simp[List.getD,a2]
      rw[this];exact(O i _ (by simp[a2])).aM G
     ·exact .undef _
    have a7:c.h=c0.h:=by subst u;rfl
    have a8:∀g,c.X g↔c0.X g:=G.X;have:=sF hdr body code S _ _ _ hv none c w a a7 a6 hr V lu.none;refine wpIn_mono (show body.wpIn Fence.wide 0 P _ a w from this) ?_;intro e T w' E
    have done:∀x,(∀id,x≠Ex.exit id)->Fin c w fn.ntmps (up (λ e h'=>mu P res K e h')) T w'->LeavesInM Fence.wide 0 P fn T.tmps (λ e w'=>∃(v:Value) (r:D) (ρ:Nat->Option Nat) (h':Heap),e=.returned v/\c0.le ⟨ρ,c0.X,h',w'.heap⟩ /\
      au ⟨ρ,c0.X,h',w'.heap⟩/\WS w w'/\aA ⟨ρ,c0.X,h',w'.heap⟩ r v/\K r h') T.defers .returning w':=by
     rintro x _ ⟨ρ,t,h',r1,r2,r3,r4,e',rfl,hk⟩;refine om (c:=c) Q (by subst u;rfl) (by simp) T.defers ρ h' w' T.tmps a1 r1 r2 r4 (λ w2 l2 Z a5 s2=>?_);obtain⟨v,d,g1,g2,g3⟩:=zK (P:=P) (c:=⟨ρ,c.X,h',w2.heap⟩) (a:={ tmps:=T.tmps,defers:=[] }) rfl Z s2 W hk;have U:ni ⟨ρ,c.X,h',w2.heap⟩ ⟨ρ,c0.X,h',w2.heap⟩:=⟨rfl,rfl,λ g=>(a8 g).symm,rfl,λ _ _ _ _ h=>h,λ _ _ h=>h,λ _ _ _ h=>h⟩
     have I:c0.le ⟨ρ,c0.X,h',w2.heap⟩:=by
      have:=l2.Tx c0.X c0.X rfl;subst u;exact this
     refine⟨v,g1,v,d,ρ,h',rfl,I,Z.aM U (H.glob.mono I) (Nat.le_trans H.lo I.size),r3.trans a5,g2.aM U,g3⟩
    cases e with
    | normal=>exact done .normal (by simp) E
    | ret=>exact done .ret (by simp) E
    | exit id =>
     obtain⟨ρ,t,h',r1,r2,r3,r4,e',rfl,hk⟩:=E;exact hk.elim
    | goto l =>
     obtain⟨ρ,t,h',r1,r2,r3,r4,e',rfl,hk⟩:=E;exact hk.elim
    | panic ch =>
     obtain⟨_,ρ,t,h',r1,r2,r3,r4,e',rfl,hk⟩:=E;exact hk.elim
    | outgrown=>exact E.elim
   ·cases hc
end Go.Am
namespace Go.Am
open Go
variable [ck]
variable {P:Program}
def vcFnX (P:Program) (F:aJ) (ds:List D) (K:HKq) (KP:Heap->Prop) (h:Heap):Prop :=
 ds.length<=F.nt/\vcC P F.code (λ x e h'=>match x with
  | .exit _=>False
  | .pan=>KP h'
  | .jump _=>False
  | _=>mu P F.res K e h') (params ds 0) h
theorem SH {fn:Func}{tmps:Array Value}{R:Ending->World->Prop}{ch:List PanicEntry}{w:World}(h:R (.panicked ch) w):LeavesIn Fence.wide 0 P fn tmps R [] (.panicking ch) w:=h
theorem Tj {fz:Bool}{f:FuncId}{loops:TLq}{dr:Nat->Array Oper->Option ACode}{F:aJ}(hc:cFn P fz f loops dr=some F) (hdr:CX P F.nt dr)
  {ds:List D}{K:HKq}{KP:Heap->Prop}{h:Heap}(hv:vcFnX P F ds K KP h):nP P f ds h K KP:=by
 unfold cFn at hc
 cases hf:P.funcs[f]? with
 | none=>simp[hf]at hc
 | some fn =>
  cases hb:fn.body with
  | none=>simp[hf,hb]at hc
  | some body =>
   simp only[hf,hb]at hc;split at hc
   ·rename_i code res a5 a7;simp at hc;subst hc;obtain⟨hlen,hv⟩:=hv;intro c0 w vals hh hp I hs Z;subst hh;obtain⟨c,u⟩:∃c:Ctx,c=⟨c0.ρ,⟨c0.X.p,c0.hp.size,[]⟩,c0.h,c0.hp⟩:=⟨_,rfl⟩;have H:ni c0 c:=by subst u;exact⟨rfl,rfl,λ _=>Iff.rfl,rfl,λ _ _ _ _ h=>h,λ _ _ h=>h,λ _ _ _ h=>h⟩
    have a1:c.X.lo=c.hp.size:=by subst u;rfl
    have a2:c.X.dfs=[]:=by subst u;rfl
    have T:fj c:=λ g o hg=>⟨by subst u;exact(I.glob g o hg).1,λ ho=>(I.glob g o hg).2 ((H.own g).1 ho),by subst u;exact(I.glob g o hg).3⟩
    have hr:au c:=I.aM H T (by rw[a1];exact Nat.le_refl _);have c1:c.hp=w.heap:=by subst u;exact hp
    refine(callsIn_wide (n:=0)).1 (callsIn_of_wp_marks hf hb trivial ?_)
    let a:Act:={ tmps:=vals++Array.replicate (fn.ntmps-vals.size) Go.undef,defers:=[] }
    have a6:oe c fn.ntmps (params ds 0).get a:=by
     refine⟨T,hr.lo,fV.nil a2,by grind,λ i=>?_⟩;simp only[a];rw[Hh,qL];split
     ·rename_i hi;rw[Nat.sub_zero];have a8:i<ds.length:=by omega
      have:ds.getD i .undef=ds[i]:=by simp[List.getD,a8]
      rw[this];exact(Z i _ (by simp[a8])).aM H
     ·exact .undef _
    have c2:c.h=c0.h:=by subst u;rfl
    have c3:∀g,c.X g↔c0.X g:=H.X;have:=sF hdr body code a5 _ _ _ hv none c w a c2 c1 hr a6 lu.none;refine wpIn_mono (show body.wpIn Fence.wide 0 P _ a w from this) ?_;intro e U w' G;have W:∀(ρ:Nat->Option Nat) (h':Heap) (O:World),ni ⟨ρ,c.X,h',O.heap⟩ ⟨ρ,c0.X,h',O.heap⟩:=λ ρ h' O=>⟨rfl,rfl,λ g=>(c3 g).symm,rfl,λ _ _ _ _ h=>h,λ _ _ h=>h,λ _ _ _ h=>h⟩
    have E:∀(ρ:Nat->Option Nat) (h':Heap) (O:World),c.le ⟨ρ,c.X,h',O.heap⟩->c0.le ⟨ρ,c0.X,h',O.heap⟩:=by
     intro ρ h' O Q;have:=Q.Tx c0.X c0.X rfl;subst u;exact this
    have done:∀x,(∀id,x≠Ex.exit id)->Fin c w fn.ntmps (up (λ e h'=>mu P res K e h')) U w'->LeavesInM Fence.wide 0 P fn U.tmps (λ e w'=>∃(ρ:Nat->Option Nat) (h':Heap),c0.le ⟨ρ,c0.X,h',w'.heap⟩ /\
      au ⟨ρ,c0.X,h',w'.heap⟩/\WS w w'/\((∃(v:Value) (r:D),e=.returned v/\aA ⟨ρ,c0.X,h',w'.heap⟩ r v/\K r h')\/(e=.panicked [{ v:=ck.panv,recovered:=false }]/\KP h'))) U.defers .returning w':=by
     rintro x _ ⟨ρ,t,h',r1,r2,r3,r4,e',rfl,hk⟩;refine om (c:=c) T a2 (by simp) U.defers ρ h' w' U.tmps a1 r1 r2 r4 (λ O Q S V s2=>?_);obtain⟨v,d,g1,g2,g3⟩:=zK (P:=P) (c:=⟨ρ,c.X,h',O.heap⟩) (a:={ tmps:=U.tmps,defers:=[] }) rfl S s2 a7 hk;exact⟨v,g1,ρ,h',E _ _ _ Q,S.aM (W _ _ _) (I.glob.mono (E _ _ _ Q)) (Nat.le_trans I.lo (E _ _ _ Q).size),r3.trans V,Or.inl ⟨v,d,rfl,g2.aM (W _ _ _),g3⟩⟩
    cases e with
    | normal=>exact done .normal (by simp) G
    | ret=>exact done .ret (by simp) G
    | exit id =>
     obtain⟨ρ,t,h',r1,r2,r3,r4,e',rfl,hk⟩:=G;exact hk.elim
    | goto l =>
     obtain⟨ρ,t,h',r1,r2,r3,r4,e',rfl,hk⟩:=G;exact hk.elim
    | panic ch =>
     obtain⟨rfl,ρ,t,h',r1,r2,r3,r4,e',rfl,hk⟩:=G;show LeavesInM _ _ _ _ _ _ U.defers _ _
     refine om (c:=c) T a2 (by simp) U.defers ρ h' w' U.tmps a1 r1 r2 r4 (λ O Q S V s2=>?_);exact SH ⟨ρ,h',E _ _ _ Q,S.aM (W _ _ _) (I.glob.mono (E _ _ _ Q)) (Nat.le_trans I.lo (E _ _ _ Q).size),r3.trans V,Or.inr ⟨rfl,hk⟩⟩
    | outgrown=>exact G.elim
   ·cases hc
def Wv (P:Program) (g:FuncId) (ds:List D) (h:Heap) (K:Heap->Prop):Prop :=
 ∀(c:Ctx) (w:World) (vals:Array Value),c.h=h->c.hp=w.heap->au c->vals.size=ds.length->(∀(i:Nat) (d:D),ds[i]?=some d->aA c d (vals.getD i Go.undef)) ->
  CallsDIn Fence.wide 0 P g vals (.panicking [{ v:=ck.panv,recovered:=false }]) w λ e u w'=>∃(v:Value) (ρ:Nat->Option Nat) (h':Heap),e=.returned v/\u=.panicking [{ v:=ck.panv,recovered:=true }] /\
   c.le ⟨ρ,c.X,h',w'.heap⟩/\au ⟨ρ,c.X,h',w'.heap⟩/\WS w w'/\K h'
def Idle (P:Program) (g:FuncId) (n:Nat):Prop :=
 ∀(w:World) (vals:Array Value),vals.size=n->CallsDIn Fence.wide 0 P g vals .returning w λ e u w'=>∃v,e=.returned v/\u=.returning/\w'=w
def cDefer (P:Program) (nt:Nat):Code->Option (FuncId×List Arg×List Arg×Nat)
 | .region _ ops false=>match ops.toList with
  | [o1,o2]=>match o1.op,o2.op,o1.dst,o2.dst with
   | .makeFunc (.func g) xs ys,.defer { callee:=.value (.tmp t'),args:=args,argTypes:=_ },some t,none=>match xs.toList.mapM cArg,ys.toList.mapM cArg with
    | some xs,some ys=>if t'=t/\args = #[]/\t<nt/\o1.guard=none/\o2.guard=none/\de P g=true then some (g,xs,ys,t) else none
    | _,_=>none
   | _,_,_,_=>none
  | _=>none
 | _=>none
structure MW where
 nt:Nat
 pre:List ACode
 g:FuncId
 xs:List Arg
 ys:List Arg
 t:Nat
 rest:ACode
 res:List RV
def cSpine (P:Program) (fz:Bool) (nt:Nat) (loops:TLq) (dr:Nat->Array Oper->Option ACode):Code->Option (List ACode×(FuncId×List Arg×List Arg×Nat)×ACode)
 | .seq a b=>match cDefer P nt a with
  | some d=>(cCode P fz nt loops dr b).map λ r=>([],d,r)
  | none=>match cCode P fz nt loops dr a,cSpine P fz nt loops dr b with
   | some a',some (l,d,r)=>some (a'::l,d,r)
   | _,_=>none
 | _=>none
def cFnD (P:Program) (fz:Bool) (f:FuncId) (loops:TLq) (dr:Nat->Array Oper->Option ACode):Option MW :=
 match P.funcs[f]? with
 | some fn=>match fn.body with
  | some body=>match cSpine P fz fn.ntmps loops dr body,fn.results.toList.mapM (cRes P) with
   | some (pre,(g,xs,ys,t),rest),some res=>some ⟨fn.ntmps,pre,g,xs,ys,t,rest,res⟩
   | _,_=>none
  | none=>none
 | none=>none
def vcSpine (P:Program):List ACode->LPost->(LEnv->Heap->Prop)->LEnv->Heap->Prop
 | [],_,KD,e,h=>KD e h
 | a::l,Q,KD,e,h=>vcC P a (LPost.then (vcSpine P l Q KD) Q) e h
def FinD (c:Ctx) (w:World) (nt:Nat) (Q:LPost) (d:FuncId×List Arg×List Arg×Nat) (Qd:List D->LPost) (x:Exit) (a':Act) (w':World):Prop :=
 (x≠.normal/\FinX c w nt (λ x=>up (Q x)) x a' w') \/
 ∃(ρ1:Nat->Option Nat) (h1:Heap) (w1:World) (ds:List D) (va vb:Array Value),c.le ⟨ρ1,c.X,h1,w1.heap⟩/\WS w w1/\(va++vb).size=ds.length /\
  (∀(i:Nat) (d:D),ds[i]?=some d->aA ⟨ρ1,c.X,h1,w1.heap⟩ d ((va++vb).getD i Go.undef))/\ds.length=(d.2.1++d.2.2.1).length /\
  FinX ⟨ρ1,⟨c.X.p,c.X.lo,{ target:=.fn (.func d.1) vb,args:=va }::c.X.dfs⟩,h1,w1.heap⟩ w1 nt (λ x=>up (Qd ds x)) x a' w'
theorem FinD.from {c c1:Ctx}{w w1:World}{nt:Nat}{Q:LPost}{d:FuncId×List Arg×List Arg×Nat}{Qd:List D->LPost}{x:Exit}{a':Act}{w':World}(hle:c.le c1) (hw:WS w w1) (h:FinD c1 w1 nt Q d Qd x a' w'):FinD c w nt Q d Qd x a' w':=by
 rcases h with⟨h0,h⟩|⟨H,h1,I,ds,va,vb,G,T,S,E,O,u⟩
 ·exact Or.inl ⟨h0,FinX.from hle hw _ _ _ h⟩
 ·have U:=hle.X;rw[U]at G E u;exact Or.inr ⟨H,h1,I,ds,va,vb,hle.trans G,hw.trans T,S,E,O,u⟩
theorem H9 {nt:Nat}{a:Code}{g:FuncId}{xs' ys':List Arg}{t:Nat}(h:cDefer P nt a=some (g,xs',ys',t)):∃(id:Nat) (o1 o2:Oper) (xs ys:Array Operand) (ats:Array TypeId),a=.region id #[o1,o2] false /\
  o1.op=.makeFunc (.func g) xs ys/\o2.op=.defer { callee:=.value (.tmp t),args:= #[],argTypes:=ats }/\o1.dst=some t/\o2.dst=none/\xs.toList.mapM cArg=some xs'/\ys.toList.mapM cArg=some ys'/\t<nt/\o1.guard=none/\o2.guard=none/\de P g=true:=by
 unfold cDefer at h;grind [GB]
theorem On (c:Ctx) (ds:List Deferred):ni c ⟨c.ρ,⟨c.X.p,c.X.lo,ds⟩,c.h,c.hp⟩:=⟨rfl,rfl,λ _=>Iff.rfl,rfl,λ _ _ _ _ h=>h,λ _ _ h=>h,λ _ _ _ h=>h⟩
theorem ON {c:Ctx}(h:fj c) (ds:List Deferred):fj ⟨c.ρ,⟨c.X.p,c.X.lo,ds⟩,c.h,c.hp⟩:=λ g o hg=>⟨(h g o hg).1,λ ho=>(h g o hg).2 (((On c ds).own g).1 ho),(h g o hg).3⟩
theorem Ol {fz:Bool}{nt:Nat}{loops:TLq}{dr:Nat->Array Oper->Option ACode}(hdr:CX P nt dr){d:FuncId×List Arg×List Arg×Nat}{rest:ACode}{Q:LPost}{Qd:List D->LPost} :
  ∀(code:Code) (l:List ACode),cSpine P fz nt loops dr code=some (l,d,rest)->∀(e:LEnv) (h:Heap),
   vcSpine P l Q (λ e h=>vcC P rest (Qd ((d.2.1++d.2.2.1).map (·.get e))) ((d.2.2.2,.undef)::e) h) e h ->
   ∀(c:Ctx) (w:World) (a:Act),c.h=h->c.hp=w.heap->au c->oe c nt e.get a->code.wpIn (rF none) 0 P (FinD c w nt Q d Qd) a w:=by
 intro code
 induction code with
 | seq a b c6 Z =>
  intro l hc e h U c w ac hh hp hr hs;simp only[cSpine]at hc;split at hc
  ·rename_i dd c1;simp at hc;obtain⟨r,a8,rfl,rfl,rfl⟩:=hc;obtain⟨g,W,V,t⟩:=dd;obtain⟨id,H,G,xs,ys,c7,rfl,h1,h2,h3,h4,hx,hy,ht,g1,g2,c5⟩:=H9 c1;simp only[vcSpine]at U;refine wpIn_seq (wpIn_region ?_);obtain⟨a1,a2⟩:=lJ hx hs;obtain⟨b1,b2⟩:=lJ hy hs
   have e1:(execOp ac.eval H).run P w=.ok (.value (.func (.func g) (xs.map ac.eval) (ys.map ac.eval))) w:=by
    simp only[execOp,h1,Instr.makeFunc];rfl
   have sz:=hs.size
   have e2:(execOp (ac.put (some t) (.func (.func g) (xs.map ac.eval) (ys.map ac.eval))).eval G).run P w=.ok (.defer { target:=.fn (.func g) (ys.map ac.eval),args:=xs.map ac.eval }) w:=by
    have:(ac.put (some t) (.func (.func g) (xs.map ac.eval) (ys.map ac.eval))).eval (.tmp t)=.func (.func g) (xs.map ac.eval) (ys.map ac.eval):=by simp[Act.eval,Act.put,sz,ht]
    simp[execOp,h2,resolve,this,Deferred.ofValue,Result.andThen]
   have rg:List.range (#[H,G]:Array Oper).size=[0,1]:=rfl;rw[rg];have i0:(#[H,G]:Array Oper)[0]?=some H:=rfl;have i1:(#[H,G]:Array Oper)[1]?=some G:=rfl;simp only[wpOpsIn,i0,i1];rw[if_pos (by simp[Region.wanted,g1])];refine kx (λ c hc=>by rw[h1]at hc;cases hc) e1 ?_;rw[Oper.uponIn_value,h3,if_pos (by simp[Region.wanted,g2])];refine⟨λ _ _=>trivial,?_⟩;rw[show(rF none).round=none from rfl,Oper.semAt_none,e2,Oper.uponIn_defer,h4]
   let E:Deferred:={ target:=.fn (.func g) (ys.map ac.eval),args:=xs.map ac.eval }
   let c':Ctx:=⟨c.ρ,⟨c.X.p,c.X.lo,E::c.X.dfs⟩,c.h,c.hp⟩
   have I:ni c c':=On c _;have O:fj c':=ON hr.glob _;have a7:au c':=hr.aM I O hr.lo
   let u:Act:={ (ac.put (some t) (.func (.func g) (xs.map ac.eval) (ys.map ac.eval))) with defers:=E::(ac.put (some t) (.func (.func g) (xs.map ac.eval) (ys.map ac.eval))).defers }
   have a6:oe c' nt (LEnv.get ((t,D.undef)::e)) u:=by
    have c4:∀(v:Value),(ac.put (some t) v).defers=ac.defers:=λ v=>rfl
    have T:uc E=false:=rfl;refine⟨O,hr.lo,⟨?_,?_⟩,by simp[u,Act.put,sz],λ i=>?_⟩
    ·show Marks c' ((E::ac.defers).filter uc)
     rw[List.filter_cons_of_neg (by rw[T];simp)];exact⟨λ d hd=>hs.defers.marks.all d hd,hs.defers.marks.nd⟩
    ·show(E::ac.defers).filter _=E::c.X.dfs
     rw[List.filter_cons_of_pos (by simp[T]),hs.defers.rest]
    simp only[LEnv.get];by_cases hi:i=t
    ·rw[if_pos hi];exact .undef _
    ·rw[if_neg hi];have a5:t≠i:=λ e=>hi e.symm
     have:u.tmps.getD i Go.undef=ac.tmps.getD i Go.undef:=by simp[u,Act.put,a5]
     rw[this];exact(hs.rel i).aM I
   have:=sF hdr b r a8 _ _ _ U none c' w u hh hp a7 a6 lu.none;refine wpIn_mono this ?_;intro x a' w' hf;have S:(⟨c.ρ,c.X,c.h,w.heap⟩:Ctx)=c:=by rw[<- hp]
   refine Or.inr ⟨c.ρ,c.h,w,(W++V).map (·.get e),xs.map ac.eval,ys.map ac.eval,by rw[S];exact Ctx.le.refl c,WS.refl w,?_,?_,?_,?_⟩
   ·grind
   ·rw[S,List.map_append];exact DT a1 a2 b2
   ·simp
   grind
  ·split at hc
   ·rename_i a' l' d' r' c3 c2;simp at hc;obtain⟨rfl,rfl,rfl⟩:=hc;simp only[vcSpine]at U;refine wpIn_seq (wpIn_mono (sF hdr a a' c3 _ _ _ U none c w ac hh hp hr hs lu.none) ?_);intro x a1 w1 hx
    cases x with
    | normal =>
     obtain⟨ρ,t',h',r1,r2,r3,r4,e',rfl,r5⟩:=hx;exact wpIn_mono (Z l' c2 e' h' r5 ⟨ρ,c.X,h',w1.heap⟩ w1 a1 rfl rfl r2 r4) (λ e a w hf=>FinD.from r1 r3 hf)
    | exit id=>exact Or.inl ⟨by simp,Fin.mono (λ t h hk=>hk) hx⟩
    | ret=>exact Or.inl ⟨by simp,Fin.mono (λ t h hk=>hk) hx⟩
    | panic ch=>exact Or.inl ⟨by simp,hx.1,Fin.mono (λ t h hk=>hk) hx.2⟩
    | goto l=>exact Or.inl ⟨by simp,Fin.mono (λ t h hk=>hk) hx⟩
    | outgrown=>exact hx.elim
   ·cases hc
 | _=>grind [cSpine]
def vcFnD0 (P:Program) (F:MW) (K:HKq) (e:LEnv) (h:Heap):Prop :=
 vcSpine P F.pre (λ x e h'=>match x with
  | .ret=>mu P F.res K e h'
  | _=>False) (λ e h=>vcC P F.rest (λ x e' h'=>match x with
   | .exit _=>False
   | .pan=>Wv P F.g ((F.xs++F.ys).map (·.get e)) h' (λ h''=>mu P F.res K e' h'')
   | .jump _=>False
   | _=>mu P F.res K e' h') ((F.t,.undef)::e) h) e h
def aby (P:Program) (F:MW) (ds:List D) (K:HKq) (h:Heap):Prop:=ds.length<=F.nt/\vcFnD0 P F K (params ds 0) h
theorem ni.trans {a b c:Ctx}(h:ni a b) (k:ni b c):ni a c :=
 ⟨k.ρ.trans h.ρ,k.h.trans h.h,λ g=>(k.X g).trans (h.X g),k.size.trans h.size,λ g cur ty fr x=>k.cells _ _ _ _ (h.cells _ _ _ _ x),λ g r x=>k.loops _ _ (h.loops _ _ x),λ g es n x=>k.maps _ _ _ (h.maps _ _ _ x)⟩
theorem Rm {fn:Func}{R:Ending->World->Prop}{c:Ctx}{nt:Nat}{e:LEnv}(hglob:fj c) (hdf:c.X.dfs=[]) (hlo:c.X.lo=c.hp.size){g:FuncId}{va vb:Array Value}(hcal:de P g=true){u:FrameMode}(hu:u≠.run){tmps:Array Value}{KF:Heap->Prop}
  {X':XT}(hX':X'=⟨c.X.p,c.X.lo,[{ target:=.fn (.func g) vb,args:=va }]⟩) {ρ:Nat->Option Nat}{h:Heap} :
  ∀(ds:List Deferred) (w:World),Ctx.le ⟨c.ρ,X',c.h,c.hp⟩ ⟨ρ,X',h,w.heap⟩->au ⟨ρ,X',h,w.heap⟩->oe ⟨ρ,X',h,w.heap⟩ nt e.get { tmps:=tmps,defers:=ds } ->
   (∀(w1:World),ni ⟨ρ,X',h,w.heap⟩ ⟨ρ,c.X,h,w1.heap⟩->au ⟨ρ,c.X,h,w1.heap⟩ ->
    CallsDIn Fence.wide 0 P g (va++vb) u w1 λ e u' w2=>∃(v:Value) (ρ':Nat->Option Nat) (h':Heap),e=.returned v/\settle u'=.returning/\Ctx.le ⟨ρ,c.X,h,w1.heap⟩ ⟨ρ',c.X,h',w2.heap⟩/\au ⟨ρ',c.X,h',w2.heap⟩/\WS w1 w2/\KF h') ->
   (∀(w':World) (ρ':Nat->Option Nat) (h':Heap),KF h'->c.le ⟨ρ',c.X,h',w'.heap⟩->au ⟨ρ',c.X,h',w'.heap⟩->WS w w'->oe ⟨ρ',c.X,h',w'.heap⟩ nt e.get { tmps:=tmps,defers:=[] }->LeavesIn Fence.wide 0 P fn tmps R [] .returning w') ->
   LeavesInM Fence.wide 0 P fn tmps R ds u w:=by
 intro ds
 induction ds with
 | nil =>
  intro w hle hr hs G hk;have:=hs.defers.rest;grind
 | cons d ds ih =>
  intro w hle hr hs G hk;have Z:∀w1:World,ni ⟨ρ,X',h,w1.heap⟩ ⟨ρ,c.X,h,w1.heap⟩:=λ w1=>⟨rfl,rfl,λ g=>by rw[hX'],rfl,λ _ _ _ _ h=>h,λ _ _ h=>h,λ _ _ _ h=>h⟩
  cases I:uc d with
  | true =>
   have hm:Mark ⟨ρ,X',h,w.heap⟩ d:=hs.defers.marks.all d (by grind);have c3:fj ⟨c.ρ,X',c.h,c.hp⟩:=by grind [ON]
   obtain⟨k,w1,Q,T,a2,W,U,same,c1⟩:=Ow (P:=P) (c:=⟨c.ρ,X',c.h,c.hp⟩) c3 (by rw[hX'];exact hlo) hle hr hm;refine⟨hu,Or.inl ⟨k,w1,Q,T,?_⟩⟩;exact ih w1 W U (oe.pop (c:=⟨c.ρ,X',c.h,c.hp⟩) hs I U same c1) (λ w2 a5 H=>G w2 (same.trans a5) H) (λ w' ρ' h' kf l1 r1 O s1=>hk w' ρ' h' kf l1 r1 (a2.trans O) s1)
  | false =>
   have E:=hs.defers.rest;simp only at E;rw[List.filter_cons_of_pos (by simp[I]),hX']at E;injection E with hd c4
   subst hd;have c2:fj ⟨ρ,c.X,h,w.heap⟩:=hglob.mono (by have:=hle.Tx c.X c.X rfl;exact this);have a8:au ⟨ρ,c.X,h,w.heap⟩:=hr.aM (Z w) c2 (by have:=hle.size;grind);refine⟨hu,Or.inr ⟨λ h=>by(cases h),.func g,vb,g,va++vb,rfl,?_,λ _ _=>trivial,?_⟩⟩
   ·simp[invoke,ku hcal]
   ·refine(G w (Z w) a8).mono ?_;rintro e' u' w2 ⟨v,ρ',h',rfl,S,l2,H,O,kf⟩;have V:c.le ⟨ρ,c.X,h,w.heap⟩:=by have:=hle.Tx c.X c.X rfl;exact this
    have a6:oe ⟨ρ',c.X,h',w2.heap⟩ nt e.get { tmps:=tmps,defers:=ds }:=by
     refine⟨H.glob,H.lo,⟨Marks.mono l2 ⟨λ d hd=>?_,?_⟩,by rw[c4,hdf]⟩,hs.size,λ i=>((hs.rel i).aM (Z w)).mono l2⟩
     ·have:=hs.defers.marks.all d (by grind);obtain⟨k,e1,e2,e3,e4⟩:=this;exact⟨k,e1,by rw[hX']at e2;exact e2,e3,λ ho=>e4 (((Z w).own k).1 ho)⟩
     ·have:=hs.defers.marks.nd;grind
    show LeavesInM _ _ _ _ _ _ ds (settle u') w2
    rw[S];exact om (c:=c) hglob hdf (by simp) ds ρ' h' w2 tmps hlo (V.trans l2) H a6 (λ w3 l3 a7 a1 s3=>hk w3 ρ' h' kf l3 a7 (O.trans a1) s3)
theorem Tk {fz:Bool}{f:FuncId}{loops:TLq}{dr:Nat->Array Oper->Option ACode}{F:MW}(hc:cFnD P fz f loops dr=some F) (hdr:CX P F.nt dr) (hidle:Idle P F.g (F.xs++F.ys).length)
  {ds:List D}{K:HKq}{h:Heap}(hv:aby P F ds K h):ag P f ds h K:=by
 unfold cFnD at hc
 cases hf:P.funcs[f]? with
 | none=>simp[hf]at hc
 | some fn =>
  cases hb:fn.body with
  | none=>simp[hf,hb]at hc
  | some body =>
   simp only[hf,hb]at hc;split at hc
   ·rename_i pre g xs ys t rest res a7 c4;simp at hc;subst hc;obtain⟨hlen,hv⟩:=hv;intro c0 w vals hh hp S hs a6;subst hh;obtain⟨c,E⟩:∃c:Ctx,c=⟨c0.ρ,⟨c0.X.p,c0.hp.size,[]⟩,c0.h,c0.hp⟩:=⟨_,rfl⟩;have I:ni c0 c:=by subst E;exact⟨rfl,rfl,λ _=>Iff.rfl,rfl,λ _ _ _ _ h=>h,λ _ _ h=>h,λ _ _ _ h=>h⟩
    have a2:c.X.lo=c.hp.size:=by subst E;rfl
    have Z:c.X.dfs=[]:=by subst E;rfl
    have W:fj c:=λ g o hg=>⟨by subst E;exact(S.glob g o hg).1,λ ho=>(S.glob g o hg).2 ((I.own g).1 ho),by subst E;exact(S.glob g o hg).3⟩
    have hr:au c:=S.aM I W (by rw[a2];exact Nat.le_refl _);have c8:c.hp=w.heap:=by subst E;exact hp
    refine(callsIn_wide (n:=0)).1 (callsIn_of_wp_marks hf hb trivial ?_)
    let a:Act:={ tmps:=vals++Array.replicate (fn.ntmps-vals.size) Go.undef,defers:=[] }
    have c3:oe c fn.ntmps (params ds 0).get a:=by
     refine⟨W,hr.lo,fV.nil Z,by grind,λ i=>?_⟩;simp only[a];rw[Hh,qL];split
     ·rename_i hi;rw[Nat.sub_zero];have c5:i<ds.length:=by omega
      have:ds.getD i .undef=ds[i]:=by simp[List.getD,c5]
      rw[this];exact(a6 i _ (by simp[c5])).aM I
     ·exact .undef _
    have e0:c.h=c0.h:=by subst E;rfl
    have e1:∀g,c.X g↔c0.X g:=I.X
    have:=Ol hdr (d:=(g,xs,ys,t)) (Qd:=λ cl x e' h'=>match x with
     | .exit _=>False
     | .pan=>Wv P g cl h' (λ O=>mu P res K e' O)
     | .jump _=>False
     | _=>mu P res K e' h') body pre a7 _ _ hv c w a e0 c8 hr c3
    refine wpIn_mono (show body.wpIn Fence.wide 0 P _ a w from this) ?_;intro x a' w' u;have c2:∀(ρ:Nat->Option Nat) (h':Heap) (G:World),ni ⟨ρ,c.X,h',G.heap⟩ ⟨ρ,c0.X,h',G.heap⟩:=λ ρ h' G=>⟨rfl,rfl,λ g=>(e1 g).symm,rfl,λ _ _ _ _ h=>h,λ _ _ h=>h,λ _ _ _ h=>h⟩
    have V:∀(ρ:Nat->Option Nat) (h':Heap) (G:World),c.le ⟨ρ,c.X,h',G.heap⟩->c0.le ⟨ρ,c0.X,h',G.heap⟩:=by
     intro ρ h' G U;have:=U.Tx c0.X c0.X rfl;subst E;exact this
    have last:∀{e':LEnv}{h':Heap}{ρ:Nat->Option Nat}{G:World},mu P res K e' h'->c.le ⟨ρ,c.X,h',G.heap⟩->au ⟨ρ,c.X,h',G.heap⟩->WS w G->oe ⟨ρ,c.X,h',G.heap⟩ fn.ntmps e'.get { tmps:=a'.tmps,defers:=[] } ->
      LeavesIn Fence.wide 0 P fn a'.tmps (λ e w'=>∃(v:Value) (r:D) (ρ:Nat->Option Nat) (h':Heap),e=.returned v/\c0.le ⟨ρ,c0.X,h',w'.heap⟩/\au ⟨ρ,c0.X,h',w'.heap⟩/\WS w w'/\aA ⟨ρ,c0.X,h',w'.heap⟩ r v/\K r h') [] .returning G:=by
     intro e' h' ρ G hk U H Q s2;obtain⟨v,d,g1,g2,g3⟩:=zK (P:=P) (c:=⟨ρ,c.X,h',G.heap⟩) (a:={ tmps:=a'.tmps,defers:=[] }) rfl H s2 c4 hk;exact⟨v,g1,v,d,ρ,h',rfl,V _ _ _ U,H.aM (c2 _ _ _) (S.glob.mono (V _ _ _ U)) (Nat.le_trans S.lo (V _ _ _ U).size),Q,g2.aM (c2 _ _ _),g3⟩
    rcases u with⟨hne,u⟩|⟨ρ1,h1,w1,cl,va,vb,q1,q2,q3,q4,q5,u⟩
    ·cases x with
     | normal=>exact absurd rfl hne
     | ret =>
      obtain⟨ρ,t,h',T,r2,r3,r4,e',rfl,hk⟩:=u;exact om (c:=c) W Z (by simp) a'.defers ρ h' w' a'.tmps a2 T r2 r4 (λ G U H Q s2=>last hk U H (r3.trans Q) s2)
     | exit id =>
      obtain⟨ρ,t,h',T,r2,r3,r4,e',rfl,hk⟩:=u;exact hk.elim
     | goto l =>
      obtain⟨ρ,t,h',T,r2,r3,r4,e',rfl,hk⟩:=u;exact hk.elim
     | panic ch =>
      obtain⟨_,ρ,t,h',T,r2,r3,r4,e',rfl,hk⟩:=u;exact hk.elim
     | outgrown=>exact u.elim
    ·have a5:de P g=true:=by
      have:∀(code:Code) (l:List ACode) (r:ACode),cSpine P fz fn.ntmps loops dr code=some (l,(g,xs,ys,t),r)->de P g=true:=by
       intro code
       induction code with
       | seq a b e7 e6 =>
        intro l r hc;simp only[cSpine]at hc;split at hc
        ·rename_i dd e8;simp at hc;grind [H9]
        grind
       | _=>grind [cSpine]
      grind
     rw[Z]at u;obtain⟨X',a1⟩:∃X':XT,X'=⟨c.X.p,c.X.lo,[{ target:=.fn (.func g) vb,args:=va }]⟩:=⟨_,rfl⟩;simp only at u;rw[<- a1]at u;have e5:∀(ρ:Nat->Option Nat) (h':Heap) (G:World),ni ⟨ρ,X',h',G.heap⟩ ⟨ρ,c.X,h',G.heap⟩:=λ ρ h' G=>⟨rfl,rfl,λ g=>by rw[a1],rfl,λ _ _ _ _ h=>h,λ _ _ h=>h,λ _ _ _ h=>h⟩
     have c1:Ctx.le ⟨c.ρ,X',c.h,c.hp⟩ ⟨ρ1,X',h1,w1.heap⟩:=by have:=q1.Tx X' X' rfl;exact this
     have idle:∀{e':LEnv},Fin ⟨ρ1,X',h1,w1.heap⟩ w1 fn.ntmps (up (λ e' h'=>mu P res K e' h')) a' w'->LeavesInM Fence.wide 0 P fn a'.tmps (λ e w'=>∃(v:Value) (r:D) (ρ:Nat->Option Nat) (h':Heap),e=.returned v/\c0.le ⟨ρ,c0.X,h',w'.heap⟩ /\
       au ⟨ρ,c0.X,h',w'.heap⟩/\WS w w'/\aA ⟨ρ,c0.X,h',w'.heap⟩ r v/\K r h') a'.defers .returning w':=by
      rintro _ ⟨ρ,t,h',T,r2,r3,r4,e',rfl,hk⟩;refine Rm (c:=c) W Z a2 a5 (by simp) (KF:=λ O=>O=h') a1 a'.defers w' (c1.trans T) r2 r4 ?_ ?_
      ·intro G a8 H;refine(hidle G (va++vb) (q3.trans q5)).mono ?_;rintro e u' w3 ⟨v,rfl,rfl,rfl⟩;exact⟨v,ρ,h',rfl,rfl,Ctx.le.refl _,H,WS.refl _,rfl⟩
      ·rintro G ρ' O rfl U H Q s2;exact last hk U H ((q2.trans r3).trans Q) s2
     cases x with
     | normal=>exact idle (e':=[]) u
     | ret=>exact idle (e':=[]) u
     | exit id =>
      obtain⟨ρ,t,h',T,r2,r3,r4,e',rfl,hk⟩:=u;exact hk.elim
     | goto l =>
      obtain⟨ρ,t,h',T,r2,r3,r4,e',rfl,hk⟩:=u;exact hk.elim
     | panic ch =>
      obtain⟨rfl,ρ,t,h',T,r2,r3,r4,e',rfl,hk⟩:=u;show LeavesInM _ _ _ _ _ _ a'.defers _ _
      refine Rm (c:=c) W Z a2 a5 (by simp) (KF:=λ O=>mu P res K e' O) a1 a'.defers w' (c1.trans T) r2 r4 ?_ ?_
      ·intro G a8 H;refine(hk ⟨ρ,c.X,h',G.heap⟩ G (va++vb) rfl rfl H q3 (λ i d hd=>?_)).mono ?_
       ·have h0:=q4 i d hd;have e4:aA ⟨ρ1,X',h1,w1.heap⟩ d ((va++vb).getD i Go.undef):=h0.aM (show ni ⟨ρ1,c.X,h1,w1.heap⟩ ⟨ρ1,X',h1,w1.heap⟩ from ⟨rfl,rfl,λ g=>by rw[a1],rfl,λ _ _ _ _ h=>h,λ _ _ h=>h,λ _ _ _ h=>h⟩);exact(e4.mono T).aM a8
       ·rintro e u' w3 ⟨v,ρ',O,rfl,rfl,l3,c7,c6,c9⟩;exact⟨v,ρ',O,rfl,rfl,l3,c7,c6,c9⟩
      ·rintro G ρ' O kf U H Q s2;exact last kf U H ((q2.trans r3).trans Q) s2
     | outgrown=>exact u.elim
   ·cases hc
def PL (P:Program) (f:FuncId) (ds:List D) (h:Heap) (KP:Heap->Prop) (K:HKq):Prop:=nP P f ds h K KP
theorem Pw {fz:Bool}{f:FuncId}{loops:TLq}{dr:Nat->Array Oper->Option ACode}{F:aJ}(hc:cFn P fz f loops dr=some F) (hdr:CX P F.nt dr)
  {ds:List D}{h:Heap}{K:HKq}{KP:Heap->Prop}(hlen:Nat.ble ds.length F.nt=true) {V:(HKq)->(Heap->Prop)->Prop}(hV:∀K KP,V K KP=vcC P F.code (λ x e h'=>match x with|.exit _=>False|.pan=>KP h'|.jump _=>False|_=>mu P F.res K e h') (params ds 0) h)
  (hv:V K KP):nP P f ds h K KP :=
 Tj hc hdr ⟨Nat.le_of_ble_eq_true hlen,Eq.mp (hV _ _) hv⟩
theorem Wi {fz:Bool}{f:FuncId}{loops:TLq}{dr:Nat->Array Oper->Option ACode}{F:MW}(hc:cFnD P fz f loops dr=some F) (hdr:CX P F.nt dr) (hidle:Idle P F.g (F.xs++F.ys).length)
  {ds:List D}{h:Heap}{K:HKq}(hlen:Nat.ble ds.length F.nt=true) {V:(HKq)->Prop}(hV:∀K,V K=vcFnD0 P F K (params ds 0) h)
  (hv:V K):ag P f ds h K :=
 Tk hc hdr hidle ⟨Nat.le_of_ble_eq_true hlen,Eq.mp (hV _) hv⟩
end Go.Am
namespace Go.Am
open Go
variable [ck]
variable {P:Program}
def roundEnd (x:Ex) (n:Nat) (B:fu) (K:HKq) (h:Heap):Prop :=
 match x with
 | .normal=>K (.bool true) (ak h n (.lp .ready B))
 | .pan=>False
 | .jump _=>False
 | x=>K (.bool false) (ak h n (.lp (.done x) B))
theorem OS {c:Ctx}:∀(ps:List Nat) (ds:List D) (vals:List Value) (tmps:Array Value) (e:LEnv),ps.Nodup->(∀p∈ps,p<tmps.size)->ds.length=ps.length->vals.length=ps.length ->
  (∀(i:Nat) (d:D),ds[i]?=some d->aA c d (vals.getD i Go.undef))->(∀i,aA c (e.get i) (tmps.getD i Go.undef)) ->
  ((ps.zip vals).foldl (λ t (p:Nat×Value)=>t.setIfInBounds p.1 p.2) tmps).size=tmps.size /\
   ∀i,aA c (LEnv.get (ps.zip ds++e) i) (((ps.zip vals).foldl (λ t (p:Nat×Value)=>t.setIfInBounds p.1 p.2) tmps).getD i Go.undef)
 | [],_,_,tmps,e,_,_,_,_,_,he=>by simpa using he
 | p::r,[],_,_,_,_,_,hd,_,_,_=>by simp at hd
 | p::r,d::ds,[],_,_,_,_,_,G,_,_=>by simp at G
 | p::r,d::ds,v::vals,tmps,e,E,I,hd,G,hrel,he=>by
  rw[List.nodup_cons]at E;have h1:=hrel 0 d rfl;have H:=I p (by simp)
  have u:∀i,aA c (LEnv.get ((p,d)::e) i) ((tmps.setIfInBounds p v).getD i Go.undef):=by
   intro i;simp only[LEnv.get];by_cases hi:i=p
   ·subst hi;rw[if_pos rfl];have:(tmps.setIfInBounds i v).getD i Go.undef=v:=by simp[H]
    rw[this];simpa using h1
   ·rw[if_neg hi];have O:p≠i:=λ e=>hi e.symm
    have:(tmps.setIfInBounds p v).getD i Go.undef=tmps.getD i Go.undef:=by simp[O]
    rw[this];exact he i
  obtain⟨S,Q⟩:=OS r ds vals (tmps.setIfInBounds p v) ((p,d)::e) E.2 (λ q hq=>by grind) (by simpa using hd) (by simpa using G)
   (λ i x hx=>by simpa using hrel (i+1) x (by simpa using hx)) u
  refine⟨by grind [List.zip_cons_cons],λ i=>?_⟩;simp only[List.zip_cons_cons,List.foldl_cons,List.cons_append];have:=Q i
  have eq:LEnv.get (r.zip ds++(p,d)::e) i=LEnv.get ((p,d)::(r.zip ds++e)) i:=by
   have key:∀(l:List (Nat×D)),(∀q∈l,q.1≠p)->LEnv.get (l++(p,d)::e) i=LEnv.get ((p,d)::(l++e)) i:=by
    intro l
    induction l with
    | nil=>intro _;rfl
    | cons q s T =>
     grind [LEnv.get]
   refine key _ (λ q hq=>?_);have hm:=(List.of_mem_zip hq).1;grind
  grind
theorem Tc {n:Nat}{B:fu}{ds:List D}{h:Heap}{K:HKq}{a b:ACode}(hn:h n=.lp .ready B)
  (hA:∀(Q:LPost) (e:LEnv) (h:Heap),vcC P a Q e h->uu P B.nt B.assign (λ x=>up (Q x)) e.get h)
  (hB:∀(Q:LPost) (e:LEnv) (h:Heap),vcC P b Q e h->uu P B.nt B.body (λ x=>up (Q x)) e.get h)
  (hnd:B.ps.Nodup) (hlt:∀p∈B.ps,p<B.nt) (hlen:ds.length=B.ps.length) {e:LEnv}(he:B.env=e.get)
  (hv:vcC P a (λ x e1 h1=>x=.normal/\h1 n=.lp .ready B/\vcC P b (λ x e2 h2=>h2 n=.lp .busy B/\roundEnd x n B K h2) e1 (ak h1 n (.lp .busy B))) (B.ps.zip ds++e) h):uq P n ds h K:=by
 intro c0 w vals g hh e8 S hsz a6 e4;subst hh;obtain⟨c,u⟩:∃c:Ctx,c=⟨c0.ρ,⟨c0.X.p,c0.X.lo,[]⟩,c0.h,c0.hp⟩:=⟨_,rfl⟩;have I:ni c0 c:=by subst u;exact⟨rfl,rfl,λ _=>Iff.rfl,rfl,λ _ _ _ _ h=>h,λ _ _ h=>h,λ _ _ _ h=>h⟩
 have g6:c.X.dfs=[]:=by subst u;rfl
 have g5:fj c:=λ g o hg=>⟨by subst u;exact(S.glob g o hg).1,λ ho=>(S.glob g o hg).2 ((I.own g).1 ho),by subst u;exact(S.glob g o hg).3⟩
 have hr:au c:=S.aM I g5 (by subst u;exact S.lo);have hp:c.hp=w.heap:=by subst u;exact e8
 have hρ:c.ρ n=some g:=by subst u;exact e4
 have hrel:∀(i:Nat) (d:D),ds[i]?=some d->aA c d (vals.getD i Go.undef):=λ i d hd=>(a6 i d hd).aM I
 have g7:c.h=c0.h:=by subst u;rfl
 rw[<- g7]at hn hv
 suffices H:∃(fn:FuncId) (tmps:Array Value) (assign body:Code),(Instr.yield g vals).run P w=.ok (.round g fn tmps assign body) w /\
   RoundIn Fence.wide 0 P g fn tmps assign body w λ e w'=>∃(v:Value) (r:D) (ρ:Nat->Option Nat) (h':Heap),e=.returned v/\c.le ⟨ρ,c.X,h',w'.heap⟩ /\
    au ⟨ρ,c.X,h',w'.heap⟩/\WS w w'/\aA ⟨ρ,c.X,h',w'.heap⟩ r v/\K r h' by
  obtain⟨fn,tmps,assign,body,h1,h2⟩:=H;refine⟨fn,tmps,assign,body,h1,h2.mono ?_⟩;rintro e w' ⟨v,r,ρ,h',r1,r2,r3,r4,r5,r6⟩;have e5:ni ⟨ρ,c.X,h',w'.heap⟩ ⟨ρ,c0.X,h',w'.heap⟩:=⟨rfl,rfl,λ g=>(I.X g).symm,rfl,λ _ _ _ _ h=>h,λ _ _ h=>h,λ _ _ _ h=>h⟩
  have a7:c0.le ⟨ρ,c0.X,h',w'.heap⟩:=by
   have:=r2.Tx c0.X c0.X rfl;subst u;exact this
  exact⟨v,r,ρ,h',r1,a7,r3.aM e5 (S.glob.mono a7) (Nat.le_trans S.lo a7.size),r4,r5.aM e5,r6⟩
 clear a6 e4 S e8;obtain⟨tmps,dfs,q1,q2,q3⟩:=JC hp hr hn hρ;have hy:=run_yield (P:=P) (args:=vals) q1 (by simp[fL,hsz,hlen]);refine⟨_,_,_,_,hy,?_⟩;refine roundIn_of_wpIn (F:=Fence.wide) trivial ?_
 have a8:((fL .ready B tmps dfs).params.zip vals).foldl (λ tmps (t,a)=>tmps.setIfInBounds t a) tmps=(B.ps.zip vals.toList).foldl (λ t (p:Nat×Value)=>t.setIfInBounds p.1 p.2) tmps:=by
  grind [fL,Array.toList_zip]
 have e9:=OS B.ps ds vals.toList tmps e hnd (λ p hp=>by rw[q2];exact hlt p hp) hlen (by grind) (λ i d hd=>by rw[aO];exact hrel i d hd) (λ i=>by have:=q3 i;rw[he]at this;exact this)
 have g1:oe c B.nt (LEnv.get (B.ps.zip ds++e)) { tmps:=((fL .ready B tmps dfs).params.zip vals).foldl (λ tmps (t,a)=>tmps.setIfInBounds t a) (fL .ready B tmps dfs).tmps,defers:=[] }:=by
  refine⟨hr.glob,hr.lo,fV.nil g6,?_,λ i=>?_⟩
  ·show(Array.foldl _ tmps _).size=_
   rw[a8,e9.1,q2]
  ·show aA c _ ((Array.foldl _ tmps _).getD i Go.undef)
   rw[a8];exact e9.2 i
 refine wpIn_mono (show B.assign.wpIn (rF (some g)) 0 P _ _ w from hA _ _ _ hv (some g) c w _ rfl hp hr g1 (λ l hl=>by grind)) ?_;intro x a1 w1 hf
 cases x with
 | normal =>
  obtain⟨ρ1,t1,h1,V,W,U,O,e1,rfl,_,c7,hb⟩:=hf;obtain⟨_,c4⟩:=Fc V hn hρ c7;obtain⟨E,G,p1,p2,p3⟩:=JC (c:=⟨ρ1,c.X,h1,w1.heap⟩) (w:=w1) rfl W c7 c4;refine⟨_,run_beginRound p1 rfl,?_⟩;obtain⟨c9,g3⟩:=Kv (c:=⟨ρ1,c.X,h1,w1.heap⟩) rfl W c7 c4 p1 p2 p3 .busy;have e6:(.loop { fL .ready B E G with state:=.busy }:Obj)=.loop (fL .busy B E G):=rfl;rw[e6]
  refine wpIn_mono (show B.body.wpIn (rF (some g)) 0 P _ a1 _ from hB _ _ _ hb (some g) _ (w1.putObj g (.loop (fL .busy B E G))) a1 rfl rfl g3 (O.mono c9) (λ l hl=>by
   grind [World.putObj_heap_same])) ?_
  have fin:∀(y:Ex) (jump:Option Code) (st':LSt),st'.st=(if jump.isNone then LoopState.ready else .done)->st'.pend=jump->∀(a2:Act) (w2:World),Fin ⟨ρ1,c.X,ak h1 n (.lp .busy B),(w1.putObj g (.loop (fL .busy B E G))).heap⟩ (w1.putObj g (.loop (fL .busy B E G))) B.nt (up λ e2 h2=>h2 n=.lp .busy B/\roundEnd y n B K h2) a2 w2 ->
    (∀h2,roundEnd y n B K h2->K (.bool jump.isNone) (ak h2 n (.lp st' B))) ->
    ∃v w',(Instr.endRound g jump).run P w2=.ok v w'/\∃(v':Value) (r:D) (ρ:Nat->Option Nat) (h':Heap),Ending.returned v=.returned v'/\c.le ⟨ρ,c.X,h',w'.heap⟩/\au ⟨ρ,c.X,h',w'.heap⟩/\WS w w'/\aA ⟨ρ,c.X,h',w'.heap⟩ r v'/\K r h':=by
   rintro y jump st' e1 e2 a2 w2 ⟨ρ2,t2,h2,c8,e7,c3,g8,g9,rfl,c6,T⟩ hk;have g4:(⟨ρ1,c.X,ak h1 n (.lp .busy B),(w1.putObj g (.loop (fL .busy B E G))).heap⟩:Ctx).h n=.lp .busy B:=by simp[ak]
   obtain⟨_,e0⟩:=Fc c8 g4 c4 c6;obtain⟨a5,c2,u1,u2,u3⟩:=JC (c:=⟨ρ2,c.X,h2,w2.heap⟩) (w:=w2) rfl e7 c6 e0;have c1:=run_endRound (P:=P) jump u1;have c5:(.loop { fL .busy B a5 c2 with state:=if jump.isNone then .ready else .done,pending:=jump }:Obj)=.loop (fL st' B a5 c2):=by simp[fL,e1,e2]
   rw[c5]at c1;obtain⟨g0,g2⟩:=Kv (c:=⟨ρ2,c.X,h2,w2.heap⟩) rfl e7 c6 e0 u1 u2 u3 st';refine⟨_,_,c1,_,.bool jump.isNone,ρ2,ak h2 n (.lp st' B),rfl,((V.trans c9).trans c8).trans g0,g2,⟨?_,?_,?_⟩,.bool _,hk h2 T⟩
   ·exact c3.os.trans U.os
   ·exact c3.tape.trans U.tape
   ·exact c3.output.trans U.output
  intro y a2 w2 Z
  cases y with
  | normal=>exact fin .normal none .ready rfl rfl a2 w2 Z (λ h2 hk=>hk)
  | exit id=>exact fin (.exit id) (some (.exit id)) (.done (.exit id)) rfl rfl a2 w2 Z (λ h2 hk=>hk)
  | ret=>exact fin .ret (some .ret) (.done .ret) rfl rfl a2 w2 Z (λ h2 hk=>hk)
  | goto t=>obtain⟨ρ2,t2,h2,_,_,_,_,_,_,_,T⟩:=Z;exact T.elim
  | panic ch=>obtain⟨_,ρ2,t2,h2,_,_,_,_,_,_,_,T⟩:=Z;exact T.elim
  | outgrown=>exact Z.elim
 | exit id=>obtain⟨ρ1,t1,h1,V,W,U,O,e1,rfl,hx,_⟩:=hf;cases hx
 | ret=>obtain⟨ρ1,t1,h1,V,W,U,O,e1,rfl,hx,_⟩:=hf;cases hx
 | goto t=>obtain⟨ρ1,t1,h1,V,W,U,O,e1,rfl,hx,_⟩:=hf;cases hx
 | panic ch=>obtain⟨_,ρ1,t1,h1,V,W,U,O,e1,rfl,hx,_⟩:=hf;cases hx
 | outgrown=>exact hf.elim
end Go.Am
namespace Go.Am
open Go
variable [ck]
variable {P:Program}
theorem JS {d:D}(h:d.vd=true):d.vone=true\/∃cs,d=.agg cs/\∀x∈cs,x.vone=true:=by
 cases d with
 | agg cs=>grind [D.vd]
 | _=>exact Or.inl h
theorem aA.Nb {c c':Ctx}(hp:c'.hp=c.hp) (ho:∀g,¬c.own g->¬c'.own g){d:D}{v:Value}(h:aA c d v):(d.vd=true->aA c' d v):=by
 induction h with
 | undef v=>grind [D.vd,D.vone]
 | nil=>intro _;exact .nil
 | nilfn=>intro _;exact .nilfn
 | nilmap=>intro _;exact .nilmap
 | nilp=>intro _;exact .nilp
 | int k n=>intro _;exact .int k n
 | bool b=>intro _;exact .bool b
 | str s=>intro _;exact .str s
 | yA p cap hm=>intro _;exact .yA p cap hm
 | sl xs b o cap esz f hne hc hm he hlen hone hcell hown _ u =>
  intro _;refine .sl xs b o cap esz f hne hc hm he hlen hone (λ i j d hd=>by rw[hp];exact hcell i j d hd) (ho b hown) (λ i j d hd=>u i j d hd ?_);have:=hone i j d hd;cases d<;>simp_all [D.vd,D.vone]
 | agg cs vs hsz hone _ u =>
  intro E;refine .agg cs vs hsz hone (λ i d hd=>u i d hd ?_)
  have:d.vone=true:=by
   grind [D.vd]
  cases d<;>simp_all [D.vd,D.vone]
 | _=>grind [D.vd,D.vone]
theorem aA.E3 {c c':Ctx}(hp:c'.hp=c.hp) (ho:∀g,¬c.own g->¬c'.own g){d:D}{v:Value}(h:aA c d v) (hv:d.JR=true):aA c' d v:=by
 cases h with
 | tup ds vs hsz hrel =>
  refine .tup ds vs hsz (λ i d hd=>(hrel i d hd).Nb hp ho ?_);grind [D.JR]
 | agg cs vs hsz hone hrel=>exact aA.Nb hp ho (.agg cs vs hsz hone hrel) hv
 | sl xs b o cap esz f hne hc hm he hlen hone hcell hown hrel=>exact aA.Nb hp ho (.sl xs b o cap esz f hne hc hm he hlen hone hcell hown hrel) rfl
 | yA p cap hm=>exact .yA p cap hm
 | nil=>exact .nil
 | nilfn=>exact .nilfn
 | nilmap=>exact .nilmap
 | nilp=>exact .nilp
 | int k n=>exact .int k n
 | bool b=>exact .bool b
 | str s=>exact .str s
 | _=>simp[D.JR,D.vd,D.vone]at hv
theorem aA.W7 {c c':Ctx}{d:D}{v:Value}(h:aA c d v) (hv:d.flat=true):aA c' d v:=by
 have cell:∀{d:D}{v:Value},aA c d v->d.flatc=true->aA c' d v:=by
  intro d v h u
  cases h with
  | nil=>exact .nil
  | nilfn=>exact .nilfn
  | nilmap=>exact .nilmap
  | nilp=>exact .nilp
  | int k n=>exact .int k n
  | bool b=>exact .bool b
  | str s=>exact .str s
  | _=>simp[D.flatc]at u
 have one:∀{d:D}{v:Value},aA c d v->d.ME=true->aA c' d v:=by
  intro d v h u
  cases h with
  | agg cs vs hsz hone hrel =>
   refine .agg cs vs hsz hone (λ i d hd=>cell (hrel i d hd) ?_);grind [D.ME]
  | nil=>exact .nil
  | nilfn=>exact .nilfn
  | nilmap=>exact .nilmap
  | nilp=>exact .nilp
  | int k n=>exact .int k n
  | bool b=>exact .bool b
  | str s=>exact .str s
  | _=>simp[D.ME,D.flatc]at u
 cases h with
 | tup ds vs hsz hrel =>
  refine .tup ds vs hsz (λ i d hd=>one (hrel i d hd) ?_);grind [D.flat]
 | agg cs vs hsz hone hrel=>exact one (.agg cs vs hsz hone hrel) hv
 | nil=>exact .nil
 | nilfn=>exact .nilfn
 | nilmap=>exact .nilmap
 | nilp=>exact .nilp
 | int k n=>exact .int k n
 | bool b=>exact .bool b
 | str s=>exact .str s
 | _=>simp[D.flat,D.ME,D.flatc]at hv
def D.nmt:D->List Nat
 | .tup ds=>ds.flatMap D.nm
 | d=>d.nm
def lD:D->Prop
 | .tup ds=>∀x∈ds,aD x
 | d=>aD d
def yb (h:Heap):D->Prop
 | .tup ds=>∀x∈ds,pD h x
 | d=>pD h d
theorem Rt {c c':Ctx}(hle:c.le c') (hr':au c'){d:D}{v:Value}(h:aA c d v) (h1:lD d) (hok:yb c.h d) (hfr:∀n esz els,n∈d.nmt->(c.h n).row=some (esz,els)->c'.h n=.frz esz els) :
  aA c' (d.fzt c.h) v:=by
 by_cases ht:∃ds,d=.tup ds
 ·obtain⟨ds,rfl⟩:=ht
  cases h with
  | tup _ vs hsz hrel =>
   refine .tup _ vs (by simpa using hsz) (λ i x hx=>?_);grind [Ed,D.nmt,lD,yb]
 ·have E:D.fzt c.h d=D.fz c.h d:=by cases d<;>simp_all [D.fzt]
  have e2:d.nmt=d.nm:=by cases d<;>simp_all [D.nmt]
  have e3:aD d:=by cases d<;>simp_all [lD]
  have u:pD c.h d:=by cases d<;>simp_all [yb]
  grind [Ed]
def bP:Heap:=λ _=>.free
theorem TL {fz:Bool}{f:FuncId}{loops:TLq}{dr:Nat->Array Oper->Option ACode}{F:aJ}(hc:cFn P fz f loops dr=some F) (hdr:CX P F.nt dr)
  {ds:List D}{K:D->Prop}(hv:vcFn P F ds (λ r h=>lD r/\yb h r/\(r.fzt h).JR=true/\K (r.fzt h)) bP):aV P f ds K:=by
 intro c w vals E hp hr hs hrel;have kS:c.h=bP:=funext E;have:=Pv hc hdr hv c w vals kS hp hr hs hrel;refine this.mono ?_;rintro e w' ⟨v,r,ρ,h',rfl,h1,h2,h3,h4,S,Q,G,O⟩;obtain⟨U,T⟩:=dU h2 r.nmt;have H:=Rt U T h4 S Q (λ n esz els hn u=>ft _ u hn)
 have hown:∀g,¬(⟨ρ,c.X,h'.freezeAll r.nmt,w'.heap⟩:Ctx).own g->¬(⟨c.ρ,c.X,c.h,w'.heap⟩:Ctx).own g:=by
  rintro g hn (I|⟨n,hm,_⟩)
  ·exact hn (Or.inl I)
  ·simp only[E n]at hm;cases hm
 refine⟨v,r.fzt h',rfl,?_,h3,aA.E3 (c:=⟨ρ,c.X,h'.freezeAll r.nmt,w'.heap⟩) (c':=⟨c.ρ,c.X,c.h,w'.heap⟩) rfl hown H G,G,O⟩;refine⟨h1.size,rfl,h1.aS,h1.shape,h1.loop,λ _ _=>rfl,λ _=>Trans.refl _,λ n g hm hρ _=>⟨n,hm,hρ⟩⟩
theorem mW {f:FuncId}{ds:List D}{h:Heap}{K:D->Prop}(hv:aV P f (ds.map (D.fz h)) K) (h1:∀d∈ds,aD d/\pD h d/\(d.fz h).vd=true) :
  ag P f ds h λ r h'=>K r/\((r.flat=true\/ds.flatMap D.nm=[])->h'=h)/\(¬(r.flat=true\/ds.flatMap D.nm=[])->h'=h.freezeAll (ds.flatMap D.nm)):=by
 intro c w vals hh hp hr hs hrel;subst hh
 let V:=ds.flatMap D.nm
 let I:Heap:=c.h.freezeAll V
 let O:Ctx:=⟨c.ρ,c.X,I,c.hp⟩
 obtain⟨g1,S⟩:=dU hr V
 let c0:Ctx:=⟨λ _=>none,⟨O.own,0,[]⟩,bP,c.hp⟩
 have a2:au c0:=by
  refine⟨λ n=>trivial,λ n m g hm=>(by cases hm),λ n g hm=>(by cases hm),λ g H=>?_,⟨0,λ n _=>rfl⟩,λ g o hg=>⟨(S.glob g o hg).1,λ ho=>(S.glob g o hg).2 ?_,(S.glob g o hg).3⟩,Nat.zero_le _⟩
  rotate_left
  ·rcases ho with H|⟨n,hm,_⟩
   ·exact H
   ·cases hm
  have H:O.own g:=H;rcases H with H|⟨n,hm,hρ⟩
  ·exact hr.xlt g H
  ·exact nY S hm hρ
 have hown:∀g,¬O.own g->¬c0.own g:=by
  rintro g hn (H|⟨n,hm,_⟩)
  ·exact hn H
  ·cases hm
 have Q:∀(i:Nat) (d:D),(ds.map (D.fz c.h))[i]?=some d->aA c0 d (vals.getD i Go.undef):=by
  intro i d hd;rw[List.getElem?_map]at hd
  cases hi:ds[i]? with
  | none=>simp[hi]at hd
  | some x =>
   simp[hi]at hd;subst hd;have hm:=aK hi;obtain⟨q1,q2,q3⟩:=h1 x hm;have:=(Ed (c':=O) g1 S (hrel i x hi) q1 q2 (λ n esz els hn U=>ft V U (by grind))).1;exact aA.Nb (c:=O) (c':=c0) rfl hown this q3
 refine(hv c0 w vals (λ _=>rfl) hp a2 (by simpa using hs) Q).mono ?_;rintro e w' ⟨v,r,rfl,k1,k2,Z,T,k4⟩;have u:∀g,g<c.hp.size->w'.heap[g]?=c.hp[g]?:=λ g hg=>k1.aS g hg (λ n hm=>by cases hm)
 have lift:∀h2:Heap,au ⟨c.ρ,c.X,h2,c.hp⟩->(⟨c.ρ,c.X,h2,c.hp⟩:Ctx).le ⟨c.ρ,c.X,h2,w'.heap⟩/\au ⟨c.ρ,c.X,h2,w'.heap⟩:=by
  intro h2 E
  have hle:(⟨c.ρ,c.X,h2,c.hp⟩:Ctx).le ⟨c.ρ,c.X,h2,w'.heap⟩ :=
   ⟨k1.size,rfl,λ g hg _=>u g hg,λ g cur ty fr hg=>⟨cur,(u g (Array.getElem?_eq_some_iff.1 hg).1).trans hg,rfl⟩,λ g r hg=>⟨r,(u g (Array.getElem?_eq_some_iff.1 hg).1).trans hg,rfl⟩,λ _ _=>rfl,λ _=>Trans.refl _,λ n g hm hρ _=>⟨n,hm,hρ⟩⟩
  refine⟨hle,λ n=>kr hle (E.slot n) (λ _ _=>rfl) (λ g hm hρ=>u g (nY E hm hρ)),E.inj,E.apart,λ g H=>Nat.lt_of_lt_of_le (E.xlt g H) k1.size,E.fin,E.glob.mono hle,Nat.le_trans E.lo hle.size⟩
 by_cases hf:r.flat=true\/ds.flatMap D.nm=[]
 ·obtain⟨l1,W⟩:=lift c.h hr
  have G:aA ⟨c.ρ,c.X,c.h,w'.heap⟩ r v:=by
   by_cases a1:r.flat=true
   ·exact Z.W7 a1
   ·have a5:V=[]:=by grind
    have a6:O.h=c.h:=by simp only[O,I,a5];rfl
    refine aA.E3 (c:=⟨c0.ρ,c0.X,c0.h,w'.heap⟩) (c':=⟨c.ρ,c.X,c.h,w'.heap⟩) rfl ?_ Z T;rintro g hn ho;refine hn (Or.inl ?_);show O.own g
    rcases ho with H|⟨n,hm,hρ⟩
    ·exact Or.inl H
    ·exact Or.inr ⟨n,by rw[a6];exact hm,hρ⟩
  exact⟨v,r,c.ρ,c.h,rfl,l1,W,k2,G,k4,λ _=>rfl,λ h=>absurd hf h⟩
 ·obtain⟨l1,W⟩:=lift I S
  have G:aA ⟨c.ρ,c.X,I,w'.heap⟩ r v:=by
   refine aA.E3 (c:=⟨c0.ρ,c0.X,c0.h,w'.heap⟩) (c':=⟨c.ρ,c.X,I,w'.heap⟩) rfl ?_ Z T;rintro g hn ho;exact hn (Or.inl ho)
  exact⟨v,r,c.ρ,I,rfl,g1.trans l1,W,k2,G,k4,λ h=>absurd h hf,λ _=>rfl⟩
end Go.Am
namespace Go.Am
open Go
variable [ck]
variable {P:Program}{nt:Nat}
def Arg.reads:Arg->List Nat
 | .t i=>[i]
 | .c _=>[]
def uH:Option Arg->List Nat
 | some a=>a.reads
 | none=>[]
def nO (l:List Arg):List Nat:=l.flatMap Arg.reads
def AOp.reads:AOp->List Nat
 | .mov x=>x.reads
 | .un _ x=>x.reads
 | .conv _ x=>x.reads
 | .ext x _=>x.reads
 | .fld x _ _ _=>x.reads
 | .len x=>x.reads
 | .slen x=>x.reads
 | .fadd x _=>x.reads
 | .ld x _ _=>x.reads
 | .box x=>x.reads
 | .pick a b c=>a.reads++b.reads++c.reads
 | .mn3 a b c=>a.reads++b.reads++c.reads
 | .mx3 a b c=>a.reads++b.reads++c.reads
 | .dead=>[]
 | .mkm _=>[]
 | .look _ x k _ _=>x.reads++k.reads
 | .mupd _ x k v=>x.reads++k.reads++v.reads
 | .bin _ x y=>x.reads++y.reads
 | .eqv _ _ _ x y=>x.reads++y.reads
 | .iadd x y _=>x.reads++y.reads
 | .iadda x y _ _=>x.reads++y.reads
 | .sidx x y _ _ _=>x.reads++y.reads
 | .st x y _=>x.reads++y.reads
 | .mk _ _ _ x y=>x.reads++y.reads
 | .app x y _ _ _=>x.reads++y.reads
 | .MK x y _=>x.reads++y.reads
 | .mn x y=>x.reads++y.reads
 | .mx x y=>x.reads++y.reads
 | .bld _ ps=>ps.flatMap λ p=>p.2.2.reads
 | .bldS _ _ _ _ ps=>ps.flatMap λ p=>p.2.reads
 | .alloc _=>[]
 | .slz x _=>x.reads
 | .clr x _ _=>x.reads
 | .sla x _=>x.reads
 | .b2s x=>x.reads
 | .mkc _ x y=>x.reads++y.reads
 | .nilq _ x=>x.reads
 | .GQ x a b c _=>x.reads++uH a++uH b++uH c
 | .sslc x a b=>x.reads++uH a++uH b
 | .call _ as=>nO as
 | .callv x as=>x.reads++nO as
 | .mkf _ a b=>nO a++nO b
theorem Arg.get_congr {e e':LEnv}{x:Arg}(h:∀i∈x.reads,e.get i=e'.get i):x.get e=x.get e':=by
 cases x with
 | t i=>exact h i (by simp[Arg.reads])
 | c d=>rfl
theorem Ei {e e':LEnv}{l:List Arg}(h:∀i,i∈nO l->e.get i=e'.get i):l.map (·.get e)=l.map (·.get e'):=by
 grind [List.map_congr_left,Arg.get_congr,nO]
theorem uG {e e':LEnv}{x:Option Arg}(h:∀i,i∈uH x->e.get i=e'.get i) (d:Nat) (K:Int->Prop):vopt e x d K=vopt e' x d K:=by
 cases x with
 | none=>rfl
 | some a=>simp only[vopt];rw[Arg.get_congr h]
theorem DH {op:AOp}{e e':LEnv}(h:∀i∈op.reads,e.get i=e'.get i) (K:HKq) (hp:Heap):vcOp P op K e hp->vcOp P op K e' hp:=by
 cases op
 case bld zero ps =>
  grind [AOp.reads,Arg.get_congr,vcOp,List.map_congr_left]
 case bldS fz esz len zero ps =>
  simp only[AOp.reads,List.mem_flatMap]at h;have hg:∀p∈ps,p.2.get e=p.2.get e':=λ p u=>Arg.get_congr λ i hi=>h i ⟨p,u,hi⟩
  simp only[vcOp,Hl,MN];grind [List.map_congr_left]
 case GQ x a b c n =>
  simp only[AOp.reads,List.mem_append]at h;have hx:x.get e=x.get e':=Arg.get_congr λ i hi=>h i (Or.inl (Or.inl (Or.inl hi)))
  have ha:=λ d K=>uG (x:=a) (λ i hi=>h i (Or.inl (Or.inl (Or.inr hi)))) d K
  have hb:=λ d K=>uG (x:=b) (λ i hi=>h i (Or.inl (Or.inr hi))) d K
  have hc:=λ d K=>uG (x:=c) (λ i hi=>h i (Or.inr hi)) d K
  simp only[vcOp,hx,ha,hb,hc];exact id
 case sslc x a b =>
  simp only[AOp.reads,List.mem_append]at h;have hx:x.get e=x.get e':=Arg.get_congr λ i hi=>h i (Or.inl (Or.inl hi))
  have ha:=λ d K=>uG (x:=a) (λ i hi=>h i (Or.inl (Or.inr hi))) d K
  have hb:=λ d K=>uG (x:=b) (λ i hi=>h i (Or.inr hi)) d K
  simp only[vcOp,hx,ha,hb];exact id
 case call f as =>
  grind [AOp.reads,vcOp,Ei]
 case callv x as =>
  grind [AOp.reads,Arg.get_congr,Ei,vcOp]
 case mkf f a b =>
  grind [AOp.reads,Ei,vcOp]
 case alloc z=>exact id
 case pick x y z =>
  grind [AOp.reads,Arg.get_congr,vcOp]
 case mn3 x y z =>
  grind [AOp.reads,Arg.get_congr,vcOp]
 case mx3 x y z =>
  grind [AOp.reads,Arg.get_congr,vcOp]
 case dead=>exact id
 case mkm kt=>exact id
 case look kt x k z ok =>
  grind [AOp.reads,Arg.get_congr,vcOp]
 case mupd kt x k v =>
  grind [AOp.reads,Arg.get_congr,vcOp]
 all_goals
  grind [AOp.reads,Arg.get_congr,vcOp]
theorem jN {op:AOp}{e e':LEnv}(h:∀i∈op.reads,e.get i=e'.get i) (K:D->Prop) (hp:Heap):vcdOp P op K e hp->vcdOp P op K e' hp:=by
 cases op
 case bldS fz esz len zero ps =>
  grind [AOp.reads,Arg.get_congr,vcdOp,List.map_congr_left]
 case call f as =>
  simp only[AOp.reads]at h;have hg:∀x∈as,x.get e=x.get e':=λ x hx=>Arg.get_congr λ i hi=>h i (by grind [nO])
  simp only[vcdOp,Eh];grind [List.map_congr_left]
 case fadd x off =>
  have hx:x.get e=x.get e':=Arg.get_congr h;grind [vcdOp]
 case mk esz b z l c =>
  grind [AOp.reads,Arg.get_congr,vcdOp]
 case nilq neg x =>
  have hx:x.get e=x.get e':=Arg.get_congr h;grind [vcdOp]
 all_goals exact DH (P:=P) h (λ d _=>K d) hp
def AOp.isVal:AOp->Bool
 | .alloc _=>false
 | .slz _ _=>false
 | .sla _ _=>false
 | .b2s _=>false
 | .mkc _ _ _=>false
 | .box _=>false
 | .mkm _=>false
 | .mupd _ _ _ _=>false
 | .st _ _ _=>false
 | .app _ _ _ _ _=>false
 | .MK _ _ _=>false
 | .clr _ _ _=>false
 | .callv _ _=>false
 | _=>true
def AOp.stable:AOp->Bool
 | .len _=>false
 | .iadd _ _ _=>false
 | .iadda _ _ _ _=>false
 | .ld _ _ _=>false
 | .GQ _ _ _ _ _=>false
 | .call _ _=>false
 | .look _ _ _ _ _=>false
 | _=>true
def Ext (h h':Heap):Prop:=∀n,h n≠.free->h' n=h n
def cI (h h':Heap):Prop:=∀n,h n≠.free->h' n≠.free
theorem Ext.box {h h':Heap}(x:Ext h h'):cI h h':=λ n hn=>by rw[x n hn];exact hn
theorem cI.Ki {h:Heap}:cI h h:=λ _ hn=>hn
theorem cI.ak {h h':Heap}(x:cI h h'){n:Nat}{s:Slot}(hs:s≠.free):cI h (Go.Am.ak h' n s):=λ k hk=>by
 by_cases e:k=n
 ·grind [af]
 ·rw[aa _ _ e];exact x k hk
theorem Ext.row {h h':Heap}(x:Ext h h'){n:Nat}{r:Nat×List D}(hr:(h n).row=some r):(h' n).row=some r:=by rw[x n (Slot.iI hr)];exact hr
theorem Ext.live {h h':Heap}(x:Ext h h'){n:Nat}(hl:(h n).live=true):(h' n).live=true:=by
 rw[x n (by intro u;rw[u]at hl;cases hl)];exact hl
theorem qG {x:D}{K:Int->Prop}(hv:vint x K):∃i,K i/\∀K':Int->Prop,K' i->vint x K':=by
 cases x<;>first|exact⟨_,hv,λ _ h=>h⟩|exact hv.elim
theorem uw {e:LEnv}{x:Option Arg}{n:Nat}{K:Int->Prop}(hv:vopt e x n K):∃i,K i/\∀K':Int->Prop,K' i->vopt e x n K':=by
 cases x with
 | none=>exact⟨_,hv,λ _ h=>h⟩
 | some a=>exact qG hv
theorem qz {cs:List D}{o n:Nat}{b:Bool}{K:D->Prop}(hv:vpart cs o n b K):∃d,K d/\∀K':D->Prop,K' d->vpart cs o n b K':=by
 grind [vpart]
theorem Oa {op:BinOp}{x y:D}{K:D->Prop}(hv:vbin op x y K):∃d,K d/\∀K':D->Prop,K' d->vbin op x y K':=by
 unfold vbin at hv ⊢;grind
theorem QW {op:UnOp}{x:D}{K:D->Prop}(hv:vun op x K):∃d,K d/\∀K':D->Prop,K' d->vun op x K':=by
 unfold vun at hv ⊢;grind
theorem Qn {h h':Heap}(x:Ext h h'){d:D}(hok:pD h d):d.fz h'=d.fz h/\pD h' d:=by
 have cell:∀c:D,rM h c->c.fzc h'=c.fzc h/\rM h' c:=by
  intro c hc
  cases c with
  | ms n off len =>
   obtain⟨esz,els,hr,h1,h2⟩:=hc;exact⟨by simp[D.fzc,hr,x.row hr],esz,els,x.row hr,h1,h2⟩
  | _=>exact⟨rfl,trivial⟩
 constructor
 ·cases d with
  | agg cs =>
   simp only[D.fz];congr 1;exact List.map_congr_left λ c hc=>(cell c (hok c hc)).1
  | ms n off len=>exact(cell (.ms n off len) (hok (.ms n off len) (List.mem_singleton.2 rfl))).1
  | _=>rfl
 ·exact λ c hc=>(cell c (hok c hc)).2
theorem qB {op:AOp}(hval:op.isVal=true){K:D->Prop}{e:LEnv}{h:Heap}(hv:vcdOp P op K e h) :
  ∃d,K d/\∀h',(if op.stable then cI h h' else Ext h h')->∀K':D->Prop,K' d->vcdOp P op K' e h':=by
 cases op<;>simp only[AOp.isVal]at hval<;>try (cases hval;done)
 case mov x=>exact⟨_,hv,λ _ _ _ h=>h⟩
 case dead=>exact(show False from hv).elim
 case look kt x k z ok =>
  simp only[vcdOp,vcOp]at hv ⊢;grind [Ext,AOp.stable]
 case pick c a b =>
  grind [vcdOp,vcOp]
 case bin op x y=>obtain⟨d,h1,h2⟩:=Oa hv;exact⟨d,h1,λ _ _ K' h=>h2 K' h⟩
 case un op x=>obtain⟨d,h1,h2⟩:=QW hv;exact⟨d,h1,λ _ _ K' h=>h2 K' h⟩
 case eqv neg agg ks x y =>
  simp only[vcdOp,vcOp,veqv]at hv ⊢;grind
 case conv k x=>obtain⟨i,h1,h2⟩:=qG hv;exact⟨_,h1,λ _ _ K' h=>h2 _ h⟩
 case ext x i =>
  simp only[vcdOp,vcOp]at hv ⊢;grind
 case fld x off size agg =>
  simp only[vcdOp,vcOp]at hv ⊢;grind [qz]
 case bld zero ps=>exact⟨_,hv.2,λ _ _ _ h=>⟨hv.1,h⟩⟩
 case bldS fz esz len zero ps=>exact⟨_,hv.2.2.2,λ _ _ _ h=>⟨hv.1,hv.2.1,hv.2.2.1,h⟩⟩
 case mk esz b z l c =>
  obtain⟨i,h1,h2⟩:=qG (show vint (l.get e) _ from hv);obtain⟨j,H,O⟩:=qG h1;exact⟨_,H.2.2,λ h' _ K' hk=>h2 _ (O _ ⟨H.1,H.2.1,hk⟩)⟩
 case len x =>
  simp only[vcdOp,vcOp,bq]at hv ⊢;cases hc:x.get e<;>simp only[hc]at hv ⊢<;>try exact hv.elim
  ·grind
  ·grind
  ·exact⟨_,hv.2,λ _ hx _ h=>⟨Ext.live (by simpa[AOp.stable] using hx) hv.1,h⟩⟩
 case slen x =>
  grind [vcdOp,vcOp]
 case fadd x off =>
  grind [vcdOp,Slot.M4,cI,AOp.stable]
 case iadd x i esz =>
  obtain⟨n,h1,h2⟩:=qG (show vint (i.get e) _ from hv);cases hc:x.get e<;>simp only[hc]at h1<;>try exact h1.elim
  ·rename_i xs;obtain⟨u,E,a3⟩:=h1;have hd:xs[n.toNat]?=some (xs[n.toNat]'(by omega)):=by rw[aG]
   obtain⟨b1,b2⟩:=a3 _ hd;refine⟨_,b2,λ h' _ K' hk=>h2 _ ?_⟩;grind
  ·obtain⟨u,E,⟨els,a3⟩,a4⟩:=h1;refine⟨_,a4,λ h' hx K' hk=>h2 _ ?_⟩;simp only[hc];exact⟨u,E,⟨els,Ext.row (by simpa[AOp.stable] using hx) a3⟩,hk⟩
 case iadda x i len esz =>
  obtain⟨n,h1,h2⟩:=qG (show vint (i.get e) _ from hv);cases hc:x.get e<;>simp only[hc]at h1<;>try exact h1.2.2.elim
  ·obtain⟨u,E,a3,a4⟩:=h1;refine⟨_,a4,λ h' hx K' hk=>h2 _ ?_⟩;simp only[hc];exact⟨u,E,Ext.live (by simpa[AOp.stable] using hx) a3,hk⟩
  ·obtain⟨u,E,a4⟩:=h1;refine⟨_,a4,λ h' hx K' hk=>h2 _ ?_⟩;grind
 case sidx x i len size agg =>
  obtain⟨n,h1,h2⟩:=qG (show vint (i.get e) _ from hv);cases hc:x.get e<;>simp only[hc]at h1<;>try exact h1.elim
  ·rename_i s;obtain⟨a0,u,E,a3⟩:=h1;have V:n.toNat<s.size:=by omega
   have hb:s[n.toNat]?=some s[n.toNat]:=by grind
   refine⟨_,a3 _ hb,λ h' _ K' hk=>h2 _ ?_⟩;grind
  ·obtain⟨a0,u,E,a3⟩:=h1;obtain⟨d,H,O⟩:=qz a3;refine⟨_,H,λ h' _ K' hk=>h2 _ ?_⟩;grind
 case ld x size agg =>
  simp only[vcdOp,vcOp]at hv ⊢;cases hc:x.get e<;>simp only[hc]at hv ⊢<;>try exact hv.elim
  ·rename_i n i j;cases hn:h n<;>simp only[hn]at hv<;>try exact hv.elim
   ·grind [qz,Ext,AOp.stable]
   ·obtain⟨u,E⟩:=hv;rename_i esz els;have hd:els[i]?=some (els[i]'u):=by rw[aG]
    grind [qz,Ext,AOp.stable]
   ·obtain⟨u,E⟩:=hv;rename_i esz els;have hd:els[i]?=some (els[i]'u):=by rw[aG]
    grind [qz,Ext,AOp.stable]
  grind [qz]
 case GQ x lo hi mx esz =>
  simp only[vcdOp,vcOp]at hv ⊢;cases hc:x.get e<;>simp only[hc]at hv ⊢<;>try exact hv.elim
  ·grind [uw]
  ·grind [uw]
  ·obtain⟨l,h1,T⟩:=uw hv;obtain⟨r,h1,Q⟩:=uw h1;obtain⟨m,h1,S⟩:=uw h1;obtain⟨u,E,a3,a4,⟨els,Z⟩,W⟩:=h1;exact⟨_,W,λ h' hx K' hk=>T _ (Q _ (S _ ⟨u,E,a3,a4,⟨els,Ext.row (by simpa[AOp.stable] using hx) Z⟩,hk⟩))⟩
 case nilq neg x =>
  grind [vcdOp]
 case sslc x lo hi =>
  simp only[vcdOp,vcOp]at hv ⊢;grind [uw]
 case call f as =>
  simp only[vcdOp,Eh]at hv ⊢;obtain⟨r,h1,h2,h3,h4⟩:=hv;refine⟨r,h4,λ h' hx K' hk=>?_⟩;have G:Ext h h':=by simpa[AOp.stable] using hx
  have I:(as.map λ x=>(x.get e).fz h')=as.map λ x=>(x.get e).fz h:=List.map_congr_left λ x hm=>(Qn G (h2 x hm).2.1).1
  refine⟨r,by rw[I];exact h1,λ x hm=>⟨(h2 x hm).1,(Qn G (h2 x hm).2.1).2,by grind [Qn]⟩,h3.imp id (λ U n hn=>by
   obtain⟨I,e2,e3⟩:=U n hn
   exact⟨I,e2,by rw[G n (by rw[e3];simp)];exact e3⟩),hk⟩
 case mkf f a b=>exact⟨_,hv,λ _ _ _ h=>h⟩
 case mn x y =>
  grind [vcdOp,vcOp]
 case mx x y =>
  grind [vcdOp,vcOp]
 case mn3 x y z =>
  grind [vcdOp,vcOp]
 grind [vcdOp,vcOp]
end Go.Am
namespace Go.Am
open Go
variable [ck]
variable {P:Program}{nt:Nat}
theorem ZB {o:Oper}{t elem:TypeId}{len esz:Nat}{ps:Array (Nat×Operand)}{qs:List (Nat×Arg)}{zd:D}(ho:o.op=.buildSlice t len ps) (hu:P.underlying t=some (.slice elem))
  (ht:(P.info? elem).map (·.size)=some esz) (hpos:0<esz) (hz:eJ P elem=some zd) (hsz:zd.cells.length=esz) (hq:cPartsS len ps.toList=some qs) (hmax:len*esz<=16777216)
  (hd:∀i,o.dst=some i->i<nt) {K:D->Prop}{e:LEnv}{h:Heap}{fz:Bool}(hv:vcdOp P (.bldS fz esz len zd qs) K e h) :
  MR P nt o (λ t' h'=>∃d,t'=(e.put o.dst d).get/\K d/\h'=h) e.get h:=by
 obtain⟨z,c5,W⟩:=gC hz;intro c8 r c w a Q hh hp hr hs;subst hh;simp only[vcdOp,Hl,Wa]at hv;obtain⟨c2,T,c4,hk⟩:=hv;obtain⟨hlen,U⟩:=wY hq
 have V:∀(k:Nat) (p:Nat×Operand) (q:Nat×Arg),ps.toList[k]?=some p->qs[k]?=some q->aA c (q.2.get e) (a.eval p.2)/\aD (q.2.get e)/\(q.2.get e).cells.length=esz:=by
  grind [aH]
 let els:=setEls (List.replicate len zd) (qs.map λ p=>(p.1,p.2.get e))
 have G:∀e,e∈List.replicate len zd->e.cells.length=esz:=λ e he=>by grind
 have I:∀p,p∈qs.map (λ p=>(p.1,p.2.get e))->p.2.cells.length=esz/\p.1<(List.replicate len zd).length:=by
  grind
 have H:∀e∈els,e.cells.length=esz:=DP _ G (λ p hp=>(I p hp).1);have c1:els.length=len:=by grind [DQ]
 have c3:=dB (gP W c) (gz W)
 let S:=(Array.range (len*esz)).map (λ k=>z.cells[k % z.cells.size]!)
 let vals:List (Nat×Value):=ps.toList.map λ p=>(p.1,a.eval p.2)
 obtain⟨u,g1,g2,g3⟩:=KT (c:=c) (λ i=>some (i*esz,esz)) vals ((qs.map λ p=>(p.1,p.2.get e)).map λ p=>(p.1*esz,esz,p.2.cells)) S (flat (List.replicate len zd)) (Mf c3 hsz hpos)
  (by simp[vals,hlen]) (by
   intro k p q a7 a2;simp only[vals,List.getElem?_map,Option.map_eq_some_iff]at a7 a2;obtain⟨p',a8,rfl⟩:=a7;obtain⟨e1,⟨q',a5,rfl⟩,rfl⟩:=a2;obtain⟨s1,s2,s3⟩:=U k p' q' a8 a5;obtain⟨f1,f2,f3⟩:=V k p' q' a8 a5;refine⟨by simp[s1],dB f1 f2,f3,?_⟩;rw[bm G];simp only[List.length_replicate];have:=Nat.mul_le_mul_right esz (show q'.1+1<=len from s3)
   grind)
 rw[Ef _ G I]at g2
 have e4:u.size=len*esz:=by
  have:=g2.len;grind [bm]
 have a1:(execOp a.eval o).run P w=.ok (.value (.slice (some ⟨w.heap.size,0,none⟩) len len)) (w.alloc (.cells u elem)):=by
  have Z:ps.map (λ(i,x)=>(i,a.eval x))=vals.toArray:=by apply Array.ext';simp[vals]
  by_cases h0:len*esz=0
  ·have c6:S = #[]:=by grind
   rw[c6]at g1;simp[execOp,ho,Z,Instr.buildSlice,run_underlying hu,run_sizeOf ht,h0,Array.range_zero',g1,cA]
  ·simp[execOp,ho,Z,Instr.buildSlice,run_underlying hu,run_sizeOf ht,h0,show ¬(16777216<len*esz) by omega,bB c5,S]at g1 ⊢;simp[g1,cA]
 have E:=BZ hr (.cells u elem);have heap:(w.alloc (.cells u elem)).heap=c.hp.push (.cells u elem):=by rw[hp];rfl
 have O:∀i j d,aP els i j=some d->d.vone=true:=by
  have mem:∀(l:List (Nat×D)) (e0:List D),(∀y∈e0,∀x∈y.cells,x.vone=true)->(∀p∈l,∀x∈p.2.cells,x.vone=true)->∀y,y∈setEls e0 l->∀x∈y.cells,x.vone=true:=by
   intro l
   induction l with
   | nil=>intro e0 h1 _;exact h1
   | cons p r ih =>
    intro e0 h1 h2;obtain⟨i,d⟩:=p;refine ih _ (λ y hy=>?_) (λ q hq=>h2 q (by simp[hq]));rcases List.mem_or_eq_of_mem_set hy with h|h
    ·exact h1 y h
    ·rw[h];exact h2 (i,d) (by simp)
  intro i j d hd;unfold aP at hd
  cases hz:els[i]? with
  | none=>simp[hz]at hd
  | some y =>
   simp only[hz,Option.bind_some]at hd;refine mem _ _ (λ y hy=>by grind) (λ p a6=>?_) y (aK hz) d (aK hd);simp only[List.mem_map]at a6;obtain⟨q,c7,rfl⟩:=a6;exact T q c7
 have hrel:aA ⟨c.ρ,c.X,c.h,c.hp.push (.cells u elem)⟩ (.sl els) (.slice (some ⟨w.heap.size,0,none⟩) len len):=by
  have c9:len<=maxLen:=by unfold maxLen;have:=Nat.le_mul_of_pos_right len hpos;omega
  by_cases h0:len=0
  ·have:els=[]:=List.eq_nil_of_length_eq_zero (by omega);rw[this,h0];exact .yA _ _ (by simp[maxLen])
  ·have:=aA.sl (c:=⟨c.ρ,c.X,c.h,c.hp.push (.cells u elem)⟩) els w.heap.size 0 len esz (λ i j=>u.getD (i*esz+j) Go.undef) (by grind) (by omega) c9 hpos H O
    (λ i j d hd=>by
     rw[Nat.zero_add];refine jY (ty:=elem) (fr:=(0,0)) (by grind) ?_;have:=(aq.1 (jd H hd)).1
     grind [bm]) ?_ (λ i j d hd=>by
     obtain⟨_,p2⟩:=g2.rel _ d (jd H hd);rw[aO]at p2
     exact p2.mono E.1)
   ·rw[c1]at this;exact this
   ·rintro (hX|⟨n,hm,hρ⟩)
    ·have:=hr.xlt _ hX;rw[hp]at this;omega
    ·have:=nY hr hm hρ;rw[hp]at this;omega
 refine kx c8 a1 ?_;refine⟨c.ρ,(e.put o.dst (.sl els)).get,c.h,by rw[heap];exact E.1,by rw[heap];exact E.2,⟨rfl,rfl,rfl⟩,?_,.sl els,rfl,hk,rfl⟩;rw[heap,LEnv.bu];exact(hs.mono E.1).put hd hrel
theorem ac8 {o:Oper}{t elem:TypeId}{x y:Operand}{x' y':Arg}{i:TypeInfo}{zd:D}(ho:o.op=.makeSlice t x y) (hx:cArg x=some x') (hy:cArg y=some y') (hd:∀i,o.dst=some i->i<nt)
  (hu:P.underlying t=some (.slice elem)) (hi:P.info? elem=some i) (hz:eJ P elem=some zd) (hsz:zd.cells.length=i.size) (hpos:0<i.size) {K:D->Prop}{e:LEnv}{h:Heap}(hv:vcdOp P (.mk i.size i.bytes zd x' y') K e h) :
  MR P nt o (λ t' h'=>∃d,t'=(e.put o.dst d).get/\K d/\h'=h) e.get h:=by
 obtain⟨z,a5,O⟩:=gC hz;intro a8 r c w a Q hh hp hr hs;subst hh;simp only[vcdOp]at hv;have rx:=aH hx hs;have ry:=aH hy hs;generalize c6:x'.get e=dx at hv rx;generalize c5:y'.get e=dy at hv ry;unfold vint at hv;split at hv
 case h_2=>exact hv.elim
 rename_i k l;split at hv
 case h_2=>exact hv.elim
 rename_i k' m;obtain⟨⟨h0,h1,h2,h3⟩,⟨_,G⟩,hk⟩:=hv;have ex:=gO rx;have ey:=gO ry;have I:=dB (gP O c) (gz O);have a2:z.cells.size=i.size:=by rw[<- hsz, <- I.len];simp
 have wl:IntKind.i64.wrap l=l:=by grind [IntKind.wrap,IntKind.bits]
 have wm:IntKind.i64.wrap m=m:=by grind [IntKind.wrap,IntKind.bits]
 have a1:¬(m<0):=by omega
 have Z:¬((i.bytes:Int)*m>281474976710656):=by rw[Int.mul_comm];omega
 have W:¬(l<0):=by omega
 have V:¬(l>m):=by omega
 have E:¬(m.toNat*i.bytes>140737488355328):=by
  grind
 let vs:=(Array.range (m.toNat*i.size)).map (λ k=>z.cells[k % z.cells.size]!)
 have a6:vs.size=m.toNat*i.size:=by simp[vs]
 have c4:l.toNat*i.size<=m.toNat*i.size:=Nat.mul_le_mul_right _ (by omega)
 have T:(execOp a.eval o).run P w=.ok (.value (.slice (some ⟨w.heap.size,0,none⟩) l.toNat m.toNat)) (w.alloc (.cells vs elem)):=by
  have S:(P.info? elem).map (·.size)=some i.size:=by simp[hi]
  by_cases h:m.toNat*i.size=0
  ·have a7:vs = #[]:=by grind
   rw[a7];simp[execOp,ho,ex,ey,Instr.makeSlice,run_underlying hu,asInt,asIntOf,run_typeInfo hi,wl,wm,a1,Z,W,V,askRoom,E,run_sizeOf S,h,cA,Array.range_zero']
  ·simp[execOp,ho,ex,ey,Instr.makeSlice,run_underlying hu,asInt,asIntOf,run_typeInfo hi,wl,wm,a1,Z,W,V,askRoom,E,run_sizeOf S,h,bB a5,cA,vs]
 have u:=BZ hr (.cells vs elem);have heap:(w.alloc (.cells vs elem)).heap=c.hp.push (.cells vs elem):=by rw[hp];rfl
 have hrel:aA ⟨c.ρ,c.X,c.h,c.hp.push (.cells vs elem)⟩ (.sl (List.replicate l.toNat zd)) (.slice (some ⟨w.heap.size,0,none⟩) l.toNat m.toNat):=by
  have U:m.toNat<=maxLen:=by unfold maxLen;omega
  by_cases c2:l.toNat=0
  ·rw[c2];exact .yA _ _ U
  ·have H:∀(a b:Nat) (d:D),aP (List.replicate l.toNat zd) a b=some d->a<l.toNat/\b<i.size/\zd.cells[b]?=some d/\a*i.size+b<m.toNat*i.size:=by
    intro a b d hd;obtain⟨q1,q2⟩:=iu hd;have hb:b<i.size:=by rw[<- hsz];exact(aq.1 q2).1
    have c3:a<l.toNat:=by
     unfold aP at hd
     cases hz:(List.replicate l.toNat zd)[a]? with
     | none=>simp[hz]at hd
     | some y=>simpa using (aq.1 hz).1
    have:(a+1)*i.size<=l.toNat*i.size:=Nat.mul_le_mul_right _ (by omega);rw[Nat.add_mul]at this;exact⟨c3,hb,q2,by omega⟩
   have:=aA.sl (c:=⟨c.ρ,c.X,c.h,c.hp.push (.cells vs elem)⟩) (List.replicate l.toNat zd) w.heap.size 0 m.toNat i.size (λ a b=>vs.getD (a*i.size+b) Go.undef) (by intro e0;have:=congrArg List.length e0;simp at this;omega) (by simp;omega) U hpos
    (λ e he=>by rw[List.eq_of_mem_replicate he];exact hsz) (λ a b d hd=>G d (aK (H a b d hd).2.2.1))
    (λ a b d hd=>by
     rw[Nat.zero_add];refine jY (ty:=elem) (fr:=(0,0)) (by simp only;rw[<- hp];exact mF _ _) ?_
     rw[a6];exact(H a b d hd).2.2.2) ?_ (λ a b d hd=>by
     obtain⟨q0,hb,q2,c1⟩:=H a b d hd;obtain⟨p1,p2⟩:=I.rel b d q2;rw[Ku z.cells (by omega) _ _ c1,a2]
     have:(a*i.size+b) % i.size=b:=by
      rw[Nat.mul_comm,Nat.mul_add_mod];exact Nat.mod_eq_of_lt hb
     rw[this, <- aO]
     exact p2.mono u.1)
   ·simpa using this
   ·rintro (hX|⟨n,hm,hρ⟩)
    ·have:=hr.xlt _ hX;rw[hp]at this;omega
    ·have:=nY hr hm hρ;rw[hp]at this;omega
 refine kx a8 T ?_;refine⟨c.ρ,(e.put o.dst (.sl (List.replicate l.toNat zd))).get,c.h,by rw[heap];exact u.1,by rw[heap];exact u.2,⟨rfl,rfl,rfl⟩,?_,.sl (List.replicate l.toNat zd),rfl,hk,rfl⟩;rw[heap,LEnv.bu];exact(hs.mono u.1).put hd hrel
theorem Sj {op:AOp}(hval:op.isVal=true) (hb:∀a b c d e,op≠.bldS a b c d e) (hc:∀f as,op≠.call f as) (hmk:∀a b c d e,op≠.mk a b c d e){K:HKq}{e:LEnv}{h:Heap}(hv:vcOp P op (λ d _=>K d h) e h):vcOp P op K e h:=by
 cases op<;>simp only[AOp.isVal]at hval<;>first
  | (cases hval;done)
  | exact hv
  | exact absurd rfl (hb _ _ _ _ _)
  | exact absurd rfl (hc _ _)
  | exact absurd rfl (hmk _ _ _ _ _)
def AOp.plainVal:AOp->Bool
 | .bldS _ _ _ _ _=>false
 | .mk _ _ _ _ _=>false
 | .call _ _=>false
 | op=>op.isVal
def cdOp (P:Program) (o:Oper):Option AOp :=
 match o.op with
 | .buildSlice t len ps=>match P.underlying t with
  | some (.slice e)=>match (P.info? e).map (·.size),eJ P e,cPartsS len ps.toList with
   | some n,some z,some qs=>if 0<n/\z.cells.length=n/\len*n<=16777216 then some (.bldS false n len z qs) else none
   | _,_,_=>none
  | _=>none
 | .call { callee:=.value (.func f),args:=args,argTypes:=_ }=>if de P f then(args.toList.mapM cArg).map (.call f) else none
 | .makeSlice t x y=>match P.underlying t with
  | some (.slice e)=>match P.info? e,eJ P e,cArg x,cArg y with
   | some i,some z,some x,some y=>if z.cells.length=i.size/\0<i.size then some (.mk i.size i.bytes z x y) else none
   | _,_,_,_=>none
  | _=>none
 | _=>match cOp P false o with
  | some op=>if op.plainVal then some op else none
  | none=>none
theorem WJ {o:Oper}{op:AOp}(hcop:cOp P false o=some op) (hpl:op.plainVal=true) (hd:∀i,o.dst=some i->i<nt){K:D->Prop}{e:LEnv}{h:Heap}(hv:vcdOp P op K e h) :
  MR P nt o (λ t' h'=>∃d,t'=(e.put o.dst d).get/\K d/\h'=h) e.get h:=by
 have u:op.isVal=true:=by cases op<;>simp_all [AOp.plainVal,AOp.isVal]
 have plain:vcOp P op (λ d _=>K d/\h=h) e h->MR P nt o (λ t' h'=>∃d,t'=(e.put o.dst d).get/\K d/\h'=h) e.get h:=by
  intro hv;have:=u6 (nt:=nt) hcop hd (λ d h'=>K d/\h'=h) e h (Sj u (by rintro a b c d e rfl;simp[AOp.plainVal]at hpl) (by rintro f as rfl;simp[AOp.plainVal]at hpl) (by rintro a b c d e rfl;simp[AOp.plainVal]at hpl) hv);refine kV ?_ this;rintro t' h' ⟨d,rfl,hk,rfl⟩;exact⟨d,rfl,hk,rfl⟩
 obtain⟨d,hk,E⟩:=qB u hv;have again:=E h (by split;exact cI.Ki;exact λ n _=>rfl) (λ d=>K d/\h=h) ⟨hk,rfl⟩;cases op<;>simp only[AOp.plainVal,AOp.isVal]at hpl<;>try (cases hpl;done)
 case fadd x off =>
  refine plain ?_;simp only[vcdOp]at again;simp only[vcOp];cases hx:x.get e<;>simp only[hx]at again ⊢<;>try exact again.elim
  ·exact again
  ·exact again
 case nilq neg x =>
  refine plain ?_;simp only[vcdOp]at again;simp only[vcOp];cases hx:x.get e<;>simp only[hx]at again ⊢<;>try exact again.elim
  ·exact again
  ·rename_i xs
   cases xs with
   | nil=>exact again.elim
   | cons d r=>exact again
 all_goals exact plain again
theorem Ad:∀(ns:List Nat){h:Heap},Wt h ns->h.freezeAll ns=h
 | [],_,_=>rfl
 | n::r,h,u=>by
  obtain⟨e,l,hn⟩:=u n (List.mem_cons_self);have:h.freeze n=h:=by unfold Heap.freeze;rw[hn]
  simp only[Heap.freezeAll,this];exact Ad r λ m hm=>u m (List.mem_cons_of_mem _ hm)
theorem ZA {o:Oper}{f:FuncId}{args:Array Operand}{ats:Array TypeId}{args':List Arg}(ho:o.op=.call { callee:=.value (.func f),args:=args,argTypes:=ats }) (ha:args.toList.mapM cArg=some args')
  (hd:∀i,o.dst=some i->i<nt) (hf:de P f=true) {K:D->Prop}{e:LEnv}{h:Heap}(hv:vcdOp P (.call f args') K e h) :
  MR P nt o (λ t' h'=>∃d,t'=(e.put o.dst d).get/\K d/\h'=h) e.get h:=by
 simp only[vcdOp,Eh]at hv;obtain⟨r,h1,h2,h3,h4⟩:=hv
 have u:ag P f (args'.map (·.get e)) h λ d h'=>K d/\h'=h:=by
  refine ag.mono ?_ (mW (ds:=args'.map (·.get e)) (K:=(· = r)) (by rw[List.map_map];exact h1) (λ d hd=>?_))
  ·rintro d h' ⟨rfl,G,E⟩;refine⟨h4,?_⟩;by_cases hc:d.flat=true\/(args'.map (·.get e)).flatMap D.nm=[]
   ·exact G hc
   ·rw[E hc];rcases h3 with h3|h3
    ·exact absurd (Or.inl h3) hc
    ·refine Ad _ λ n hn=>h3 n ?_
     rw[List.flatMap_map]at hn;exact hn
  ·simp only[List.mem_map]at hd;obtain⟨x,hx,rfl⟩:=hd;exact h2 x hx
 have:=T4 (nt:=nt) ho ha hd hf (λ d h'=>K d/\h'=h) e h u;refine kV ?_ this;rintro t' h' ⟨d,rfl,hk,rfl⟩;exact⟨d,rfl,hk,rfl⟩
theorem Eg {o:Oper}{op:AOp}(hc:cdOp P o=some op) (hd:∀i,o.dst=some i->i<nt){K:D->Prop}{e:LEnv}{h:Heap}(hv:vcdOp P op K e h) :
  MR P nt o (λ t' h'=>∃d,t'=(e.put o.dst d).get/\K d/\h'=h) e.get h:=by
 unfold cdOp at hc;split at hc
 ·rename_i t len ps ho;split at hc
  ·rename_i el hu;split at hc
   ·rename_i h1 h2 h3;split at hc
    ·rename_i u;simp at hc;subst hc;exact ZB ho hu h1 u.1 h2 u.2.1 h3 u.2.2 hd hv
    ·cases hc
   ·cases hc
  ·cases hc
 ·rename_i f args I ho;split at hc
  ·rename_i H;simp at hc;obtain⟨ys,hy,rfl⟩:=hc;exact ZA ho hy hd H hv
  ·cases hc
 ·rename_i t x y ho;split at hc
  ·rename_i el hu;split at hc
   ·rename_i i z Q O h1 h2 h3 h4;split at hc
    ·rename_i u;simp at hc;subst hc;exact ac8 ho h3 h4 hd hu h1 h2 u.1 u.2 hv
    ·cases hc
   ·cases hc
  ·cases hc
 ·split at hc
  ·rename_i G hop;split at hc
   ·rename_i E;simp at hc;subst hc;exact WJ hop E hd hv
   ·cases hc
  ·cases hc
theorem wW {o:Oper}{op:AOp}(h:cdOp P o=some op):∀c,o.op≠.defer c:=by
 intro c hc;simp[cdOp,cOp,cOp0,cOpM,deadOp,hc]at h
theorem jZ {o:Oper}{op:AOp}(hc:cdOp P o=some op):op.isVal=true:=by
 unfold cdOp at hc;split at hc
 ·split at hc
  ·split at hc
   ·split at hc
    ·simp at hc;subst hc;rfl
    ·cases hc
   ·cases hc
  ·cases hc
 ·split at hc
  ·simp at hc;obtain⟨ys,_,rfl⟩:=hc;rfl
  ·cases hc
 ·split at hc
  ·split at hc
   ·split at hc
    ·simp at hc;subst hc;rfl
    ·cases hc
   ·cases hc
  ·cases hc
 ·split at hc
  ·rename_i u _;split at hc
   ·rename_i E;simp at hc;subst hc;cases u<;>simp_all [AOp.plainVal,AOp.isVal]
   ·cases hc
  ·cases hc
end Go.Am
namespace Go.Am
open Go
variable [ck]
variable {P:Program}{nt:Nat}
def AOper.rd (a:AOper):List Nat:=a.op.reads++(match a.guard with|some (g,_)=>[g]|none=>[])
def ValRdy (P:Program) (a:AOper) (e:LEnv) (h:Heap):Prop :=
 ∃d,(∀s,a.dst=some s->e.get s=d)/\match a.guard with
  | none=>∀K':D->Prop,K' d->vcdOp P a.op K' e h
  | some (g,want)=>∃b,gv (e.get g)=some b/\(b=some want->∀K':D->Prop,K' d->vcdOp P a.op K' e h)/\(b≠some want->d=gU)
theorem ValRdy.congr {a:AOper}{e e':LEnv}{h:Heap}(hrd:∀i∈a.rd,e.get i=e'.get i) (hd:∀s,a.dst=some s->e'.get s=e.get s) (hv:ValRdy P a e h):ValRdy P a e' h:=by
 obtain⟨d,h1,h2⟩:=hv;refine⟨d,λ s hs=>(hd s hs).trans (h1 s hs),?_⟩;have hop:∀i∈a.op.reads,e.get i=e'.get i:=λ i hi=>hrd i (by simp[AOper.rd,hi])
 cases hg:a.guard with
 | none=>rw[hg]at h2;exact λ u hk=>jN hop u h (h2 u hk)
 | some p =>
  obtain⟨g,want⟩:=p;rw[hg]at h2;obtain⟨b,H,G,E⟩:=h2;exact⟨b,by grind [AOper.rd],λ hb u hk=>jN hop u h (G hb u hk),E⟩
theorem ValRdy.ext {a:AOper}(hval:a.op.isVal=true){e:LEnv}{h h':Heap}(hx:if a.op.stable then cI h h' else Ext h h') (hv:ValRdy P a e h):ValRdy P a e h':=by
 obtain⟨d,h1,h2⟩:=hv
 have step:(∀u:D->Prop,u d->vcdOp P a.op u e h)->∀u:D->Prop,u d->vcdOp P a.op u e h':=by
  intro hk u G;obtain⟨d',rfl,E⟩:=qB hval (hk (· = d) rfl);exact E h' hx u G
 refine⟨d,h1,?_⟩;grind
theorem Ob:∀(vals:List AOper),(∀a∈vals,a.op.isVal=true)->(∀a∈vals,∀s,a.dst=some s->s∉a.rd)->vals.Pairwise (λ a b=>∀s,b.dst=some s->a.dst≠some s/\s∉a.rd) ->
  ∀{K:LEnv->Heap->Prop}{e:LEnv}{h:Heap},vcVals P vals K e h->∃T:LEnv,K T h/\(∀s,(∀a∈vals,a.dst≠some s)->T.get s=e.get s)/\∀a∈vals,ValRdy P a T h:=by
 intro vals
 induction vals with
 | nil=>intro _ _ _ K e h H;exact⟨e,H,λ _ _=>rfl,by simp⟩
 | cons a r ih =>
  intro E G Q K e h H;rw[List.pairwise_cons]at Q;obtain⟨a2,Z⟩:=Q;have W:=λ e'=>@ih (λ b hb=>E b (by simp[hb])) (λ b hb=>G b (by simp[hb])) Z K e' h
  have fin:∀d,vcVals P r K (e.put a.dst d) h->(match a.guard with
    | none=>∀u:D->Prop,u d->vcdOp P a.op u e h
    | some (g,want)=>∃b,gv (e.get g)=some b/\(b=some want->∀u:D->Prop,u d->vcdOp P a.op u e h)/\(b≠some want->d=gU)) ->
    ∃T:LEnv,K T h/\(∀s,(∀b,b∈a::r->b.dst≠some s)->T.get s=e.get s)/\∀b,b∈a::r->ValRdy P b T h:=by
   intro d hr hm;obtain⟨T,t1,t2,t3⟩:=W _ hr
   have S:∀s,a.dst≠some s->(e.put a.dst d).get s=e.get s:=by
    intro s hs;rw[LEnv.bu]
    cases hd:a.dst with
    | none=>rfl
    | some j =>
     have:s≠j:=by rintro rfl;exact hs hd
     simp[Env.put,ak,this]
   have a1:∀i∈a.rd,T.get i=e.get i:=by
    grind
   refine⟨T,t1,λ s hs=>?_,λ b hb=>?_⟩
   ·grind
   ·rcases List.mem_cons.1 hb with rfl|hb
    ·refine ValRdy.congr (e:=e.put b.dst d) (λ i hi=>?_) (λ s hs=>?_) ⟨d,λ s hs=>by rw[LEnv.bu,hs];simp[Env.put,ak],?_⟩
     ·grind
     ·grind
     ·have hop:∀i∈b.rd,e.get i=(e.put b.dst d).get i:=λ i hi=>(S i (λ hd=>G b (by simp) i hd hi)).symm
      have O:∀i∈b.op.reads,e.get i=(e.put b.dst d).get i:=λ i hi=>hop i (by simp[AOper.rd,hi])
      cases hg:b.guard with
      | none=>rw[hg]at hm;exact λ u hk=>jN O u h (hm u hk)
      | some p =>
       obtain⟨g,want⟩:=p;rw[hg]at hm;obtain⟨x,q1,q2,q3⟩:=hm;exact⟨x,by grind [AOper.rd],λ hx u hk=>jN O u h (q2 hx u hk),q3⟩
    ·exact t3 b hb
  simp only[vcVals,wh,aj]at H
  cases hg:a.guard with
  | none =>
   simp only[hg]at H fin;obtain⟨d,V,U⟩:=qB (E a (by simp)) H;exact fin d V (λ u hk=>U h (by split;exact cI.Ki;exact λ n _=>rfl) u hk)
  | some p =>
   obtain⟨g,want⟩:=p;simp only[hg]at H fin;cases hb:gv (e.get g)<;>simp only[hb]at H<;>try exact H.elim
   rename_i b;by_cases I:b=some want
   ·obtain⟨d,V,U⟩:=qB (E a (by simp)) (H.1 I);exact fin d V ⟨b,hb,λ _ u hk=>U h (by split;exact cI.Ki;exact λ n _=>rfl) u hk,λ hne=>absurd I hne⟩
   ·exact fin gU (H.2 I) ⟨b,hb,λ h=>absurd h I,λ _=>rfl⟩
def AOp.isTail:AOp->Bool
 | .alloc _=>true
 | .box _=>true
 | .mk _ _ _ _ _=>true
 | .st _ _ _=>true
 | .app _ _ _ _ _=>true
 | .MK _ _ _=>true
 | .mkm _=>true
 | .mupd _ _ _ _=>true
 | .mov _=>true
 | .fadd _ _=>false
 | op=>op.plainVal
def AOp.mut:AOp->Bool
 | .st _ _ _=>true
 | .app _ _ _ _ _=>true
 | .MK _ _ _=>true
 | .mupd _ _ _ _=>true
 | _=>false
theorem wV {h:Heap}{n:Nat}(hn:h n=.free) (s:Slot):Ext h (ak h n s):=by
 intro k hk;grind [ak]
theorem hO {x:D}{K K':Int->Prop}(hk:∀i,K i->K' i) (h:vint x K):vint x K':=by
 unfold vint at h ⊢;grind
theorem gZ {e:LEnv}{x:Option Arg}{n:Nat}{K K':Int->Prop}(hk:∀i,K i->K' i) (h:vopt e x n K):vopt e x n K':=by
 cases x with
 | none=>exact hk _ h
 | some a=>exact hO hk h
theorem we {cs:List D}{o s:Nat}{g:Bool}{K K':D->Prop}(hk:∀i,K i->K' i) (h:vpart cs o s g K):vpart cs o s g K':=by
 grind [vpart]
theorem Sh {x:D}{h:Heap}{K K':D->Prop}(hk:∀i,K i->K' i) (hv:bq x h K):bq x h K':=by
 unfold bq at hv ⊢;grind
theorem zr {n:Nat}{x:D}{h:Heap}{K K':List D->Prop}(hk:∀i,K i->K' i) (hv:velems n x h K):velems n x h K':=by
 unfold velems at hv ⊢;grind
theorem Sk {op:BinOp}{x y:D}{K K':D->Prop}(hk:∀i,K i->K' i) (h:vbin op x y K):vbin op x y K':=by
 grind [Oa]
theorem TH {op:UnOp}{x:D}{K K':D->Prop}(hk:∀i,K i->K' i) (h:vun op x K):vun op x K':=by
 grind [QW]
theorem uz {op:AOp}{K K':HKq}(hk:∀d h',K d h'->K' d h'){e:LEnv}{h:Heap}(hv:vcOp P op K e h):vcOp P op K' e h:=by
 cases op<;>simp only[vcOp]at hv ⊢
 case mov x=>exact hk _ _ hv
 case pick c a b=>grind
 case bin op x y=>grind [Sk]
 case eqv neg agg ks x y =>
  grind [veqv]
 case un op x=>grind [TH]
 case conv k x=>grind [hO]
 case ext x i =>
  grind
 case fld x o s g=>grind [we]
 case bld z ps=>exact⟨hv.1,hk _ _ hv.2⟩
 case bldS fz esz len z ps=>grind
 case len x=>grind [Sh]
 case slen x=>grind
 case fadd x o =>
  grind
 case iadd x i n =>
  refine hO (λ i hi=>?_) hv;grind
 case iadda x i l n =>
  grind [hO]
 case sidx x i len size agg =>
  refine hO (λ i hi=>?_) hv;grind [we]
 case ld x s g =>
  cases hc:x.get e<;>simp only[hc]at hv ⊢
  ·grind [we]
  grind [we]
 case st x v s =>
  grind
 case alloc z=>grind
 case box x=>grind
 case mk esz b z l c=>exact hO (λ i hi=>hO (λ j u=>⟨u.1,u.2.1,u.2.2.1,u.2.2.2.1,λ n t=>hk _ _ (u.2.2.2.2 n t)⟩) hi) hv
 case GQ x lo hi mx n =>
  cases hc:x.get e<;>simp only[hc]at hv ⊢
  ·exact gZ (λ _ h1=>gZ (λ _ h2=>gZ (λ _ h3=>⟨h3.1,h3.2.1,h3.2.2.1,hk _ _ h3.2.2.2⟩) h2) h1) hv
  ·exact gZ (λ _ h1=>gZ (λ _ h2=>gZ (λ _ h3=>⟨h3.1,h3.2.1,h3.2.2.1,h3.2.2.2.1,h3.2.2.2.2.1,hk _ _ h3.2.2.2.2.2⟩) h2) h1) hv
  ·exact gZ (λ _ h1=>gZ (λ _ h2=>gZ (λ _ h3=>⟨h3.1,h3.2.1,h3.2.2.1,h3.2.2.2.1,h3.2.2.2.2.1,hk _ _ h3.2.2.2.2.2⟩) h2) h1) hv
 case nilq neg x =>
  grind
 case slz x n =>
  grind
 case sla x n =>
  grind
 case mkc b l c=>exact hO (λ i hi=>hO (λ j u=>⟨u.1,u.2.1,u.2.2.1,u.2.2.2.1,hk _ _ u.2.2.2.2⟩) hi) hv
 case b2s x =>
  grind [zr]
 case sslc x lo hi =>
  cases hc:x.get e<;>simp only[hc]at hv ⊢;exact gZ (λ _ h1=>gZ (λ _ h2=>⟨h2.1,h2.2.1,h2.2.2.1,hk _ _ h2.2.2.2⟩) h1) hv
 case app s x esz b z =>
  refine zr (λ ys hy=>⟨hy.1,?_⟩) hv;have hy:=hy.2;cases hc:s.get e<;>simp only[hc]at hy ⊢
  ·grind
  grind
 case MK d s n =>
  refine zr (λ ys hy=>⟨hy.1,?_⟩) hv;grind
 case clr x n z=>grind
 case call f as=>exact ag.mono hk hv
 case callv x as =>
  grind [ag.mono,uq.mono]
 case mkf f a b=>exact hk _ _ hv
 case mkm kt=>grind
 case look kt x k z ok =>
  grind
 case mupd kt x k v =>
  grind
 case mn x y =>
  grind
 case mx x y =>
  grind
 case mn3 x y z =>
  grind
 grind
theorem Sm {neg:Bool}{x:Arg}{K:HKq}{e:LEnv}{h:Heap}(hv:vcOp P (.nilq neg x) K e h):vcOp P (.nilq neg x) (λ d h'=>K d h'/\h'=h) e h:=by
 grind [vcOp]
theorem PO {op:AOp}(hp:op.plainVal=true) (hf:∀x o,op≠.fadd x o){K:HKq}{e:LEnv}{h:Heap}(hv:vcOp P op K e h):vcOp P op (λ d h'=>K d h'/\h'=h) e h:=by
 have u:op.isVal=true:=by cases op<;>simp_all [AOp.plainVal,AOp.isVal]
 by_cases hq:∃b x,op=.nilq b x
 ·grind [Sm]
 have E:vcdOp P op (λ d=>K d h) e h:=by
  cases op<;>simp only[AOp.plainVal,AOp.isVal]at hp<;>first
   | (cases hp;done)
   | exact absurd rfl (hf _ _)
   | exact absurd ⟨_,_,rfl⟩ hq
   | exact hv
 obtain⟨d,h1,h2⟩:=qB u E;have r:=h2 h (by split;exact cI.Ki;exact λ n _=>rfl) (λ d=>K d h/\h=h) ⟨h1,rfl⟩
 cases op<;>simp only[AOp.plainVal,AOp.isVal]at hp<;>first
  | (cases hp;done)
  | exact absurd rfl (hf _ _)
  | exact absurd ⟨_,_,rfl⟩ hq
  | exact r
theorem Sn {op:AOp}(ht:op.isTail=true){K:HKq}{e:LEnv}{h:Heap}(hv:vcOp P op K e h):vcOp P op (λ d h'=>K d h'/\if op.mut then cI h h' else Ext h h') e h:=by
 by_cases hp:op.plainVal=true/\∀x o,op≠.fadd x o
 ·grind [uz,PO,cI,Ext]
 cases op<;>simp only[AOp.isTail]at ht<;>first|(cases ht;done)|(exfalso;apply hp;constructor;assumption;intro _ _ h;cases h;done)|skip
 case alloc z=>exact λ n hn=>⟨hv n hn,by simpa[AOp.mut] using wV hn.free _⟩
 case box x=>exact⟨hv.1,λ n hn=>⟨hv.2 n hn,by simpa[AOp.mut] using wV hn.free _⟩⟩
 case mov x=>exact⟨hv,by simp[AOp.mut,Ext]⟩
 case mk esz bytes zero l c =>
  simp only[vcOp]at hv ⊢;grind [cI,Ext,pB,ak]
 case mkm kt=>exact λ n hn=>⟨hv n hn,by simpa[AOp.mut] using wV hn.free _⟩
 case mupd kt x k v =>
  simp only[vcOp]at hv ⊢;refine⟨hv.1,hv.2.1,?_⟩;have h2:=hv.2.2;cases hx:x.get e<;>simp only[hx]at h2 ⊢<;>try exact h2.elim
  grind [AOp.mut,cI,ak]
 case st x v size =>
  simp only[vcOp]at hv ⊢;refine⟨hv.1,hv.2.1,?_⟩;have hv:=hv.2.2;cases hx:x.get e<;>simp only[hx]at hv ⊢<;>try exact hv.elim
  rename_i n i j;cases hn:h n<;>simp only[hn]at hv ⊢<;>try exact hv.elim
  ·refine⟨hv.1,hv.2.1,hv.2.2,?_⟩;simp only[AOp.mut,if_true];exact cI.Ki.ak (by simp)
  ·refine⟨hv.1,hv.2.1,λ d hd=>⟨hv.2.2 d hd,?_⟩⟩;simp only[AOp.mut,if_true];exact cI.Ki.ak (by simp)
 case app s x esz bytes zero =>
  simp only[vcOp,velems]at hv ⊢
  have key:∀ys:List D,(match s.get e with
    | .nil=>(ys.length*bytes<=140737488355328/\ys.length<=9223372036854775807)/\∀n,pB h n->K (.ms n 0 ys.length) (ak h n (.arr esz ys))
    | .ms m off len=>∃els,HB h m esz els/\off+len=els.length/\((len+ys.length)*bytes<=140737488355328/\len+ys.length<=9223372036854775807) /\
      ∀n,pB h n->K (.ms n 0 (len+ys.length)) (ak (ak h m .dead) n (.arr esz (els.drop off++ys)))/\(off≠0->K (.ms n off (len+ys.length)) (ak (ak h m .dead) n (.arr esz (els++ys))))
    | _=>False)->(match s.get e with
    | .nil=>(ys.length*bytes<=140737488355328/\ys.length<=9223372036854775807)/\∀n,pB h n->(K (.ms n 0 ys.length) (ak h n (.arr esz ys))/\if(AOp.app s x esz bytes zero).mut then cI h (ak h n (.arr esz ys)) else Ext h (ak h n (.arr esz ys)))
    | .ms m off len=>∃els,HB h m esz els/\off+len=els.length/\((len+ys.length)*bytes<=140737488355328/\len+ys.length<=9223372036854775807) /\
      ∀n,pB h n->(K (.ms n 0 (len+ys.length)) (ak (ak h m .dead) n (.arr esz (els.drop off++ys)))/\if(AOp.app s x esz bytes zero).mut then cI h (ak (ak h m .dead) n (.arr esz (els.drop off++ys))) else Ext h (ak (ak h m .dead) n (.arr esz (els.drop off++ys)))) /\
       (off≠0->(K (.ms n off (len+ys.length)) (ak (ak h m .dead) n (.arr esz (els++ys)))/\if(AOp.app s x esz bytes zero).mut then cI h (ak (ak h m .dead) n (.arr esz (els++ys))) else Ext h (ak (ak h m .dead) n (.arr esz (els++ys)))))
    | _=>False):=by
   intro ys hv;cases hs:s.get e<;>simp only[hs]at hv ⊢<;>try exact hv.elim
   ·exact⟨hv.1,λ n hn=>⟨hv.2 n hn,by simpa[AOp.mut] using (wV hn.free _).box⟩⟩
   ·rename_i m off len;obtain⟨els,hm,u,a3,a4⟩:=hv;refine⟨els,hm,u,a3,λ n hn=>⟨⟨(a4 n hn).1,?_⟩,λ h0=>⟨(a4 n hn).2 h0,?_⟩⟩⟩
    ·simp only[AOp.mut,if_true];exact(cI.Ki.ak (by simp)).ak (by simp)
    ·simp only[AOp.mut,if_true];exact(cI.Ki.ak (by simp)).ak (by simp)
  cases hx:x.get e<;>simp only[hx]at hv ⊢<;>try exact hv.elim
  ·exact⟨hv.1,key _ hv.2⟩
  ·exact⟨hv.1,hv.2.1,key _ hv.2.2⟩
  ·obtain⟨els,b1,b2,b3,b4⟩:=hv;exact⟨els,b1,b2,b3,key _ b4⟩
 case MK d s esz =>
  simp only[vcOp,velems]at hv ⊢
  have key:∀ys:List D,(match d.get e with
    | .ms m off len=>∃els,h m=.arr esz els/\off+len<=els.length/\K (.int .i64 (min ys.length len:Nat)) (ak h m (.arr esz (els.take off++ys.take len++els.drop (off+min ys.length len))))
    | _=>False)->(match d.get e with
    | .ms m off len=>∃els,h m=.arr esz els/\off+len<=els.length/\(K (.int .i64 (min ys.length len:Nat)) (ak h m (.arr esz (els.take off++ys.take len++els.drop (off+min ys.length len)))) /\
      if(AOp.MK d s esz).mut then cI h (ak h m (.arr esz (els.take off++ys.take len++els.drop (off+min ys.length len)))) else Ext h (ak h m (.arr esz (els.take off++ys.take len++els.drop (off+min ys.length len)))))
    | _=>False):=by
   intro ys hv;cases hs:d.get e<;>simp only[hs]at hv ⊢<;>try exact hv.elim
   rename_i m off len;obtain⟨els,hm,u,E⟩:=hv;refine⟨els,hm,u,E,?_⟩;simp only[AOp.mut,if_true];exact cI.Ki.ak (by simp)
  cases hx:s.get e<;>simp only[hx]at hv ⊢<;>try exact hv.elim
  ·exact⟨hv.1,key _ hv.2⟩
  ·exact⟨hv.1,hv.2.1,key _ hv.2.2⟩
  ·obtain⟨els,b1,b2,b3,b4⟩:=hv;exact⟨els,b1,b2,b3,key _ b4⟩
end Go.Am
namespace Go.Am
open Go
variable [ck]
variable {P:Program}{nt:Nat}
def cdOper (P:Program) (nt:Nat) (ops:Array Oper) (o:Oper):Option AOper :=
 if o.dst.all (· < nt) then
  match cdOp P o with
  | some op=>match o.guard with
   | none=>some ⟨o.dst,op,none⟩
   | some (j,want)=>match (ops[j]?).bind (·.dst) with
    | some s=>some ⟨o.dst,op,some (s,want)⟩
    | none=>none
  | none=>none
 else none
def Qq (P:Program) (nt:Nat) (ops:Array Oper) (o:Oper):Option AOper :=
 match cOper P true nt ops o with
 | some a=>if a.op.isTail then some a else none
 | none=>none
structure Item (P:Program) (nt:Nat) (ops:Array Oper) (tail:Bool) (o:Oper) (a:AOper):Prop where
 dst:a.dst=o.dst
 dlt:∀j,o.dst=some j->j<nt
 op:if tail then cOp P true o=some a.op/\a.op.isTail=true else cdOp P o=some a.op
 gn:o.guard=none->a.guard=none
 gs:∀j want,o.guard=some (j,want)->∃s,(ops[j]?).bind (·.dst)=some s/\a.guard=some (s,want)
theorem An {ops:Array Oper}{o:Oper}{a:AOper}(h:cdOper P nt ops o=some a):Item P nt ops false o a:=by
 unfold cdOper at h;split at h
 case isFalse=>cases h
 rename_i G;have hd:∀j,o.dst=some j->j<nt:=by grind
 cases hop:cdOp P o with
 | none=>simp[hop]at h
 | some op =>
  simp only[hop]at h
  cases hg:o.guard with
  | none=>simp[hg]at h;subst h;exact⟨rfl,hd,by simpa using hop,λ _=>rfl,λ j w u=>by rw[hg]at u;cases u⟩
  | some p =>
   obtain⟨j,want⟩:=p;simp only[hg]at h
   cases E:(ops[j]?).bind (·.dst) with
   | none=>simp[E]at h
   | some s=>simp[E]at h;subst h;exact⟨rfl,hd,by simpa using hop,λ u=>by rw[hg]at u;(cases u),λ H w u=>by grind⟩
theorem O7 {ops:Array Oper}{o:Oper}{a:AOper}(h:Qq P nt ops o=some a):Item P nt ops true o a:=by
 unfold Qq at h
 cases hc:cOper P true nt ops o with
 | none=>simp[hc]at h
 | some I =>
  simp only[hc]at h;split at h
  case isFalse=>cases h
  rename_i ht;simp at h;subst h;unfold cOper at hc;split at hc
  case isFalse=>cases hc
  rename_i G;have hd:∀j,o.dst=some j->j<nt:=by grind
  cases hop:cOp P true o with
  | none=>simp[hop]at hc
  | some op =>
   simp only[hop]at hc
   cases hg:o.guard with
   | none=>simp[hg]at hc;subst hc;exact⟨rfl,hd,by simpa using ⟨hop,ht⟩,λ _=>rfl,λ j w u=>by rw[hg]at u;cases u⟩
   | some p =>
    obtain⟨j,want⟩:=p;simp only[hg]at hc
    cases E:(ops[j]?).bind (·.dst) with
    | none=>simp[E]at hc
    | some s=>simp[E]at hc;subst hc;exact⟨rfl,hd,by simpa using ⟨hop,ht⟩,λ u=>by rw[hg]at u;(cases u),λ H w u=>by grind⟩
structure Jq (P:Program) (nt:Nat) (ops:Array Oper) (items:List AOper) (masks:List Nat) (tl:List Nat) (rev:List AOper) (tw:Bool):Prop where
 len:items.length=ops.size
 item:∀(i:Nat) (o:Oper) (a:AOper),ops[i]?=some o->items[i]?=some a->Item P nt ops (tl.contains i) o a
 edge:∀(i:Nat) (o:Oper),ops[i]?=some o->∀e∈o.after.toList,Region.binds .any e=true->e.on<i
 mask:∀(i:Nat) (o:Oper),ops[i]?=some o->∀k,(masks.getD i 0).testBit k=true->∃e,e∈o.after.toList/\Region.binds .any e=true/\(k=e.on\/(masks.getD e.on 0).testBit k=true)
 tlt:∀i∈tl,i<ops.size
 tord:∀l k i i':Nat,tl[l]?=some i->tl[k]?=some i'->l<k->(tw=true/\l=0/\k=1)\/(masks.getD i' 0).testBit i=true
 rdv:∀(i k:Nat) (a b:AOper),items[i]?=some a->items[k]?=some b->i∉tl->∀s,a.dst=some s->(i≠k->b.dst≠some s)/\(s∈b.rd->i<k/\(masks.getD k 0).testBit i=true)
 rdt:∀(i k:Nat) (a b:AOper),items[i]?=some a->items[k]?=some b->i∈tl->k∉tl->∀s,a.dst=some s->s∈b.rd->(masks.getD i 0).testBit k=true
 mt:∀(i k:Nat) (a b:AOper),items[i]?=some a->items[k]?=some b->i∈tl->k∉tl->a.op.mut=true->b.op.stable=false->(masks.getD i 0).testBit k=true\/b∈rev
 rev:∀b∈rev,b.guard=none/\b.op.isVal=true/\b.dst.isSome=true
def cW (listed:Array Bool) (i:Nat):Bool:=listed.getD i true
structure J (P:Program) (nt:Nat) (ops:Array Oper) (items:List AOper) (masks tl:List Nat) (rev:List AOper) (tw:Bool) (c₀:Ctx) (w₀:World) (K:LEnv->Heap->Prop) (listed:Array Bool) (a:Act) (w:World):Prop where
 size:listed.size=ops.size
 dc:∀i k,i<ops.size->cW listed i=true->(masks.getD i 0).testBit k=true->cW listed k=true
 st:∃(ρ:Nat->Option Nat) (h:Heap) (e:LEnv) (j:Nat),c₀.le ⟨ρ,c₀.X,h,w.heap⟩/\au ⟨ρ,c₀.X,h,w.heap⟩/\WS w₀ w/\fV ⟨ρ,c₀.X,h,w.heap⟩ a.defers/\a.tmps.size=nt /\
  (j<=tl.length/\(tw=true->2<=j))/\gL P rev ((tl.drop j).filterMap (λ i=>items[i]?)) K e h /\
  (∀l i,tl[l]?=some i->(cW listed i=true↔l<j)) /\
  (∀s,(∃i b,items[i]?=some b/\i∉tl/\cW listed i=false/\b.dst=some s)\/aA ⟨ρ,c₀.X,h,w.heap⟩ (e.get s) (a.tmps.getD s Go.undef)) /\
  (∀i b,items[i]?=some b->i∉tl->cW listed i=false->ValRdy P b e h)
theorem KJ (l:List Nat) (f:Nat->D) (i:Nat):LEnv.get (l.map λ k=>(k,f k)) i=if i∈l then f i else .undef:=by
 induction l with
 | nil=>rfl
 | cons k r u =>
  grind [LEnv.get]
theorem PG {r:Option Nat}{ops:Array Oper}{Q Q':Exit->Act->World->Prop}(hq:∀e,e≠.normal->Q e=Q' e){i:Nat}{K:Act->World->Prop}{a:Act}{w:World}(h:wpOpIn (rF r) 0 P ops Q i K a w):wpOpIn (rF r) 0 P ops Q' i K a w:=by
 have hl:LetsOut Q=LetsOut Q':=by unfold LetsOut;rw[hq .outgrown (by simp)]
 unfold wpOpIn at h ⊢
 cases ho:ops[i]? with
 | none=>simpa[ho] using h
 | some o =>
  simp only[ho]at h ⊢;split
  ·rename_i hw;rw[if_pos hw]at h;unfold Oper.wpIn at h ⊢;refine⟨h.1,?_⟩;have h:=h.2;generalize (o.semAt (rF r).round a.eval).run P w=res at h ⊢
   cases res with
   | ok n w' =>
    cases n<;>simp only[Oper.uponIn]at h ⊢<;>first
     | exact h
     | grind
     | grind
   | halt x w' =>
    cases x<;>simp only[Oper.uponIn]at h ⊢<;>first
     | exact h
     | grind
  grind
theorem one_op {ops:Array Oper}{i:Nat}{Kenv:Env->Heap->Prop}{t:Env}{c:Ctx}{w:World}{a:Act}{Q:Exit->Act->World->Prop}{K':Act->World->Prop}{r:Option Nat}
  (hx:vc P nt ops [i] Kenv t c.h) (hp:c.hp=w.heap) (hr:au c) (hs:oe c nt t a) (hk:∀a' w',Fin c w nt Kenv a' w'->K' a' w'):wpOpIn (rF r) 0 P ops Q i K' a w:=by
 let Q2:Exit->Act->World->Prop:=λ e=>match e with|.normal=>K'|e=>Q e
 have:=hx r c w a Q2 rfl hp hr hs hk;rw[wpOpsIn_cons]at this;refine PG (Q:=Q2) (λ e he=>?_) this;grind
end Go.Am
namespace Go.Am
open Go
variable [ck]
variable {P:Program}{nt:Nat}
theorem eW {listed:Array Bool}{i k:Nat}(hi:i<listed.size):cW (listed.setIfInBounds i true) k=if k=i then true else cW listed k:=by
 unfold cW;by_cases h:k=i
 ·subst h;simp[Array.getD,hi]
 ·rw[if_neg h];have:i≠k:=λ e=>h e.symm
  by_cases hk:k<listed.size
  ·simp[Array.getD,hk,this]
  ·simp[Array.getD,hk]
theorem XO {ops:Array Oper}{items:List AOper}{masks tl:List Nat}{rev:List AOper}{tw:Bool}(Dk:Jq P nt ops items masks tl rev tw):∀(i:Nat),i<ops.size->∀k,(masks.getD i 0).testBit k=true->k<i:=by
 intro i
 induction i using Nat.strongRecOn with
 | _ i E =>
  intro hi k hk;have ho:ops[i]?=some ops[i]:=by simp[hi]
  obtain⟨e,he,hb,hc⟩:=Dk.mask i _ ho k hk;have u:=Dk.edge i _ ho e he hb;grind
structure Rdy (ops:Array Oper) (masks:List Nat) (listed:Array Bool) (i:Nat):Prop where
 lt:i<ops.size
 un:cW listed i=false
 anc:∀k,(masks.getD i 0).testBit k=true->cW listed k=true
theorem Km {ops:Array Oper}{listed:Array Bool}{i:Nat}(h:i∈Region.ready .any ops listed):i<ops.size/\cW listed i=false/\∀o,ops[i]?=some o->∀e∈o.after.toList,Region.binds .any e=true->listed.getD e.on false=true:=by
 grind [Region.ready,Array.all_eq_true',cW]
theorem JA {ops:Array Oper}{items:List AOper}{masks tl:List Nat}{rev:List AOper}{tw:Bool}(Dk:Jq P nt ops items masks tl rev tw){listed:Array Bool}
  (hsz:listed.size=ops.size) (hdc:∀i k,i<ops.size->cW listed i=true->(masks.getD i 0).testBit k=true->cW listed k=true) {i:Nat}(hi:i∈Region.ready .any ops listed):Rdy ops masks listed i:=by
 obtain⟨h1,h2,h3⟩:=Km hi;refine⟨h1,h2,λ k hk=>?_⟩;have ho:ops[i]?=some ops[i]:=by simp[h1]
 obtain⟨e,he,hb,hc⟩:=Dk.mask i _ ho k hk;grind [cW]
theorem Z3 {ops:Array Oper}{items:List AOper}{masks tl:List Nat}{rev:List AOper}{tw:Bool}(Dk:Jq P nt ops items masks tl rev tw){c₀:Ctx}{w₀:World}{K:LEnv->Heap->Prop}{listed:Array Bool}{a:Act}{w:World}
  (hJ:J P nt ops items masks tl rev tw c₀ w₀ K listed a w) {i:Nat}(hi:i∈Region.ready .any ops listed):Rdy ops masks listed i :=
 JA Dk hJ.size hJ.dc hi
theorem BN:∀{rev:List AOper},(∀b∈rev,b.guard=none/\b.op.isVal=true)->∀{e:LEnv}{h:Heap},HP P rev e h->∀b∈rev,b.dst.isSome=true->ValRdy P b e h
 | [],_,_,_,_,b,hb,_=>by simp at hb
 | x::r,u,e,h,O,b,hb,G=>by
  rcases List.mem_cons.1 hb with rfl|hb
  ·obtain⟨U,T⟩:=u b (by simp);have E:=O.1
   cases hd:b.dst with
   | none=>rw[hd]at G;cases G
   | some s =>
    rw[hd]at E;simp only[JT]at E;obtain⟨d',hk,H⟩:=qB T E
    have I:d'=e.get s:=by
     have:[d']=[e.get s]:=hk;simpa using this
    refine⟨e.get s,λ s' Q=>by grind,?_⟩;rw[U];intro V S;exact H h (by split;exact cI.Ki;exact λ n _=>rfl) V (I ▸ S)
  ·exact BN (λ b hb=>u b (by simp[hb])) O.2 b hb G
open Classical in
theorem Ws {ops:Array Oper}{items:List AOper}{masks tl:List Nat}{rev:List AOper}{tw:Bool}(Dk:Jq P nt ops items masks tl rev tw){c₀:Ctx}{w₀:World}{K:LEnv->Heap->Prop}{listed:Array Bool}{a:Act}{w:World}{Q:Exit->Act->World->Prop}{r:Option Nat}
  (hJ:J P nt ops items masks tl rev tw c₀ w₀ K listed a w) {i:Nat}(hi:i∈Region.ready .any ops listed) :
  wpOpIn (rF r) 0 P ops Q i (J P nt ops items masks tl rev tw c₀ w₀ K (listed.setIfInBounds i true)) a w:=by
 have R:=Z3 Dk hJ hi;have g7:i<listed.size:=by rw[hJ.size];exact R.lt
 have U:=λ k=>eW (k:=k) g7
 obtain⟨o,ho⟩:∃o,ops[i]?=some o:=⟨ops[i]'R.lt,by simp[R.lt]⟩;have c4:i<items.length:=by rw[Dk.len];exact R.lt
 obtain⟨a0,T⟩:∃x,items[i]?=some x:=⟨items[i]'c4,by simp[c4]⟩;have It:=Dk.item i o a0 ho T;obtain⟨ρ,h,e,j,hle,hr,c9,g1,hsz,hj,u,W,hrel,c2⟩:=hJ.st
 let c:Ctx:=⟨ρ,c₀.X,h,w.heap⟩
 let pend:Nat->Prop:=λ s=>∃k b,items[k]?=some b/\k∉tl/\cW listed k=false/\b.dst=some s
 let G:LEnv:=(a0.rd++List.range nt).map λ s=>(s,if pend s then D.undef else e.get s)
 have a6:∀s,G.get s=if s∈a0.rd++List.range nt then(if pend s then .undef else e.get s) else .undef:=λ s=>KJ _ _ s
 have c3:oe c nt G.get a:=by
  refine⟨hr.glob,hr.lo,g1,hsz,λ s=>?_⟩;rw[a6];split
  ·split
   ·exact .undef _
   grind
  ·exact .undef _
 have c6:∀r∈a0.rd,G.get r=e.get r:=by
  intro r O;rw[a6,if_pos (by simp[O]),if_neg];rintro⟨k,b,hb,hk,I,hd⟩;obtain⟨_,hm⟩:=(Dk.rdv k i b a0 hb T hk r hd).2 O;have:=R.anc k hm;grind
 have H:∀r∈a0.op.reads,e.get r=G.get r:=λ r O=>(c6 r (by simp[AOper.rd,O])).symm
 have g2:∀i' k,i'<ops.size->cW (listed.setIfInBounds i true) i'=true->(masks.getD i' 0).testBit k=true->cW (listed.setIfInBounds i true) k=true:=by
  intro i' k g9 hl hm;rw[U]at hl ⊢;split
  ·rfl
  ·by_cases h:i'=i
   ·subst h;exact R.anc k hm
   ·rw[if_neg h]at hl;exact hJ.dc i' k g9 hl hm
 have aS:∀{ρ':Nat->Option Nat}{h':Heap}{t':Env}{a':Act}{w':World}{d:D},c.le ⟨ρ',c.X,h',w'.heap⟩->oe ⟨ρ',c.X,h',w'.heap⟩ nt t' a'->t'=(G.put o.dst d).get->∀s,o.dst≠some s->¬pend s->aA ⟨ρ',c.X,h',w'.heap⟩ (e.get s) (a'.tmps.getD s Go.undef):=by
  intro ρ' h' t' a' w' d e8 e5 ht s hs hp;by_cases e4:s<nt
  ·have:=e5.rel s;rw[ht,LEnv.bu]at this
   have e1:Env.put G.get o.dst d s=e.get s:=by
    have:Env.put G.get o.dst d s=G.get s:=by
     cases hd:o.dst with
     | none=>rfl
     | some x =>
      have:s≠x:=by rintro rfl;exact hs hd
      simp[Env.put,ak,this]
    grind
   grind
  ·have h1:=(hrel s).resolve_left hp;have e1:a.tmps.getD s Go.undef=Go.undef:=by simp[Array.getD,hsz,e4]
   have e2:a'.tmps.getD s Go.undef=Go.undef:=by simp[Array.getD,e5.size,e4]
   rw[e1]at h1;rw[e2];exact h1.mono e8
 by_cases a7:i∈tl
 ·
  obtain⟨l,hl⟩:=db a7
  have g4:l=j:=by
   have h1:¬l<j:=by
    intro e7;have:=(W l i hl).2 e7;rw[R.un]at this;cases this
   rcases Nat.lt_or_ge j l with g0|h8
   ·have e9:j<tl.length:=Nat.lt_trans g0 (aq.1 hl).1;rcases Dk.tord j l tl[j] i (by simp[e9]) hl g0 with⟨t1,t2,t3⟩|c7
    ·have:=hj.2 t1;omega
    have:=(W j tl[j] (by simp[e9])).1 (R.anc _ c7);omega
   ·omega
  subst g4;have e7:=(aq.1 hl).1;have h7:tl[l]=i:=(aq.1 hl).2
  have c8:(tl.drop l).filterMap (λ k=>items[k]?)=a0::(tl.drop (l+1)).filterMap (λ k=>items[k]?):=by
   grind [List.drop_eq_getElem_cons]
  rw[c8]at u
  let rest:=(tl.drop (l+1)).filterMap (λ k=>items[k]?)
  let HR:Heap->Prop:=λ h'=>if a0.op.mut then cI h h' else Ext h h'
  have hrefl:HR h:=by
   simp only[HR];split
   ·exact cI.Ki
   ·exact λ n _=>rfl
  have hop:cOp P true o=some a0.op/\a0.op.isTail=true:=by have:=It.op;grind
  have Z:=sE hop.1
  let E:Env->Heap->Prop:=λ t' h'=>∃d,t'=(G.put o.dst d).get/\(HP P rev (e.put a0.dst d) h'/\gL P rev rest K (e.put a0.dst d) h')/\HR h'
  have run:vcOp P a0.op (λ d h'=>HP P rev (e.put a0.dst d) h'/\gL P rev rest K (e.put a0.dst d) h') e h->MR P nt o (vc P nt ops [] E) G.get h:=by
   intro hv;have:=u6 (nt:=nt) hop.1 It.dlt _ G h (DH H _ h (Sn hop.2 hv));grind [kV,iy]
  have hx:vc P nt ops [i] E G.get h:=by
   refine kF ho Z a0.guard (λ j' want hg=>by obtain⟨s,h1,h2⟩:=It.gs j' want hg;exact⟨s,h1,h2⟩) It.gn It.dlt ?_;simp only[gL,ji,vguard]at u
   cases hg:a0.guard with
   | none=>simp only[hg]at u;exact run u
   | some p =>
    obtain⟨g,want⟩:=p;simp only[hg]at u;cases hb:gv (e.get g)<;>simp only[hb]at u<;>try exact u.elim
    rename_i b;refine⟨b,by grind [AOper.rd],λ a5=>run (u.1 a5),λ a5=>?_⟩;grind [iy,LEnv.bu]
  refine one_op (c:=c) hx rfl hr c3 ?_;rintro a' w' ⟨ρ',t',h',k1,k2,k3,k4,d,ht,hk,S⟩
  have V:∀s,a0.dst≠some s->(e.put a0.dst d).get s=e.get s:=by
   intro s hs;rw[LEnv.bu]
   cases hd:a0.dst with
   | none=>rfl
   | some x =>
    have:s≠x:=by rintro rfl;exact hs hd
    simp[Env.put,ak,this]
  refine⟨by simp[hJ.size],g2,ρ',h',e.put a0.dst d,l+1,hle.trans k1,k2,c9.trans k3,k4.defers,k4.size,⟨by omega,λ t=>by have:=hj.2 t;omega⟩,hk.2,λ l' i' a8=>?_,λ s=>?_,λ k b hb a2 I=>?_⟩
  ·rw[U];by_cases g8:i'=i
   ·subst g8;rw[if_pos rfl];have g5:=(aq.1 a8).1;have h6:tl[l']=i':=(aq.1 a8).2
    have:l'=l:=by
     rcases Nat.lt_trichotomy l' l with h1|h1|h1
     ·grind
     ·exact h1
     ·rcases Dk.tord l l' i' i' hl a8 h1 with⟨t1,t2,t3⟩|c7
      ·have:=hj.2 t1;omega
      have:=XO Dk i' R.lt i' c7;omega
    simp[this]
   grind
  ·by_cases hs:a0.dst=some s
   ·right;have:=k4.rel s;rw[ht,LEnv.bu, <- It.dst,hs]at this;rw[LEnv.bu,hs];simpa[Env.put,ak] using this
   ·rw[V s hs];by_cases hp:pend s
    ·grind
    ·right;exact aS k1 k4 ht s (by rw[<- It.dst];exact hs) hp
  ·rw[U]at I;split at I
   ·cases I
   ·rename_i g6;have v0:=c2 k b hb a2 I
    have a1:(masks.getD i 0).testBit k≠true:=by
     grind
    have ob:∃ok,ops[k]?=some ok:=by
     have:k<ops.size:=by rw[<- Dk.len];grind
     grind
    obtain⟨ok,g3⟩:=ob;have Ib:=Dk.item k ok b g3 hb;have e6:cdOp P ok=some b.op:=by have:=Ib.op;grind
    by_cases c5:b∈rev
    ·exact BN (λ b hb=>⟨(Dk.rev b hb).1,(Dk.rev b hb).2.1⟩) hk.1 b c5 (Dk.rev b c5).2.2
    refine ValRdy.congr (e:=e) (λ r O=>?_) (λ s hs=>?_) (v0.ext (jZ e6) ?_)
    ·rw[V r];intro hd;exact a1 (Dk.rdt i k a0 b T hb a7 a2 r hd O)
    ·exact V s ((Dk.rdv k i b a0 hb T a2 s hs).1 g6)
    ·simp only[HR]at S;by_cases hm:a0.op.mut=true
     ·rw[if_pos hm]at S;by_cases e0:b.op.stable=true
      ·rw[if_pos e0];exact S
      ·exact absurd ((Dk.mt i k a0 b T hb a7 a2 hm (by simpa using e0)).resolve_right c5) a1
     ·rw[if_neg hm]at S;split
      ·exact S.box
      ·exact S
 ·
  obtain⟨d,h5,c1⟩:=c2 i a0 T a7 R.un;have hop:cdOp P o=some a0.op:=by have:=It.op;grind
  have Z:=wW hop
  let E:Env->Heap->Prop:=λ t' h'=>t'=(G.put o.dst d).get/\h'=h
  have run:(∀K':D->Prop,K' d->vcdOp P a0.op K' e h)->MR P nt o (vc P nt ops [] E) G.get h:=by
   intro hv;have:=Eg (nt:=nt) hop It.dlt (jN H (· = d) h (hv (· = d) rfl));grind [kV,iy]
  have hx:vc P nt ops [i] E G.get h:=by
   refine kF ho Z a0.guard (λ j' want hg=>by obtain⟨s,h1,h2⟩:=It.gs j' want hg;exact⟨s,h1,h2⟩) It.gn It.dlt ?_
   cases hg:a0.guard with
   | none=>rw[hg]at c1;exact run c1
   | some p =>
    obtain⟨g,want⟩:=p;rw[hg]at c1;obtain⟨b,q1,q2,q3⟩:=c1;refine⟨b,by grind [AOper.rd],λ a5=>run (q2 a5),λ a5=>?_⟩;grind [iy,LEnv.bu]
  refine one_op (c:=c) hx rfl hr c3 ?_;rintro a' w' ⟨ρ',t',h',k1,k2,k3,k4,ht,rfl⟩;refine⟨by simp[hJ.size],g2,ρ',h',e,j,hle.trans k1,k2,c9.trans k3,k4.defers,k4.size,hj,u,λ l' i' a8=>?_,λ s=>?_,λ k b hb a2 I=>?_⟩
  ·grind
  ·by_cases hs:a0.dst=some s
   ·right;have:=k4.rel s;rw[ht,LEnv.bu, <- It.dst,hs]at this;rw[h5 s hs];simpa[Env.put,ak] using this
   ·by_cases hp:pend s
    ·grind
    ·right;exact aS k1 k4 ht s (by rw[<- It.dst];exact hs) hp
  grind
end Go.Am
namespace Go.Am
open Go
variable [ck]
variable {P:Program}{nt:Nat}
theorem Pr {o:Oper}{t:TypeId}{zd:D}(ho:o.op=.alloc t) (hz:eJ P t=some zd) (hd:∀i,o.dst=some i->i<nt){n:Nat}{e:LEnv}{h:Heap}(hn:h n=.free) :
  MR P nt o (λ t' h'=>t'=(e.put o.dst (.ptr n 0 0)).get/\h'=ak h n (.box zd)) e.get h:=by
 obtain⟨z,H,E⟩:=gC hz;have key:gK P nt o (.alloc zd)->True:=λ _=>trivial
 have gen:MR P nt o (λ t' h'=>∃d,t'=(e.put o.dst d).get/\(d=.ptr n 0 0/\h'=ak h n (.box zd))) e.get h:=by
  intro I r c w a Q O hp hr hs;subst O
  have G:(execOp a.eval o).run P w=.ok (.value (.pointer (some ⟨w.heap.size,0,none⟩))) (w.alloc (.cells z.cells t)):=by
   simp[execOp,ho,Instr.alloc,bB H,newVar,cA]
  have u:=kI.new hn (s:=.box zd) trivial (.cells z.cells t) (hp':=(w.alloc (.cells z.cells t)).heap) (by rw[hp];rfl)
  have h1:dg ⟨ak c.ρ n (some c.hp.size),c.X,ak c.h n (.box zd),(w.alloc (.cells z.cells t)).heap⟩ n (.box zd) :=
   K4 (hp:=w.heap) rfl (by rw[<- hp];simp[ak]) (dB (gP E _) (gz E))
  have h2:aA ⟨ak c.ρ n (some c.hp.size),c.X,ak c.h n (.box zd),(w.alloc (.cells z.cells t)).heap⟩ (.ptr n 0 0) (.pointer (some ⟨w.heap.size,0,none⟩)) :=
   .ptrBox n 0 _ zd (by simp[ak]) (by rw[<- hp];simp[ak])
  refine kx I G ?_;refine⟨_,(e.put o.dst (.ptr n 0 0)).get,_,u.le,u.heap hr (by simpa[ak] using h1),⟨rfl,rfl,rfl⟩,?_,.ptr n 0 0,rfl,rfl,rfl⟩;rw[LEnv.bu];exact(hs.mono u.le).put hd h2
 grind
open Classical in
theorem GX {ops:Array Oper}{items:List AOper}{masks tl:List Nat}{X:XT}{ρ:Nat->Option Nat}{h:Heap}{e:LEnv}{a:Act}{w:World}{Q:Exit->Act->World->Prop}{r:Option Nat}{K':Act->World->Prop}{pend:Nat->Prop}
  (hr:au ⟨ρ,X,h,w.heap⟩) (hdef:fV ⟨ρ,X,h,w.heap⟩ a.defers) (hsz:a.tmps.size=nt) (hrel:∀s,pend s\/aA ⟨ρ,X,h,w.heap⟩ (e.get s) (a.tmps.getD s Go.undef))
  {i:Nat}{o:Oper}(rd:List Nat) (hrd:∀s∈rd,¬pend s) {d:D}{h':Heap}(hdst:∀s,o.dst=some s->e.get s=d)
  (run:∀ef:LEnv,(∀s∈rd,ef.get s=e.get s)->vc P nt ops [i] (λ t' h''=>t'=(ef.put o.dst d).get/\h''=h') ef.get h)
  (hk:∀a' w' ρ',Ctx.le ⟨ρ,X,h,w.heap⟩ ⟨ρ',X,h',w'.heap⟩->au ⟨ρ',X,h',w'.heap⟩->WS w w'->fV ⟨ρ',X,h',w'.heap⟩ a'.defers->a'.tmps.size=nt ->
   (∀s,(pend s/\o.dst≠some s)\/aA ⟨ρ',X,h',w'.heap⟩ (e.get s) (a'.tmps.getD s Go.undef))->K' a' w'):wpOpIn (rF r) 0 P ops Q i K' a w:=by
 let c:Ctx:=⟨ρ,X,h,w.heap⟩
 let ef:LEnv:=(rd++List.range nt).map λ s=>(s,if pend s then D.undef else e.get s)
 have E:∀s,ef.get s=if s∈rd++List.range nt then(if pend s then .undef else e.get s) else .undef:=λ s=>KJ _ _ s
 have I:oe c nt ef.get a:=by
  refine⟨hr.glob,hr.lo,hdef,hsz,λ s=>?_⟩;rw[E];split
  ·split
   ·exact .undef _
   grind
  ·exact .undef _
 have u:∀s∈rd,ef.get s=e.get s:=by
  grind
 refine one_op (c:=c) (run ef u) rfl hr I ?_;rintro a' w' ⟨ρ',t',h2,O,U,T,G,ht,rfl⟩;refine hk a' w' ρ' O U T G.defers G.size λ s=>?_
 by_cases hs:o.dst=some s
 ·right;have:=G.rel s;rw[ht,LEnv.bu,hs]at this;rw[hdst s hs];simpa[Env.put,ak] using this
 ·by_cases hp:pend s
  ·exact Or.inl ⟨hp,hs⟩
  ·right;by_cases H:s<nt
   ·have:=G.rel s;rw[ht,LEnv.bu]at this
    have S:Env.put ef.get o.dst d s=e.get s:=by
     have:Env.put ef.get o.dst d s=ef.get s:=by
      cases hd:o.dst with
      | none=>rfl
      | some x =>
       have:s≠x:=by rintro rfl;exact hs hd
       simp[Env.put,ak,this]
     grind
    grind
   ·have h1:=(hrel s).resolve_left hp;have S:a.tmps.getD s Go.undef=Go.undef:=by simp[Array.getD,hsz,H]
    have e2:a'.tmps.getD s Go.undef=Go.undef:=by simp[Array.getD,G.size,H]
    rw[S]at h1;rw[e2];exact h1.mono O
def hS (h0:Heap) (N:Nat) (za zb:D) (A B:Bool):Heap:=λ n=>if n=N then(if A then .box za else .free) else if n=N+1 then(if B then .box zb else .free) else h0 n
theorem aaE {h0:Heap}{N:Nat}{za zb:D}{B:Bool}:ak (hS h0 N za zb false B) N (.box za)=hS h0 N za zb true B:=by
 grind [ak,hS]
theorem aaD {h0:Heap}{N:Nat}{za zb:D}{A:Bool}:ak (hS h0 N za zb A false) (N+1) (.box zb)=hS h0 N za zb A true:=by
 grind [ak,hS]
theorem aco {h0:Heap}{N:Nat}{za zb:D}(h1:h0 N=.free) (h2:h0 (N+1)=.free):hS h0 N za zb false false=h0:=by
 grind [hS]
theorem adD {h0:Heap}{N:Nat}{za zb:D}(h1:h0 N=.free) (h2:h0 (N+1)=.free):hS h0 N za zb true true=ak (ak h0 N (.box za)) (N+1) (.box zb):=by
 rw[<- aaD, <- aaE,aco h1 h2]
structure Two (P:Program) (nt:Nat) (ops:Array Oper) (items:List AOper) (masks tl:List Nat) (ia ib:Nat) (r:List Nat) (sa sb:Nat) (za zb:D):Prop where
 etl:tl=ia::ib::r
 nd:ia≠ib/\ia∉r/\ib∉r
 oa:∃o t,ops[ia]?=some o/\o.op=.alloc t/\eJ P t=some za/\o.dst=some sa/\o.guard=none
 ob:∃o t,ops[ib]?=some o/\o.op=.alloc t/\eJ P t=some zb/\o.dst=some sb/\o.guard=none
 ne:sa≠sb
 anc:∀k∈r,(masks.getD k 0).testBit ia=true/\(masks.getD k 0).testBit ib=true
 vals:∀(k:Nat) (b:AOper),items[k]?=some b->k∉tl->sa∉b.rd/\sb∉b.rd/\b.dst≠some sa/\b.dst≠some sb
 lt:sa<nt/\sb<nt
structure J1 (P:Program) (nt:Nat) (ops:Array Oper) (items:List AOper) (masks tl:List Nat) (rev:List AOper) (ia ib:Nat) (r:List Nat) (sa sb:Nat) (za zb:D) (c₀:Ctx) (w₀:World) (K:LEnv->Heap->Prop) (listed:Array Bool) (a:Act) (w:World):Prop where
 size:listed.size=ops.size
 dc:∀i k,i<ops.size->cW listed i=true->(masks.getD i 0).testBit k=true->cW listed k=true
 st:∃(ρ:Nat->Option Nat) (h0:Heap) (N:Nat) (e:LEnv) (A B:Bool),(A&&B)=false/\cW listed ia=A/\cW listed ib=B/\(∀i∈r,cW listed i=false) /\
  c₀.le ⟨ρ,c₀.X,hS h0 N za zb A B,w.heap⟩/\au ⟨ρ,c₀.X,hS h0 N za zb A B,w.heap⟩/\WS w₀ w/\fV ⟨ρ,c₀.X,hS h0 N za zb A B,w.heap⟩ a.defers/\a.tmps.size=nt /\
  gL P rev (r.filterMap (λ i=>items[i]?)) K e (hS h0 N za zb true true) /\
  e.get sa=.ptr N 0 0/\e.get sb=.ptr (N+1) 0 0 /\
  (∀s,((s=sa/\A=false)\/(s=sb/\B=false)\/∃i b,items[i]?=some b/\i∉tl/\cW listed i=false/\b.dst=some s)\/aA ⟨ρ,c₀.X,hS h0 N za zb A B,w.heap⟩ (e.get s) (a.tmps.getD s Go.undef)) /\
  (∀i b,items[i]?=some b->i∉tl->cW listed i=false->ValRdy P b e (hS h0 N za zb A B))
theorem Vx {ops:Array Oper}{masks:List Nat}{listed:Array Bool}{i:Nat}(hil:i<listed.size) (R:Rdy ops masks listed i) (dc:∀i k,i<ops.size->cW listed i=true->(masks.getD i 0).testBit k=true->cW listed k=true) :
  ∀i' k,i'<ops.size->cW (listed.setIfInBounds i true) i'=true->(masks.getD i' 0).testBit k=true->cW (listed.setIfInBounds i true) k=true:=by
 intro i' k u hl hm;rw[eW hil]at hl ⊢;split
 ·rfl
 ·by_cases h:i'=i
  ·subst h;exact R.anc k hm
  grind
theorem OZ {h:Heap}{n:Nat}(hn:h n=.free) (s:Slot){b:AOper}:if b.op.stable then cI h (ak h n s) else Ext h (ak h n s):=by
 split
 ·exact(wV hn s).box
 ·exact wV hn s
theorem YJ {ops:Array Oper}{items:List AOper}{masks tl:List Nat}{rev:List AOper}(Dk:Jq P nt ops items masks tl rev true){ia ib:Nat}{r:List Nat}{sa sb:Nat}{za zb:D}(T:Two P nt ops items masks tl ia ib r sa sb za zb)
  {c₀:Ctx}{w₀:World}{K:LEnv->Heap->Prop}{listed:Array Bool}{a:Act}{w:World}{Q:Exit->Act->World->Prop}{rr:Option Nat}
  (hJ:J1 P nt ops items masks tl rev ia ib r sa sb za zb c₀ w₀ K listed a w) {i:Nat}(hi:i∈Region.ready .any ops listed) :
  wpOpIn (rF rr) 0 P ops Q i (λ a w=>J1 P nt ops items masks tl rev ia ib r sa sb za zb c₀ w₀ K (listed.setIfInBounds i true) a w\/J P nt ops items masks tl rev true c₀ w₀ K (listed.setIfInBounds i true) a w) a w:=by
 have R:=JA Dk hJ.size hJ.dc hi;have c4:i<listed.size:=by rw[hJ.size];exact R.lt
 have u:=λ k=>eW (k:=k) c4
 obtain⟨ρ,h0,N,e,A,B,e9,hA,hB,I,hle,hr,O,Z,hsz,H,c1,a8,hrel,S⟩:=hJ.st;have a2:=Vx c4 R hJ.dc;have e0:∀k,k∈tl↔k=ia\/k=ib\/k∈r:=by intro k;rw[T.etl];simp
 by_cases c6:i=ia
 ·subst c6;obtain⟨o,t,ho,hop,hz,hd,hg⟩:=T.oa;have e8:A=false:=by rw[<- hA];exact R.un
  subst e8;have kS:hS h0 N za zb false B N=.free:=by simp[hS]
  refine GX (items:=items) (masks:=masks) (tl:=tl) hr Z hsz hrel (o:=o) [] (by simp) (d:=.ptr N 0 0) (h':=ak (hS h0 N za zb false B) N (.box za)) (λ s hs=>by grind) (λ ef _=>?_) ?_
  ·refine kF ho (by grind) none (λ j w hh=>by rw[hg]at hh;cases hh) (λ _=>rfl) (λ j V=>by rw[hd]at V;cases V;exact T.lt.1) ?_;refine kV ?_ (Pr hop hz (λ j V=>by rw[hd]at V;cases V;exact T.lt.1) kS);grind [iy]
  ·intro a' w' ρ' k1 k2 k3 k4 k5 k6;rw[aaE]at k1 k2 k4 k6
   have G:∀k b,items[k]?=some b->k∉tl->cW (listed.setIfInBounds i true) k=false->ValRdy P b e (hS h0 N za zb true B):=by
    intro k b hb hk E;rw[u]at E;split at E
    ·cases E
    ·have U:b.op.isVal=true:=by
      have a7:k<ops.size:=by rw[<- Dk.len];grind
      have:=(Dk.item k ops[k] b (by simp[a7]) hb).op;grind [jZ]
     have:=(S k b hb hk E).ext U (OZ kS (.box za));grind [aaE]
   have c2:∀s,((s=sb/\B=false)\/∃i' b,items[i']?=some b/\i'∉tl/\cW (listed.setIfInBounds i true) i'=false/\b.dst=some s)\/aA ⟨ρ',c₀.X,hS h0 N za zb true B,w'.heap⟩ (e.get s) (a'.tmps.getD s Go.undef):=by
    grind
   cases B with
   | false =>
    left;refine⟨by simp[hJ.size],a2,ρ',h0,N,e,true,false,rfl,?_,?_,λ k hk=>?_,hle.trans k1,k2,O.trans k3,k4,k5,H,c1,a8,λ s=>?_,G⟩
    ·rw[u,if_pos rfl]
    ·rw[u,if_neg (λ h=>T.nd.1 h.symm)];exact hB
    ·rw[u,if_neg (by rintro rfl;exact T.nd.2.1 hk)];exact I k hk
    grind
   | true =>
    right;refine⟨by simp[hJ.size],a2,ρ',_,e,2,hle.trans k1,k2,O.trans k3,k4,k5,⟨by rw[T.etl];simp,λ _=>Nat.le_refl 2⟩,?_,λ l i' hl=>?_,λ s=>?_,G⟩
    ·rw[T.etl];simpa using H
    ·rw[u];rw[T.etl]at hl
     match l,hl with
     | 0,hl=>simp at hl;subst hl;simp
     | 1,hl =>
      grind
     | l+2,hl =>
      have hm:i'∈r:=aK (by simpa using hl);rw[if_neg (by rintro rfl;exact T.nd.2.1 hm),I i' hm];simp
    grind
 by_cases c5:i=ib
 ·subst c5;obtain⟨o,t,ho,hop,hz,hd,hg⟩:=T.ob;have e7:B=false:=by rw[<- hB];exact R.un
  subst e7;have kS:hS h0 N za zb A false (N+1)=.free:=by simp[hS]
  refine GX (items:=items) (masks:=masks) (tl:=tl) hr Z hsz hrel (o:=o) [] (by simp) (d:=.ptr (N+1) 0 0) (h':=ak (hS h0 N za zb A false) (N+1) (.box zb)) (λ s hs=>by grind) (λ ef _=>?_) ?_
  ·refine kF ho (by grind) none (λ j w hh=>by rw[hg]at hh;cases hh) (λ _=>rfl) (λ j V=>by rw[hd]at V;cases V;exact T.lt.2) ?_;refine kV ?_ (Pr hop hz (λ j V=>by rw[hd]at V;cases V;exact T.lt.2) kS);grind [iy]
  ·intro a' w' ρ' k1 k2 k3 k4 k5 k6;rw[aaD]at k1 k2 k4 k6
   have G:∀k b,items[k]?=some b->k∉tl->cW (listed.setIfInBounds i true) k=false->ValRdy P b e (hS h0 N za zb A true):=by
    intro k b hb hk E;rw[u]at E;split at E
    ·cases E
    ·have U:b.op.isVal=true:=by
      have a7:k<ops.size:=by rw[<- Dk.len];grind
      have:=(Dk.item k ops[k] b (by simp[a7]) hb).op;grind [jZ]
     have:=(S k b hb hk E).ext U (OZ kS (.box zb));grind [aaD]
   have c2:∀s,((s=sa/\A=false)\/∃i' b,items[i']?=some b/\i'∉tl/\cW (listed.setIfInBounds i true) i'=false/\b.dst=some s)\/aA ⟨ρ',c₀.X,hS h0 N za zb A true,w'.heap⟩ (e.get s) (a'.tmps.getD s Go.undef):=by
    grind
   cases A with
   | false =>
    left;refine⟨by simp[hJ.size],a2,ρ',h0,N,e,false,true,rfl,?_,?_,λ k hk=>?_,hle.trans k1,k2,O.trans k3,k4,k5,H,c1,a8,λ s=>?_,G⟩
    ·grind
    ·rw[u,if_pos rfl]
    ·rw[u,if_neg (by rintro rfl;exact T.nd.2.2 hk)];exact I k hk
    grind
   | true =>
    right;refine⟨by simp[hJ.size],a2,ρ',_,e,2,hle.trans k1,k2,O.trans k3,k4,k5,⟨by rw[T.etl];simp,λ _=>Nat.le_refl 2⟩,?_,λ l i' hl=>?_,λ s=>?_,G⟩
    ·rw[T.etl];simpa using H
    ·rw[u];rw[T.etl]at hl
     match l,hl with
     | 0,hl =>
      grind
     | 1,hl=>simp at hl;subst hl;simp
     | l+2,hl =>
      have hm:i'∈r:=aK (by simpa using hl);rw[if_neg (by rintro rfl;exact T.nd.2.2 hm),I i' hm];simp
    grind
 have a6:i∉tl:=by
  intro hm;rcases (e0 i).1 hm with h|h|h
  ·exact c6 h
  ·exact c5 h
  ·obtain⟨h1,h2⟩:=T.anc i h;have e1:=R.anc _ h1;have e2:=R.anc _ h2;grind
 obtain⟨o,ho⟩:∃o,ops[i]?=some o:=⟨ops[i]'R.lt,by simp[R.lt]⟩;have W:i<items.length:=by rw[Dk.len];exact R.lt
 obtain⟨a0,a1⟩:∃x,items[i]?=some x:=⟨items[i]'W,by simp[W]⟩;have It:=Dk.item i o a0 ho a1;obtain⟨c9,c8,g2,g1⟩:=T.vals i a0 a1 a6;obtain⟨d,e6,a5⟩:=S i a0 a1 a6 R.un;have hop:cdOp P o=some a0.op:=by have:=It.op;grind
 have c3:=wW hop
 have e4:∀s∈a0.rd,¬((s=sa/\A=false)\/(s=sb/\B=false)\/∃i b,items[i]?=some b/\i∉tl/\cW listed i=false/\b.dst=some s):=by
  rintro s hs (⟨rfl,_⟩|⟨rfl,_⟩|⟨k,b,hb,hk,E,hd⟩)
  ·exact c9 hs
  ·exact c8 hs
  ·obtain⟨_,hm⟩:=(Dk.rdv k i b a0 hb a1 hk s hd).2 hs;grind
 refine GX (items:=items) (masks:=masks) (tl:=tl) hr Z hsz hrel (o:=o) a0.rd e4 (d:=d) (h':=hS h0 N za zb A B) (λ s hs=>e6 s (by rw[It.dst];exact hs)) (λ ef e5=>?_) ?_
 ·have run:(∀K':D->Prop,K' d->vcdOp P a0.op K' e (hS h0 N za zb A B))->MR P nt o (vc P nt ops [] (λ t' g0=>t'=(ef.put o.dst d).get/\g0=hS h0 N za zb A B)) ef.get (hS h0 N za zb A B):=by
   intro hv;have:=Eg (nt:=nt) hop It.dlt (jN (λ s hs=>(e5 s (by simp[AOper.rd,hs])).symm) (· = d) (hS h0 N za zb A B) (hv (· = d) rfl));grind [kV,iy]
  refine kF ho c3 a0.guard (λ j' want hg=>by obtain⟨s,h1,h2⟩:=It.gs j' want hg;exact⟨s,h1,h2⟩) It.gn It.dlt ?_
  cases hg:a0.guard with
  | none=>rw[hg]at a5;exact run a5
  | some p =>
   obtain⟨g,want⟩:=p;rw[hg]at a5;obtain⟨b,q1,q2,q3⟩:=a5;refine⟨b,by grind [AOper.rd],λ c7=>run (q2 c7),λ c7=>?_⟩;grind [iy,LEnv.bu]
 ·intro a' w' ρ' k1 k2 k3 k4 k5 k6;left;refine⟨by simp[hJ.size],a2,ρ',h0,N,e,A,B,e9,?_,?_,λ k hk=>?_,hle.trans k1,k2,O.trans k3,k4,k5,H,c1,a8,λ s=>?_,λ k b hb hk E=>?_⟩
  ·grind
  ·grind
  ·grind
  ·rcases k6 s with⟨hp,hne⟩|h
   ·left;rcases hp with hp|hp|⟨k,b,hb,hk,E,hd⟩
    ·exact Or.inl hp
    ·exact Or.inr (Or.inl hp)
    ·refine Or.inr (Or.inr ⟨k,b,hb,hk,?_,hd⟩);rw[u,if_neg (by rintro rfl;rw[a1]at hb;cases hb;exact hne (by rw[<- It.dst];exact hd))];exact E
   ·exact Or.inr h
  grind
end Go.Am
namespace Go.Am
open Go
variable [ck]
variable {P:Program}{nt:Nat}
theorem Nz {p q:Nat->Bool}:∀{l:List Nat},(∀x∈l,q x=true->p x=true)->∀{i:Nat},i∈l->p i=true->q i=false->(l.filter q).length<(l.filter p).length
 | [],_,i,hi,_,_=>by simp at hi
 | x::r,hle,i,hi,hp,hq=>by
  have u:(r.filter q).length<=(r.filter p).length:=by
   have:∀(l:List Nat),(∀x∈l,q x=true->p x=true)->(l.filter q).length<=(l.filter p).length:=by
    intro l
    induction l with
    | nil=>intro _;simp
    | cons y s E =>
     grind
   grind
  rcases List.mem_cons.1 hi with rfl|hi
  ·grind
  ·have E:=Nz (λ x hx=>hle x (by simp[hx])) hi hp hq;grind
def left (n:Nat) (listed:Array Bool):Nat:=((List.range n).filter λ i=> !cW listed i).length
theorem QJ {ops:Array Oper}{items:List AOper}{masks tl:List Nat}{rev:List AOper}{tw:Bool}(Dk:Jq P nt ops items masks tl rev tw){listed:Array Bool}(hsz:listed.size=ops.size) (hr:Region.ready .any ops listed=[]):∀i,i<ops.size->cW listed i=true:=by
 intro i
 induction i using Nat.strongRecOn with
 | _ i G =>
  intro hi;by_cases hl:cW listed i=true
  ·exact hl
  ·exfalso
   have u:i∈Region.ready .any ops listed:=by
    unfold Region.ready;simp only[List.mem_filter,List.mem_range,Bool.and_eq_true,Bool.not_eq_true'];refine⟨hi,by grind [cW],?_⟩;have ho:ops[i]?=some ops[i]:=by simp[hi]
    rw[ho];simp only[Option.map_some,Option.getD_some,Array.all_eq_true'];intro e he;by_cases hb:Region.binds .any e=true
    ·have E:=Dk.edge i _ ho e (by simpa using he) hb;grind [cW]
    ·simp[hb]
   grind
theorem abb {ops:Array Oper}{items:List AOper}{masks tl:List Nat}{rev:List AOper}{tw:Bool}(Dk:Jq P nt ops items masks tl rev tw){JJ:Array Bool->Act->World->Prop}{Q:Exit->Act->World->Prop}{r:Option Nat}
  (hsz:∀listed a w,JJ listed a w->listed.size=ops.size) (hdc:∀listed a w,JJ listed a w->∀i k,i<ops.size->cW listed i=true->(masks.getD i 0).testBit k=true->cW listed k=true)
  (step:∀listed a w i,JJ listed a w->i∈Region.ready .any ops listed->wpOpIn (rF r) 0 P ops Q i (JJ (listed.setIfInBounds i true)) a w)
  (hq:∀listed a w,JJ listed a w->(∀i,i<ops.size->cW listed i=true)->Q .normal a w):∀(fuel:Nat) (listed:Array Bool) (a:Act) (w:World),left ops.size listed<=fuel->JJ listed a w->wpAnyIn (rF r) 0 P .any ops Q fuel listed a w:=by
 have done:∀(listed:Array Bool) (a:Act) (w:World),JJ listed a w->Region.ready .any ops listed=[]->Q .normal a w:=by
  grind [QJ]
 intro fuel
 induction fuel with
 | zero =>
  intro listed a w hl hJ
  have hr:Region.ready .any ops listed=[]:=by
   cases u:Region.ready .any ops listed with
   | nil=>rfl
   | cons x r =>
    exfalso;have hm:x∈Region.ready .any ops listed:=by rw[u];simp
    have R:=JA Dk (hsz _ _ _ hJ) (hdc _ _ _ hJ) hm;have:x∈(List.range ops.size).filter λ i=> !cW listed i:=by simp[R.lt,R.un]
    grind [left]
  exact⟨hr,done listed a w hJ hr⟩
 | succ fuel H =>
  intro listed a w hl hJ;refine⟨done listed a w hJ,λ i hi=>?_⟩;have R:=JA Dk (hsz _ _ _ hJ) (hdc _ _ _ hJ) hi;refine wpOpIn_mono (λ I w' G=>H _ I w' ?_ G) (step listed a w i hJ hi);have E:i<listed.size:=by rw[hsz _ _ _ hJ];exact R.lt
  have:=Nz (l:=List.range ops.size) (p:=λ i=> !cW listed i) (q:=λ k=> !cW (listed.setIfInBounds i true) k) (λ x _ hx=>by
   grind [eW]) (i:=i) (by simpa using R.lt) (by simp[R.un]) (by simp[eW E])
  grind [left]
theorem Zo {ops:Array Oper}{items:List AOper}{masks tl:List Nat}{rev:List AOper}{tw:Bool}(Dk:Jq P nt ops items masks tl rev tw){c₀:Ctx}{w₀:World}{K:LEnv->Heap->Prop}{listed:Array Bool}{a:Act}{w:World}
  (hJ:J P nt ops items masks tl rev tw c₀ w₀ K listed a w) (hall:∀i,i<ops.size->cW listed i=true):Fin c₀ w₀ nt (up K) a w:=by
 obtain⟨ρ,h,e,j,hle,E,O,I,hsz,U,u,G,hrel,S⟩:=hJ.st
 have Q:j=tl.length:=by
  rcases Nat.lt_or_ge j tl.length with H|V
  ·have:=(G j tl[j] (by simp[H])).1 (hall _ (Dk.tlt _ (List.getElem_mem H)));omega
  ·have:=U.1;omega
 subst Q;rw[List.drop_length]at u;refine⟨ρ,e.get,h,hle,E,O,⟨E.glob,E.lo,I,hsz,λ s=>?_⟩,e,rfl,u⟩;rcases hrel s with⟨i,b,hb,_,T,_⟩|h
 ·have:i<ops.size:=by rw[<- Dk.len];grind
  grind
 ·exact h
theorem HO:∀{l:List AOper}{K:LEnv->Heap->Prop}{e:LEnv}{h:Heap},zu P l K e h->gL P [] l K e h
 | [],_,_,_,u=>u
 | o::r,K,e,h,u=>by
  have hk:∀e h,zu P r K e h->HP P [] e h/\gL P [] r K e h:=λ e h u=>⟨trivial,HO u⟩
  simp only[zu,gL,ji,vguard]at u ⊢
  cases hg:o.guard with
  | none=>grind [uz]
  | some q =>
   grind [uz]
theorem DG {rev l:List AOper}{K:LEnv->Heap->Prop}{e:LEnv}{h:Heap}(hv:vcTail P rev l K e h):gL P rev l K e h:=by
 cases rev with
 | nil=>exact HO hv
 | cons b r=>exact hv
theorem HU {id:Nat}{ops:Array Oper}{items:List AOper}{masks tl:List Nat}{rev:List AOper}{tw:Bool}(Dk:Jq P nt ops items masks tl rev tw) (hm:P.follows .mixedOrders=true){K:LEnv->Heap->Prop}{Q:LPost}{e:LEnv}{h:Heap}
  (hq:∀e h,K e h->Q .normal e h)
  (hv:vcVals P (((List.range ops.size).filter (λ i=> !tl.contains i)).filterMap (λ i=>items[i]?)) (vcTail P rev (tl.filterMap (λ i=>items[i]?)) K) e h)
  (JJ:Ctx->World->Array Bool->Act->World->Prop)
  (hsz:∀c w₀ listed a w,JJ c w₀ listed a w->listed.size=ops.size) (hdc:∀c w₀ listed a w,JJ c w₀ listed a w->∀i k,i<ops.size->cW listed i=true->(masks.getD i 0).testBit k=true->cW listed k=true)
  (step:∀c w₀ r Q listed a w i,JJ c w₀ listed a w->i∈Region.ready .any ops listed->wpOpIn (rF r) 0 P ops Q i (JJ c w₀ (listed.setIfInBounds i true)) a w)
  (fin:∀c w₀ listed a w,JJ c w₀ listed a w->(∀i,i<ops.size->cW listed i=true)->Fin c w₀ nt (up K) a w)
  (init:∀c w a T,c.h=h->c.hp=w.heap->au c->fV c a.defers->a.tmps.size=nt->gL P rev (tl.filterMap (λ i=>items[i]?)) K T c.h->(∀i,i<ops.size->cW (Array.replicate ops.size false) i=false) ->
   (∀s,(∃i b,items[i]?=some b/\i∉tl/\cW (Array.replicate ops.size false) i=false/\b.dst=some s)\/aA c (T.get s) (a.tmps.getD s Go.undef))->(∀i b,items[i]?=some b->i∉tl->ValRdy P b T c.h)->JJ c w (Array.replicate ops.size false) a { w with drawn:=w.drawn+1 }) :
  uu P nt (.region id ops true) (λ x=>up (Q x)) e.get h:=by
 intro rd c w a hh hp hr hs _;subst hh;refine wpIn_region_any hm ?_
 let V:=(List.range ops.size).filter (λ i=> !tl.contains i)
 let vals:=V.filterMap (λ i=>items[i]?)
 have W:∀b∈vals,∃i o,items[i]?=some b/\i∉tl/\ops[i]?=some o:=by
  intro b hb;simp only[vals,V,List.mem_filterMap,List.mem_filter,List.mem_range]at hb;obtain⟨i,⟨hi,hn⟩,hb⟩:=hb;exact⟨i,ops[i],hb,by simpa using hn,by simp[hi]⟩
 have I:∀i b,items[i]?=some b->i∉tl->b∈vals:=by
  intro i b hb hn;have:i<ops.size:=by rw[<- Dk.len];grind
  grind
 obtain⟨T,t1,t2,t3⟩:=Ob vals (λ b hb=>by
   obtain⟨i,o,h1,h2,h3⟩:=W b hb;have:=(Dk.item i o b h3 h1).op
   grind [jZ]) (λ b hb s hs G=>by
   obtain⟨i,o,h1,h2,h3⟩:=W b hb;have:=((Dk.rdv i i b b h1 h1 h2 s hs).2 G).1
   omega) (by
   have U:V.Pairwise (· < ·):=List.Pairwise.filter _ List.pairwise_lt_range;have u:∀i∈V,i∉tl:=by grind
   have:∀(l:List Nat),(∀i∈l,i∉tl)->l.Pairwise (· < ·)->(l.filterMap (λ i=>items[i]?)).Pairwise (λ a b=>∀s,b.dst=some s->a.dst≠some s/\s∉a.rd):=by
    intro l
    induction l with
    | nil=>intro _ _;simp
    | cons x r ih =>
     intro hn H;rw[List.pairwise_cons]at H;have S:=ih (λ i hi=>hn i (by simp[hi])) H.2
     cases hx:items[x]? with
     | none=>grind
     | some ax =>
      rw[List.filterMap_cons_some hx,List.pairwise_cons];refine⟨λ b hb s hs=>?_,S⟩;simp only[List.mem_filterMap]at hb;obtain⟨k,hk,hb⟩:=hb;have a1:=H.1 k hk;have O:=hn k (by simp[hk]);refine⟨(Dk.rdv k x b ax hb hx O s hs).1 (by omega),λ G=>?_⟩;have:=((Dk.rdv k x b ax hb hx O s hs).2 G).1;omega
   exact this V u U) hv
 have E:∀i,i<ops.size->cW (Array.replicate ops.size false) i=false:=by intro i hi;unfold cW;simp[Array.getD,hi]
 refine abb Dk (JJ:=JJ c w) (hsz c w) (hdc c w) (step c w _ _) (λ listed a' w' hJ u=>Fin.mono (λ t h hk=>by obtain⟨Z,rfl,hk⟩:=hk;exact⟨Z,rfl,hq Z h hk⟩) (fin c w listed a' w' hJ u)) ops.size _ a _ ?_ ?_
 ·grind [left]
 ·refine init c w a T rfl hp hr hs.defers hs.size (DG t1) E (λ s=>?_) (λ i b hb hn=>t3 b (I i b hb hn));by_cases hex:∃i b,items[i]?=some b/\i∉tl/\b.dst=some s
  ·grind
  ·right
   rw[t2 s (λ b hb a2=>by
    grind)]
   exact hs.rel s
theorem Sx {id:Nat}{ops:Array Oper}{items:List AOper}{masks tl:List Nat}{rev:List AOper}(Dk:Jq P nt ops items masks tl rev false) (hm:P.follows .mixedOrders=true){K:LEnv->Heap->Prop}{Q:LPost}{e:LEnv}{h:Heap}
  (hq:∀e h,K e h->Q .normal e h)
  (hv:vcVals P (((List.range ops.size).filter (λ i=> !tl.contains i)).filterMap (λ i=>items[i]?)) (vcTail P rev (tl.filterMap (λ i=>items[i]?)) K) e h):uu P nt (.region id ops true) (λ x=>up (Q x)) e.get h:=by
 refine HU Dk hm hq hv (λ c w₀=>J P nt ops items masks tl rev false c w₀ K) (λ _ _ _ _ _ hJ=>hJ.size) (λ _ _ _ _ _ hJ=>hJ.dc) (λ _ _ _ _ _ _ _ _ hJ hi=>Ws Dk hJ hi) (λ _ _ _ _ _ hJ I=>Zo Dk hJ I) ?_;intro c w a T O hp hr H hsz t1 u hrel G;have E:(⟨c.ρ,c.X,c.h,w.heap⟩:Ctx)=c:=by rw[<- hp]
 have hw:({ w with drawn:=w.drawn+1 }:World).heap=w.heap:=rfl;refine⟨by simp,λ i k hi hl=>(by grind),c.ρ,c.h,T,0,?_,?_,⟨rfl,rfl,rfl⟩,(by rw[hw,E];exact H),hsz,⟨Nat.zero_le _,λ h=>by cases h⟩,by simpa using t1,λ l i hl=>?_,λ s=>?_,λ i b hb hn _=>G i b hb hn⟩
 ·grind [Ctx.le.refl]
 ·rw[hw,E];exact hr
 ·rw[u i (Dk.tlt i (aK hl))];simp
 ·rw[hw,E];exact hrel s
theorem PU {id:Nat}{ops:Array Oper}{items:List AOper}{masks tl:List Nat}{rev:List AOper}(Dk:Jq P nt ops items masks tl rev true){ia ib:Nat}{r:List Nat}{sa sb:Nat}{za zb:D}(T:Two P nt ops items masks tl ia ib r sa sb za zb)
  (hm:P.follows .mixedOrders=true) {K:LEnv->Heap->Prop}{Q:LPost}{e:LEnv}{h:Heap}(hq:∀e h,K e h->Q .normal e h)
  (hv:vcVals P (((List.range ops.size).filter (λ i=> !tl.contains i)).filterMap (λ i=>items[i]?)) (vcTail P rev (tl.filterMap (λ i=>items[i]?)) K) e h):uu P nt (.region id ops true) (λ x=>up (Q x)) e.get h:=by
 refine HU Dk hm hq hv (λ c w₀ listed a w=>J1 P nt ops items masks tl rev ia ib r sa sb za zb c w₀ K listed a w\/J P nt ops items masks tl rev true c w₀ K listed a w)
  (λ _ _ _ _ _ hJ=>hJ.elim (·.size) (·.size)) (λ _ _ _ _ _ hJ=>hJ.elim (·.dc) (·.dc)) (λ _ _ _ _ _ _ _ _ hJ hi=>hJ.elim (λ hJ=>YJ Dk T hJ hi) λ hJ=>wpOpIn_mono (λ _ _ h=>Or.inr h) (Ws Dk hJ hi)) (λ c w₀ listed a w hJ G=>hJ.elim (λ hJ=>?_) λ hJ=>Zo Dk hJ G) ?_
 ·exfalso;obtain⟨ρ,h0,N,e,A,B,a2,hA,hB,_⟩:=hJ.st;have h1:=G ia (Dk.tlt ia (by rw[T.etl];simp));have h2:=G ib (Dk.tlt ib (by rw[T.etl];simp));grind
 ·intro c w a E hh hp hr I hsz t1 u hrel a1;left;have O:(⟨c.ρ,c.X,c.h,w.heap⟩:Ctx)=c:=by rw[<- hp]
  have hw:({ w with drawn:=w.drawn+1 }:World).heap=w.heap:=rfl;obtain⟨N,ht⟩:=dC hr
  have item:∀(k s:Nat) (z:D),(∃o t,ops[k]?=some o/\o.op=.alloc t/\eJ P t=some z/\o.dst=some s/\o.guard=none)->k∈tl->items[k]?=some ⟨some s,.alloc z,none⟩:=by
   rintro k s z ⟨o,t,ho,hop,hz,hd,hg⟩ hk;have H:k<items.length:=by rw[Dk.len];exact Dk.tlt k hk
   have It:=Dk.item k o items[k] ho (by simp[H]);have h1:=It.op;rw[if_pos (by simpa using hk)]at h1
   have h2:items[k].op=.alloc z:=by
    grind [cOp,cOp0]
   have h3:=It.dst;have h4:=It.gn hg;rw[hd]at h3;rw[aG H];congr 1
   cases hx:items[k] with
   | mk dst op guard =>
    grind
  have V:=item ia sa za T.oa (by rw[T.etl];simp);have U:=item ib sb zb T.ob (by rw[T.etl];simp);rw[T.etl,List.filterMap_cons_some V,List.filterMap_cons_some U]at t1;have f1:c.h N=.free:=ht.free;have f2:c.h (N+1)=.free:=ht.1 _ (by omega)
  have W:pB (ak c.h N (.box za)) (N+1):=⟨λ m hm=>by
    have:m≠N:=by omega
    simp[ak,this];exact ht.1 m (by omega),λ k hk=>by
    grind [ak]⟩
  have u1:=(t1 N ht).2;have Z:=(u1 (N+1) W).2;rw[<- adD f1 f2]at Z;have S:hS c.h N za zb false false=c.h:=aco f1 f2
  have g1:∀s,s≠sa->s≠sb->(((E.put (some sa) (.ptr N 0 0)).put (some sb) (.ptr (N+1) 0 0)).get s)=E.get s:=by
   intro s h1 h2;rw[LEnv.bu,Env.put,aa _ _ h2,LEnv.bu,Env.put,aa _ _ h1]
  refine⟨by simp,λ i k hi hl=>(by grind),c.ρ,c.h,N,_,false,false,rfl,u _ (Dk.tlt _ (by rw[T.etl];simp)),u _ (Dk.tlt _ (by rw[T.etl];simp)),λ i hi=>u _ (Dk.tlt _ (by rw[T.etl];simp[hi])),?_,?_,⟨rfl,rfl,rfl⟩,?_,hsz,Z,?_,?_,λ s=>?_,λ i b hb hn _=>?_⟩
  ·grind [Ctx.le.refl]
  ·rw[S,hw,O];exact hr
  ·rw[S,hw,O];exact I
  ·rw[LEnv.bu,Env.put,aa _ _ T.ne,LEnv.bu];simp[Env.put,ak]
  ·rw[LEnv.bu];simp[Env.put,ak]
  ·grind
  ·obtain⟨n1,n2,n3,n4⟩:=T.vals i b hb hn;grind [ValRdy.congr]
def pairOk (masks tl rv:List Nat) (i k:Nat) (a b:AOper):Bool :=
 (match a.dst with
  | none=>true
  | some s=>if tl.contains i then tl.contains k || !b.rd.contains s||(masks.getD i 0).testBit k
   else(i == k||b.dst != some s)&&(!b.rd.contains s||(decide (i<k)&&(masks.getD k 0).testBit i))) &&
 (!(tl.contains i && !tl.contains k&&a.op.mut && !b.op.stable)||(masks.getD i 0).testBit k||rv.contains k)
def G1 (masks:List Nat) (l:List Edge):Nat:=l.foldl (λ s e=>if Region.binds .any e then s ||| 2 ^ e.on ||| masks.getD e.on 0 else s) 0
def ordOk (masks:List Nat):List Nat->Bool
 | []=>true
 | i::r=>r.all (λ k=>(masks.getD k 0).testBit i)&&ordOk masks r
def itemsOf (P:Program) (nt:Nat) (ops:Array Oper) (tl:List Nat):List Oper->Nat->Option (List AOper)
 | [],_=>some []
 | o::r,i=>match (if tl.contains i then Qq P nt ops o else cdOper P nt ops o),itemsOf P nt ops tl r (i+1) with
  | some a,some s=>some (a::s)
  | _,_=>none
def ord2 (masks:List Nat):List Nat->Bool
 | a::b::r=>r.all (λ k=>(masks.getD k 0).testBit a&&(masks.getD k 0).testBit b)&&ordOk masks r
 | _=>false
def dchk (tw:Bool) (ops:Array Oper) (items:List AOper) (masks tl rv:List Nat):Bool :=
 (ops.toList.zipIdx.all λ p=>(p.1.after.toList.all λ e=> !Region.binds .any e||decide (e.on<p.2))&&(masks.getD p.2 0 == G1 masks p.1.after.toList)) &&
 tl.all (λ i=>decide (i<ops.size))&&(if tw then ord2 masks tl else ordOk masks tl)&&(rv.all λ k=> !tl.contains k&&(match items[k]? with|some b=>b.guard.isNone&&b.dst.isSome|none=>false)) &&
 items.zipIdx.all λ p=>items.zipIdx.all λ q=>pairOk masks tl rv p.2 q.2 p.1 q.1
def cDr0 (P:Program) (nt:Nat) (tbl:TTq) (id:Nat) (ops:Array Oper):Option ACode :=
 if P.follows .mixedOrders then
  match tbl id with
  | some (masks,tl,rv)=>match itemsOf P nt ops tl ops.toList 0 with
   | some items=>if dchk false ops items masks tl rv then
     some (.dreg (((List.range ops.size).filter (λ i=> !tl.contains i)).filterMap (λ i=>items[i]?)) (tl.filterMap (λ i=>items[i]?)) (rv.filterMap (λ i=>items[i]?))) else none
   | none=>none
  | none=>none
 else none
theorem Fq {ops:Array Oper}{tl:List Nat}:∀{l:List Oper}{i:Nat}{items:List AOper},itemsOf P nt ops tl l i=some items->items.length=l.length/\∀(k:Nat) (o:Oper) (a:AOper),l[k]?=some o->items[k]?=some a->Item P nt ops (tl.contains (i+k)) o a
 | [],i,items,h=>by grind [itemsOf]
 | o::r,i,items,h=>by
  simp only[itemsOf]at h;split at h
  ·rename_i a s h1 h2;simp at h;subst h;obtain⟨l1,u⟩:=Fq h2;grind [O7,An]
  ·cases h
theorem DX {masks:List Nat}{k:Nat}:∀(l:List Edge) (s:Nat),(l.foldl (λ s e=>if Region.binds .any e then s ||| 2 ^ e.on ||| masks.getD e.on 0 else s) s).testBit k=true ->
  s.testBit k=true\/∃e,e∈l/\Region.binds .any e=true/\(k=e.on\/(masks.getD e.on 0).testBit k=true):=by
 intro l
 induction l with
 | nil=>intro s h;exact Or.inl h
 | cons e r u =>
  grind
theorem DV {masks:List Nat}:∀{l:List Nat},ordOk masks l=true->l.Pairwise (λ i k=>(masks.getD k 0).testBit i=true)
 | [],_=>by simp
 | i::r,h=>by
  simp only[ordOk,Bool.and_eq_true,List.all_eq_true]at h;exact List.pairwise_cons.2 ⟨λ k hk=>h.1 k hk,DV h.2⟩
theorem mem_zipIdx {α:Type}{l:List α}{i:Nat}{x:α}(h:l[i]?=some x):(x,i)∈l.zipIdx:=by
 grind
theorem Xv {tw:Bool}{masks tl:List Nat}(h:(if tw then ord2 masks tl else ordOk masks tl)=true):∀l k i i':Nat,tl[l]?=some i->tl[k]?=some i'->l<k->(tw=true/\l=0/\k=1)\/(masks.getD i' 0).testBit i=true:=by
 have one:∀{t:List Nat},ordOk masks t=true->∀l k i i':Nat,t[l]?=some i->t[k]?=some i'->l<k->(masks.getD i' 0).testBit i=true:=by
  intro t ht l k i i' hl hk u;have E:=(aq.1 hl);have G:=(aq.1 hk);have:=List.pairwise_iff_getElem.1 (DV ht) l k E.1 G.1 u;grind
 intro l k i i' hl hk u
 cases tw with
 | false=>grind
 | true =>
  rw[if_pos rfl]at h
  match tl,h with
  | a::b::r,h =>
   simp only[ord2,Bool.and_eq_true,List.all_eq_true]at h
   match l,k,hl,hk,u with
   | 0,1,_,_,_=>grind
   | 0,k+2,hl,hk,_ =>
    grind
   | 1,k+2,hl,hk,_ =>
    grind
   | l+2,k+2,hl,hk,u =>
    grind
  | [],h=>simp[ord2]at h
  | [_],h=>simp[ord2]at h
theorem RD {tw:Bool}{ops:Array Oper}{items:List AOper}{masks tl rv:List Nat}(hi:itemsOf P nt ops tl ops.toList 0=some items) (hc:dchk tw ops items masks tl rv=true):Jq P nt ops items masks tl (rv.filterMap (λ i=>items[i]?)) tw:=by
 obtain⟨l1,H⟩:=Fq hi;simp only[dchk,Bool.and_eq_true,List.all_eq_true]at hc;obtain⟨⟨⟨⟨G,V⟩,U⟩,S⟩,T⟩:=hc;have pair:∀(i k:Nat) (a b:AOper),items[i]?=some a->items[k]?=some b->pairOk masks tl rv i k a b=true:=λ i k a b ha hb=>T (a,i) (mem_zipIdx ha) (b,k) (mem_zipIdx hb)
 refine⟨by simpa using l1,λ i o a ho ha=>?_,λ i o ho Q he hb=>?_,λ i o ho k hk=>?_,λ i hi=>by simpa using V i hi,Xv U,λ i k a b ha hb hn s hs=>?_,λ i k a b ha hb hn hk s hs hr=>?_,λ i k a b ha hb hn hk O I=>?_,λ b hb=>?_⟩
 ·grind
 ·have:=(G (o,i) (mem_zipIdx (by simpa using ho))).1 Q he;simpa[hb] using this
 ·have:=(G (o,i) (mem_zipIdx (by simpa using ho))).2;have u:masks.getD i 0=G1 masks o.after.toList:=by simpa using this
  rw[u]at hk;rcases DX _ _ hk with h|h
  ·simp at h
  ·exact h
 ·grind [pairOk]
 ·grind [pairOk]
 ·grind [pairOk]
 ·simp only[List.mem_filterMap]at hb;obtain⟨k,hk,hb⟩:=hb;have:=S k hk;rw[hb]at this;simp only[Bool.and_eq_true,Bool.not_eq_true',Option.isNone_iff_eq_none]at this
  have E:k<ops.size:=by
   grind
  have It:=H k ops[k] b (by simp[E]) hb;rw[Nat.zero_add]at It;have hop:=It.op;grind [jZ]
theorem Yx (P:Program) (nt:Nat) (tbl:TTq):CX P nt (cDr0 P nt tbl):=by
 intro id ops ac h Q e hp u;unfold cDr0 at h;split at h
 case isFalse=>cases h
 rename_i hm
 cases ht:tbl id with
 | none=>simp[ht]at h
 | some p =>
  obtain⟨masks,tl,rv⟩:=p;simp only[ht]at h
  cases hi:itemsOf P nt ops tl ops.toList 0 with
  | none=>simp[hi]at h
  | some items =>
   simp only[hi]at h;split at h
   case isFalse=>cases h
   rename_i hc;simp only[Option.some.injEq]at h;subst h;exact Sx (K:=Q .normal) (RD hi hc) hm (λ _ _ h=>h) u
def twoOk (P:Program) (nt:Nat) (ops:Array Oper) (items:List AOper) (masks tl:List Nat):Bool :=
 match tl with
 | ia::ib::r=>match ops[ia]?,ops[ib]? with
  | some oa,some ob=>match oa.op,ob.op,oa.dst,ob.dst,oa.guard,ob.guard with
   | .alloc ta,.alloc tb,some sa,some sb,none,none=>(eJ P ta).isSome&&(eJ P tb).isSome&&ia != ib && !r.contains ia && !r.contains ib&&sa != sb&&decide (sa<nt)&&decide (sb<nt) &&
     r.all (λ k=>(masks.getD k 0).testBit ia&&(masks.getD k 0).testBit ib)&&items.zipIdx.all (λ q=>tl.contains q.2||(!q.1.rd.contains sa && !q.1.rd.contains sb&&q.1.dst != some sa&&q.1.dst != some sb))
   | _,_,_,_,_,_=>false
  | _,_=>false
 | _=>false
theorem TR {ops:Array Oper}{items:List AOper}{masks tl:List Nat}(h:twoOk P nt ops items masks tl=true):∃ia ib r sa sb za zb,Two P nt ops items masks tl ia ib r sa sb za zb:=by
 unfold twoOk at h;split at h
 case h_2=>cases h
 rename_i ia ib r;split at h
 case h_2=>cases h
 rename_i oa ob E u;split at h
 case h_2=>cases h
 rename_i I H sa sb h1 h2 h3 h4 Q O;simp only[Bool.and_eq_true,Bool.not_eq_true',bne_iff_ne,ne_eq,decide_eq_true_eq,List.all_eq_true,Option.isSome_iff_exists]at h;obtain⟨⟨⟨⟨⟨⟨⟨⟨⟨⟨za,c1⟩,⟨zb,c2⟩⟩,c3⟩,Z⟩,W⟩,V⟩,U⟩,T⟩,S⟩,G⟩:=h;refine⟨ia,ib,r,sa,sb,za,zb,rfl,⟨c3,by simpa using Z,by simpa using W⟩,⟨oa,I,E,h1,c1,h3,Q⟩,⟨ob,H,u,h2,c2,h4,O⟩,V,S,λ k b hb hk=>?_,⟨U,T⟩⟩;have:=G (b,k) (mem_zipIdx hb);grind
def aa1 (P:Program) (nt:Nat) (tbl:TTq) (id:Nat) (ops:Array Oper):Option ACode :=
 if P.follows .mixedOrders then
  match tbl id with
  | some (masks,tl,rv)=>match itemsOf P nt ops tl ops.toList 0 with
   | some items=>if dchk true ops items masks tl rv&&twoOk P nt ops items masks tl then
     some (.dreg (((List.range ops.size).filter (λ i=> !tl.contains i)).filterMap (λ i=>items[i]?)) (tl.filterMap (λ i=>items[i]?)) (rv.filterMap (λ i=>items[i]?))) else none
   | none=>none
  | none=>none
 else none
theorem Yw (P:Program) (nt:Nat) (tbl:TTq):CX P nt (aa1 P nt tbl):=by
 intro id ops ac h Q e hp u;unfold aa1 at h;split at h
 case isFalse=>cases h
 rename_i hm
 cases ht:tbl id with
 | none=>simp[ht]at h
 | some p =>
  obtain⟨masks,tl,rv⟩:=p;simp only[ht]at h
  cases hi:itemsOf P nt ops tl ops.toList 0 with
  | none=>simp[hi]at h
  | some items =>
   simp only[hi]at h;split at h
   case isFalse=>cases h
   rename_i hc;simp only[Bool.and_eq_true]at hc;simp only[Option.some.injEq]at h;subst h;obtain⟨_,_,_,_,_,_,_,T⟩:=TR hc.2;exact PU (K:=Q .normal) (RD hi hc.1) T hm (λ _ _ h=>h) u
end Go.Am
namespace Go.Am
open Go
variable [ck]
variable {P:Program}{nt:Nat}
def AOp.kS:AOp->Bool
 | .mov _=>true
 | .pick _ _ _=>true
 | .bin _ _ _=>true
 | .eqv _ _ _ _ _=>true
 | .un _ _=>true
 | .conv _ _=>true
 | .ext _ _=>true
 | .fld _ _ _ _=>true
 | .bld _ _=>true
 | .bldS _ _ _ _ _=>true
 | .slen _=>true
 | .sidx _ _ _ _ _=>true
 | .sslc _ _ _=>true
 | .mkf _ _ _=>true
 | .mn _ _=>true
 | .mx _ _=>true
 | .mn3 _ _ _=>true
 | .mx3 _ _ _=>true
 | _=>false
theorem JV {op:AOp}(hf:op.kS=true){K:D->Prop}{e:LEnv}{h h':Heap}(hv:vcdOp P op K e h):vcdOp P op K e h':=by
 cases op<;>first|exact hv|cases hf
theorem ValRdy.free {a:AOper}(hf:a.op.kS=true){e:LEnv}{h h':Heap}(hv:ValRdy P a e h):ValRdy P a e h':=by
 obtain⟨d,h1,h2⟩:=hv;refine⟨d,h1,?_⟩
 cases hg:a.guard with
 | none=>rw[hg]at h2;exact λ u hk=>JV hf (h2 u hk)
 | some p =>
  obtain⟨g,want⟩:=p;rw[hg]at h2;obtain⟨b,H,G,E⟩:=h2;exact⟨b,H,λ hb u hk=>JV hf (G hb u hk),E⟩
def IP (masks tl:List Nat) (k:Nat):Nat:=(tl.filter λ i=>(masks.getD k 0).testBit i).length
def lL (items:List AOper) (masks tl:List Nat) (j:Nat):List AOper:=((List.range items.length).filter λ k=> !tl.contains k&&IP masks tl k == j).filterMap λ k=>items[k]?
def sRevI (items:List AOper) (masks tl:List Nat) (j i:Nat):List Nat :=
 (List.range items.length).filter λ k=> !tl.contains k&&decide (IP masks tl k<j) && !(masks.getD i 0).testBit k&&(match items[k]? with|some b=> !b.op.kS|none=>false)
def DR (items:List AOper) (masks tl:List Nat) (j i:Nat):List AOper:=(sRevI items masks tl j i).filterMap λ k=>items[k]?
def sCode (items:List AOper) (masks tl:List Nat):List Nat->Nat->ACode
 | [],j=>.dreg (lL items masks tl j) [] []
 | i::r,j=>.seq (.dreg (lL items masks tl j) (match items[i]? with|some a=>[a]|none=>[⟨none,.dead,none⟩]) (DR items masks tl (j+1) i)) (sCode items masks tl r (j+1))
def sRest (P:Program) (items:List AOper) (masks tl:List Nat):List Nat->Nat->(LEnv->Heap->Prop)->LEnv->Heap->Prop
 | [],_,K=>K
 | i::r,j,K=>match items[i]? with
  | some a=>zv P a λ e h=>HP P (DR items masks tl (j+1) i) e h/\vcVals P (lL items masks tl (j+1)) (sRest P items masks tl r (j+1) K) e h
  | none=>λ _ _=>False
def YY:AOp->Bool
 | .bldS ..=>false
 | .mk ..=>false
 | .call ..=>false
 | .fadd ..=>false
 | .nilq ..=>false
 | _=>true
theorem TK {op:AOp}(hp:YY op=true){K:D->Prop}{e:LEnv}{h:Heap}:vcdOp P op K e h=vcOp P op (λ d _=>K d) e h:=by
 cases op<;>first|rfl|cases hp
theorem JU {op:AOp}{K K':D->Prop}(hk:∀d,K d->K' d){e:LEnv}{h:Heap}(hv:vcdOp P op K e h):vcdOp P op K' e h:=by
 by_cases hp:YY op=true
 ·grind [TK,uz]
 cases op with
 | bldS a b c d f=>exact⟨hv.1,hv.2.1,hv.2.2.1,hk _ hv.2.2.2⟩
 | call f as =>
  obtain⟨r,h1,h2,h3,h4⟩:=hv;exact⟨r,h1,h2,h3,hk _ h4⟩
 | mk a b z l c =>
  simp only[vcdOp]at hv ⊢;exact hO (λ i hi=>hO (λ j u=>⟨u.1,u.2.1,hk _ u.2.2⟩) hi) hv
 | fadd x o =>
  grind [vcdOp]
 | nilq neg x =>
  grind [vcdOp]
 | _=>exact absurd rfl hp
theorem sq:∀{l:List AOper}{K K':LEnv->Heap->Prop},(∀e h,K e h->K' e h)->∀{e:LEnv}{h:Heap},vcVals P l K e h->vcVals P l K' e h
 | [],_,_,hk,e,h,u=>hk e h u
 | o::r,K,K',hk,e,h,u=>by
  simp only[vcVals,wh]at u ⊢
  cases hg:o.guard with
  | none =>
   simp only[hg]at u ⊢;exact JU (λ d hd=>sq hk hd) u
  | some q =>
   obtain⟨j,want⟩:=q;simp only[hg,aj]at u ⊢;cases hb:gv (e.get j)<;>simp only[hb]at u ⊢<;>try exact u
   exact⟨λ hb=>JU (λ d hd=>sq hk hd) (u.1 hb),λ hb=>sq hk (u.2 hb)⟩
theorem EK {o:AOper}{K K':LEnv->Heap->Prop}(hk:∀e h,K e h->K' e h){e:LEnv}{h:Heap}(hv:zv P o K e h):zv P o K' e h:=by
 simp only[ji,vguard]at hv ⊢;grind [uz]
theorem DS {items:List AOper}{masks tl:List Nat}:∀(l:List Nat) (j:Nat){Q:LPost}{e:LEnv}{h:Heap},vcC P (sCode items masks tl l j) Q e h->vcVals P (lL items masks tl j) (sRest P items masks tl l j (Q .normal)) e h
 | [],j,Q,e,h,u=>u
 | i::r,j,Q,e,h,u=>by
  simp only[sCode,vcC]at u;refine sq (λ e h u=>?_) u;simp only[sRest];have u:=DG u
  cases hi:items[i]? with
  | none=>simp only[hi,gL,ji,vcOp]at u
  | some a =>
   simp only[hi,gL]at u ⊢;exact EK (λ e h E=>⟨E.1,DS r (j+1) E.2⟩) u
structure AZ (P:Program) (nt:Nat) (ops:Array Oper) (items:List AOper) (masks tl:List Nat):Prop where
 len:items.length=ops.size
 itv:∀(i:Nat) (o:Oper) (a:AOper),ops[i]?=some o->items[i]?=some a->i∉tl->Item P nt ops false o a
 itt:∀(i:Nat) (o:Oper),ops[i]?=some o->i∈tl->∃fz:Bool,cOper P fz nt ops o=items[i]?
 edge:∀(i:Nat) (o:Oper),ops[i]?=some o->∀e∈o.after.toList,Region.binds .any e=true->e.on<i
 mask:∀(i:Nat) (o:Oper),ops[i]?=some o->∀k,(masks.getD i 0).testBit k=true->∃e,e∈o.after.toList/\Region.binds .any e=true/\(k=e.on\/(masks.getD e.on 0).testBit k=true)
 tlt:∀i∈tl,i<ops.size
 stg:∀(k l i:Nat),k<ops.size->k∉tl->tl[l]?=some i->((masks.getD k 0).testBit i=true↔l<IP masks tl k)
 rdv:∀(i k:Nat) (a b:AOper),items[i]?=some a->items[k]?=some b->i∉tl->∀s,a.dst=some s->(i≠k->b.dst≠some s)/\(s∈b.rd->i<k/\(masks.getD k 0).testBit i=true/\(k∉tl->IP masks tl i<=IP masks tl k))
 rdt:∀(i k:Nat) (a b:AOper),items[i]?=some a->items[k]?=some b->i∈tl->k∉tl->∀s,a.dst=some s->s∈b.rd->(masks.getD k 0).testBit i=true\/(masks.getD i 0).testBit k=true
 rev:∀(l i:Nat),tl[l]?=some i->∀b,b∈DR items masks tl (l+1) i->b.guard=none/\b.dst.isSome=true
structure acW (P:Program) (nt:Nat) (ops:Array Oper) (items:List AOper) (masks tl:List Nat):Prop extends AZ P nt ops items masks tl where
 tord:∀l k i i':Nat,tl[l]?=some i->tl[k]?=some i'->l<k->(masks.getD i' 0).testBit i=true
variable {ops:Array Oper}{items:List AOper}{masks tl:List Nat}
theorem UN (S:AZ P nt ops items masks tl):∀(i:Nat),i<ops.size->∀k,(masks.getD i 0).testBit k=true->k<i:=by
 intro i
 induction i using Nat.strongRecOn with
 | _ i E =>
  intro hi k hk;have ho:ops[i]?=some ops[i]:=by simp[hi]
  obtain⟨e,he,hb,hc⟩:=S.mask i _ ho k hk;have u:=S.edge i _ ho e he hb;grind
theorem Rd (S:AZ P nt ops items masks tl){listed:Array Bool}(hsz:listed.size=ops.size) (hdc:∀i k,i<ops.size->cW listed i=true->(masks.getD i 0).testBit k=true->cW listed k=true)
  {i:Nat}(hi:i∈Region.ready .any ops listed):Rdy ops masks listed i:=by
 obtain⟨h1,h2,h3⟩:=Km hi;refine⟨h1,h2,λ k hk=>?_⟩;have ho:ops[i]?=some ops[i]:=by simp[h1]
 obtain⟨e,he,hb,hc⟩:=S.mask i _ ho k hk;grind [cW]
theorem Pt (S:AZ P nt ops items masks tl){listed:Array Bool}(hsz:listed.size=ops.size) (hr:Region.ready .any ops listed=[]):∀i,i<ops.size->cW listed i=true:=by
 intro i
 induction i using Nat.strongRecOn with
 | _ i G =>
  intro hi;by_cases hl:cW listed i=true
  ·exact hl
  ·exfalso
   have u:i∈Region.ready .any ops listed:=by
    unfold Region.ready;simp only[List.mem_filter,List.mem_range,Bool.and_eq_true,Bool.not_eq_true'];refine⟨hi,by grind [cW],?_⟩;have ho:ops[i]?=some ops[i]:=by simp[hi]
    rw[ho];simp only[Option.map_some,Option.getD_some,Array.all_eq_true'];intro e he;by_cases hb:Region.binds .any e=true
    ·have E:=S.edge i _ ho e (by simpa using he) hb;grind [cW]
    ·simp[hb]
   grind
theorem Zj (S:AZ P nt ops items masks tl){JJ:Array Bool->Act->World->Prop}{Q:Exit->Act->World->Prop}{r:Option Nat}
  (hsz:∀listed a w,JJ listed a w->listed.size=ops.size) (hdc:∀listed a w,JJ listed a w->∀i k,i<ops.size->cW listed i=true->(masks.getD i 0).testBit k=true->cW listed k=true)
  (step:∀listed a w i,JJ listed a w->i∈Region.ready .any ops listed->wpOpIn (rF r) 0 P ops Q i (JJ (listed.setIfInBounds i true)) a w)
  (hq:∀listed a w,JJ listed a w->(∀i,i<ops.size->cW listed i=true)->Q .normal a w):∀(fuel:Nat) (listed:Array Bool) (a:Act) (w:World),left ops.size listed<=fuel->JJ listed a w->wpAnyIn (rF r) 0 P .any ops Q fuel listed a w:=by
 have done:∀(listed:Array Bool) (a:Act) (w:World),JJ listed a w->Region.ready .any ops listed=[]->Q .normal a w:=by
  grind [Pt]
 intro fuel
 induction fuel with
 | zero =>
  intro listed a w hl hJ
  have hr:Region.ready .any ops listed=[]:=by
   cases u:Region.ready .any ops listed with
   | nil=>rfl
   | cons x r =>
    exfalso;have hm:x∈Region.ready .any ops listed:=by rw[u];simp
    have R:=Rd S (hsz _ _ _ hJ) (hdc _ _ _ hJ) hm;have:x∈(List.range ops.size).filter λ i=> !cW listed i:=by simp[R.lt,R.un]
    grind [left]
  exact⟨hr,done listed a w hJ hr⟩
 | succ fuel H =>
  intro listed a w hl hJ;refine⟨done listed a w hJ,λ i hi=>?_⟩;have R:=Rd S (hsz _ _ _ hJ) (hdc _ _ _ hJ) hi;refine wpOpIn_mono (λ I w' G=>H _ I w' ?_ G) (step listed a w i hJ hi);have E:i<listed.size:=by rw[hsz _ _ _ hJ];exact R.lt
  have:=Nz (l:=List.range ops.size) (p:=λ i=> !cW listed i) (q:=λ k=> !cW (listed.setIfInBounds i true) k) (λ x _ hx=>by
   grind [eW]) (i:=i) (by simpa using R.lt) (by simp[R.un]) (by simp[eW E])
  grind [left]
structure QQ (P:Program) (nt:Nat) (ops:Array Oper) (items:List AOper) (masks tl:List Nat) (X:XT) (L:(Nat->Option Nat)->Heap->World->Prop) (w₀:World) (K:LEnv->Heap->Prop) (listed:Array Bool) (a:Act) (w:World)
  (ρ:Nat->Option Nat) (h:Heap) (e:LEnv) (j:Nat):Prop where
 size:listed.size=ops.size
 dc:∀i k,i<ops.size->cW listed i=true->(masks.getD i 0).testBit k=true->cW listed k=true
 le:L ρ h w
 hr:au ⟨ρ,X,h,w.heap⟩
 ws:WS w₀ w
 defers:fV ⟨ρ,X,h,w.heap⟩ a.defers
 tsz:a.tmps.size=nt
 jle:j<=tl.length
 rest:sRest P items masks tl (tl.drop j) j K e h
 prog:∀l i,tl[l]?=some i->(cW listed i=true↔l<j)
 rel:∀s,(∃i b,items[i]?=some b/\i∉tl/\cW listed i=false/\b.dst=some s)\/aA ⟨ρ,X,h,w.heap⟩ (e.get s) (a.tmps.getD s Go.undef)
 val:∀i b,items[i]?=some b->i∉tl->cW listed i=false->IP masks tl i<=j->ValRdy P b e h
theorem fy {j:Nat}{b:AOper}(hb:b∈lL items masks tl j):∃i,items[i]?=some b/\i∉tl/\IP masks tl i=j:=by
 grind [lL]
theorem EZ {i:Nat}{b:AOper}(hi:items[i]?=some b) (hn:i∉tl):b∈lL items masks tl (IP masks tl i):=by
 grind [lL]
theorem Jw (S:AZ P nt ops items masks tl){j:Nat}{K:LEnv->Heap->Prop}{e:LEnv}{h:Heap}(hv:vcVals P (lL items masks tl j) K e h) :
  ∃T:LEnv,K T h/\(∀s,(∀a,a∈lL items masks tl j->a.dst≠some s)->T.get s=e.get s)/\∀a,a∈lL items masks tl j->ValRdy P a T h:=by
 have G:∀(i:Nat) (b:AOper),items[i]?=some b->i∉tl->Item P nt ops false (ops[i]!) b:=by
  intro i b hi hn;have hl:i<ops.size:=by rw[<- S.len];grind
  exact S.itv i _ b (by simp[hl]) hi hn
 refine Ob _ (λ b hb=>?_) (λ b hb s hs u=>?_) ?_ hv
 ·obtain⟨i,h1,h2,h3⟩:=fy hb;have:=(G i b h1 h2).op;grind [jZ]
 ·obtain⟨i,h1,h2,h3⟩:=fy hb;have:=((S.rdv i i b b h1 h1 h2 s hs).2 u).1;omega
 ·have Q:((List.range items.length).filter λ k=> !tl.contains k&&IP masks tl k == j).Pairwise (· < ·):=List.Pairwise.filter _ List.pairwise_lt_range
  have I:∀i,i∈((List.range items.length).filter λ k=> !tl.contains k&&IP masks tl k == j)->i∉tl:=by
   grind
  have:∀(l:List Nat),(∀i∈l,i∉tl)->l.Pairwise (· < ·)->(l.filterMap (λ i=>items[i]?)).Pairwise (λ a b=>∀s,b.dst=some s->a.dst≠some s/\s∉a.rd):=by
   intro l
   induction l with
   | nil=>intro _ _;simp
   | cons x r V =>
    intro hn E;rw[List.pairwise_cons]at E;have O:=V (λ i hi=>hn i (by simp[hi])) E.2
    cases hx:items[x]? with
    | none=>grind
    | some U =>
     rw[List.filterMap_cons_some hx,List.pairwise_cons];refine⟨λ b hb s hs=>?_,O⟩;simp only[List.mem_filterMap]at hb;obtain⟨k,hk,hb⟩:=hb;have W:=E.1 k hk;have H:=hn k (by simp[hk]);refine⟨(S.rdv k x b U hb hx H s hs).1 (by omega),λ u=>?_⟩;have:=((S.rdv k x b U hb hx H s hs).2 u).1;omega
  exact this _ I Q
theorem wpOp_put {ops:Array Oper}{i:Nat}{K:Act->World->Prop}{a:Act}{w:World}{Q:Exit->Act->World->Prop}{r:Option Nat}(h:wpOpIn (rF r) 0 P ops Q i K a w) :
    wpOpIn (rF r) 0 P ops Q i (λ a' w'=>K a' w'/\∀s,(∀o,ops[i]?=some o->o.dst≠some s)->a'.tmps.getD s Go.undef=a.tmps.getD s Go.undef) a w:=by
  unfold wpOpIn at h ⊢
  cases ho:ops[i]? with
  | none=>grind
  | some o =>
    simp only[ho]at h ⊢
    have put:∀(d:List Deferred) (v:Value) (s:Nat),(∀E,some o=some E->E.dst≠some s)->(({ a with defers:=d }:Act).put o.dst v).tmps.getD s Go.undef=a.tmps.getD s Go.undef:=by
      intro d v s hs;have:=hs o rfl
      cases hd:o.dst with
      | none=>rfl
      | some x =>
        have hx:x≠s:=by rintro rfl;exact this hd
        simp[Act.put,hx]
    split
    · rename_i hw
      rw[if_pos hw]at h;unfold Oper.wpIn at h ⊢;refine⟨h.1,?_⟩;have h:=h.2;generalize (o.semAt (rF r).round a.eval).run P w=res at h ⊢
      cases res with
      | ok n w' =>
        cases n<;>simp only[Oper.uponIn]at h ⊢<;>first
          | exact h
          | exact⟨h,λ s hs=>put _ _ s hs⟩
          | exact⟨h,λ s hs=>put a.defers _ s hs⟩
          | (refine⟨h.1,CallsIn.mono h.2 (λ e u he=>?_)⟩
             cases e
             · exact⟨he,λ s hs=>put a.defers _ s hs⟩
             · exact he
             · exact he)
          | (refine⟨h.1,RoundIn.mono h.2 (λ e u he=>?_)⟩
             cases e
             · exact⟨he,λ s hs=>put a.defers _ s hs⟩
             · exact he
             · exact he)
          | (refine⟨h.1,RowsIn.mono h.2 (λ v u he=>?_)⟩
             exact⟨he,λ s hs=>put a.defers _ s hs⟩)
      | halt x w' =>
        cases x<;>simp only[Oper.uponIn]at h ⊢<;>exact h
    · rename_i hw
      rw[if_neg hw]at h;exact⟨h.1,h.2,λ s hs=>put a.defers _ s hs⟩
open Classical in
theorem PB (S:AZ P nt ops items masks tl){X:XT}{L:(Nat->Option Nat)->Heap->World->Prop}(Lmono:∀ρ h w ρ' h' w',L ρ h w->Ctx.le ⟨ρ,X,h,w.heap⟩ ⟨ρ',X,h',w'.heap⟩->L ρ' h' w'){w₀:World}{K:LEnv->Heap->Prop}{listed:Array Bool}{a:Act}{w:World}
  {Q:Exit->Act->World->Prop}{rd:Option Nat}{ρ:Nat->Option Nat}{h:Heap}{e:LEnv}{j:Nat}
  (hJ:QQ P nt ops items masks tl X L w₀ K listed a w ρ h e j) {i:Nat}(R:Rdy ops masks listed i) (hlj:∀l,tl[l]?=some i->l=j) :
  wpOpIn (rF rd) 0 P ops Q i (λ a' w'=>∃ρ' h' e' j',QQ P nt ops items masks tl X L w₀ K (listed.setIfInBounds i true) a' w' ρ' h' e' j'/\(j'=j\/(j'=j+1/\tl[j]?=some i))/\Ctx.le ⟨ρ,X,h,w.heap⟩ ⟨ρ',X,h',w'.heap⟩ /\
   ∀s,(∀k b,items[k]?=some b->(k∉tl/\IP masks tl k≠0)\/(k=i/\i∈tl)->b.dst≠some s)->e'.get s=e.get s) a w:=by
 have j2:=hJ.dc;have U:=hJ.size;have g6:i<listed.size:=by rw[hJ.size];exact R.lt
 have c3:=λ k=>eW (k:=k) g6
 obtain⟨o,ho⟩:∃o,ops[i]?=some o:=⟨ops[i]'R.lt,by simp[R.lt]⟩;have c4:i<items.length:=by rw[S.len];exact R.lt
 obtain⟨a0,Z⟩:∃x,items[i]?=some x:=⟨items[i]'c4,by simp[c4]⟩;obtain⟨_,_,hle,hr,e7,g8,hsz,hj,u,c7,hrel,c1⟩:=hJ
 let c:Ctx:=⟨ρ,X,h,w.heap⟩
 let pend:Nat->Prop:=λ s=>∃k b,items[k]?=some b/\k∉tl/\cW listed k=false/\b.dst=some s
 let I:LEnv:=(a0.rd++List.range nt).map λ s=>(s,if pend s then D.undef else e.get s)
 have a6:∀s,I.get s=if s∈a0.rd++List.range nt then(if pend s then .undef else e.get s) else .undef:=λ s=>KJ _ _ s
 have c2:oe c nt I.get a:=by
  refine⟨hr.glob,hr.lo,g8,hsz,λ s=>?_⟩;rw[a6];split
  ·split
   ·exact .undef _
   grind
  ·exact .undef _
 have c6:∀r∈a0.rd,I.get r=e.get r:=by
  intro r E;rw[a6,if_pos (by simp[E]),if_neg];rintro⟨k,b,hb,hk,V,hd⟩;have hm:=((S.rdv k i b a0 hb Z hk r hd).2 E).2.1;have:=R.anc k hm;grind
 have O:∀r∈a0.op.reads,e.get r=I.get r:=λ r E=>(c6 r (by simp[AOper.rd,E])).symm
 have g9:=Vx g6 R j2
 have aS:∀{ρ':Nat->Option Nat}{h':Heap}{t':Env}{a':Act}{w':World}{d:D},c.le ⟨ρ',c.X,h',w'.heap⟩->oe ⟨ρ',c.X,h',w'.heap⟩ nt t' a'->t'=(I.put o.dst d).get->∀s,o.dst≠some s->¬pend s->aA ⟨ρ',c.X,h',w'.heap⟩ (e.get s) (a'.tmps.getD s Go.undef):=by
  intro ρ' h' t' a' w' d g4 g1 ht s hs hp;by_cases g0:s<nt
  ·have:=g1.rel s;rw[ht,LEnv.bu]at this
   have e1:Env.put I.get o.dst d s=e.get s:=by
    have:Env.put I.get o.dst d s=I.get s:=by
     cases hd:o.dst with
     | none=>rfl
     | some x =>
      have:s≠x:=by rintro rfl;exact hs hd
      simp[Env.put,ak,this]
    grind
   grind
  ·have h1:=(hrel s).resolve_left hp;have e1:a.tmps.getD s Go.undef=Go.undef:=by simp[Array.getD,hsz,g0]
   have e2:a'.tmps.getD s Go.undef=Go.undef:=by simp[Array.getD,g1.size,g0]
   rw[e1]at h1;rw[e2];exact h1.mono g4
 by_cases W:i∈tl
 ·
  obtain⟨l,hl⟩:=db W;have g3:l=j:=hlj l hl;subst g3;have c9:=(aq.1 hl).1;have h7:tl[l]=i:=(aq.1 hl).2;rw[List.drop_eq_getElem_cons c9,h7]at u;simp only[sRest,Z]at u
  obtain⟨fz,e4⟩:∃fz:Bool,cOper P fz nt ops o=some a0:=by
   obtain⟨fz,h⟩:=S.itt i o ho W;grind
  unfold cOper at e4;split at e4
  case isFalse=>cases e4
  rename_i j5;have hd:∀j,o.dst=some j->j<nt:=by grind
  have hop:∃op,cOp P fz o=some op/\a0.op=op/\a0.dst=o.dst/\(o.guard=none->a0.guard=none)/\∀j want,o.guard=some (j,want)->∃s,(ops[j]?).bind (·.dst)=some s/\a0.guard=some (s,want):=by
   grind
  obtain⟨op,hop,e1,e2,gn,gs⟩:=hop;subst e1;have a2:=sE hop
  let KK:LEnv->Heap->Prop:=λ e h=>HP P (DR items masks tl (l+1) i) e h/\vcVals P (lL items masks tl (l+1)) (sRest P items masks tl (tl.drop (l+1)) (l+1) K) e h
  let G:Env->Heap->Prop:=λ t' h'=>∃d,t'=(I.put o.dst d).get/\KK (e.put a0.dst d) h'
  have run:vcOp P a0.op (λ d h'=>KK (e.put a0.dst d) h') e h->MR P nt o (vc P nt ops [] G) I.get h:=by
   intro hv;have:=u6 (nt:=nt) hop hd _ I h (DH O _ h hv);grind [kV,iy]
  have hx:vc P nt ops [i] G I.get h:=by
   refine kF ho a2 a0.guard (λ j' want hg=>by grind) gn hd ?_;simp only[ji,vguard]at u
   cases hg:a0.guard with
   | none=>simp only[hg]at u;exact run u
   | some p =>
    obtain⟨g,want⟩:=p;simp only[hg]at u;cases hb:gv (e.get g)<;>simp only[hb]at u<;>try exact u.elim
    rename_i b;refine⟨b,by grind [AOper.rd],λ a5=>run (u.1 a5),λ a5=>?_⟩;grind [iy,LEnv.bu]
  refine one_op (c:=c) hx rfl hr c2 ?_;rintro a' w' ⟨ρ',t',h',k1,k2,k3,k4,d,ht,j1,j0⟩
  have a1:∀s,a0.dst≠some s->(e.put a0.dst d).get s=e.get s:=by
   intro s hs;rw[LEnv.bu]
   cases hd:a0.dst with
   | none=>rfl
   | some x =>
    have:s≠x:=by rintro rfl;exact hs hd
    simp[Env.put,ak,this]
  obtain⟨T,t1,t2,t3⟩:=Jw S j0
  have j6:∀k b,items[k]?=some b->k∉tl->IP masks tl k=l+1->cW listed k=false:=by
   intro k b hb hk e9;have e0:k<ops.size:=by rw[<- S.len];grind
   have hm:=(S.stg k l i e0 hk hl).2 (by omega);grind
  refine⟨ρ',h',T,l+1,⟨by simp[U],g9,Lmono _ _ _ _ _ _ hle k1,k2,e7.trans k3,k4.defers,k4.size,by omega,t1,λ l' i' h8=>?_,λ s=>?_,λ k b hb H V e9=>?_⟩,Or.inr ⟨rfl,hl⟩,k1,λ s hs=>?_⟩
  rotate_right
  ·rw[t2 s (λ b hb a8=>by grind [fy])];grind
  ·rw[c3];grind
  ·by_cases hex:∃b,b∈lL items masks tl (l+1)/\b.dst=some s
   ·obtain⟨b,hb,a8⟩:=hex;obtain⟨k,h1,h2,h3⟩:=fy hb;left;refine⟨k,b,h1,h2,?_,a8⟩;grind
   ·rw[t2 s (λ b hb a8=>hex ⟨b,hb,a8⟩)];by_cases hs:a0.dst=some s
    ·right;have:=k4.rel s;rw[ht,LEnv.bu, <- e2,hs]at this;rw[LEnv.bu,hs];simpa[Env.put,ak] using this
    ·rw[a1 s hs];by_cases hp:pend s
     ·grind
     grind
  ·rw[c3]at V;split at V
   ·cases V
   ·rename_i h9;rcases Nat.lt_or_ge (IP masks tl k) (l+1) with j4|g7
    case inr =>
     grind [EZ]
    have e0:k<ops.size:=by rw[<- S.len];grind
    have v0:=c1 k b hb H V (by omega)
    have c8:(masks.getD i 0).testBit k≠true:=by
     grind
    have h5:¬(masks.getD k 0).testBit i=true:=by
     intro hm;have:=(S.stg k l i e0 H hl).1 hm;omega
    have e6:ValRdy P b (e.put a0.dst d) h':=by
     by_cases hf:b.op.kS=true
     ·refine ValRdy.congr (e:=e) (λ r E=>?_) (λ s hs=>?_) (ValRdy.free hf v0)
      ·rw[a1 r];intro hd;rcases S.rdt i k a0 b Z hb W H r hd E with hm|hm
       ·exact h5 hm
       ·exact c8 hm
      ·exact a1 s ((S.rdv k i b a0 hb Z H s hs).1 h9)
     ·have hm:b∈DR items masks tl (l+1) i:=by
       grind [DR,sRevI]
      have g2:∀b',b'∈DR items masks tl (l+1) i->b'.guard=none/\b'.op.isVal=true:=by
       intro b' e5;refine⟨(S.rev l i hl b' e5).1,?_⟩;simp only[DR,sRevI,List.mem_filterMap,List.mem_filter,List.mem_range,Bool.and_eq_true,decide_eq_true_eq,Bool.not_eq_true']at e5;obtain⟨k2,⟨q1,⟨⟨q2,q3⟩,q4⟩,q5⟩,q6⟩:=e5;have q7:k2<ops.size:=by rw[<- S.len];exact q1
       have:=(S.itv k2 ops[k2] b' (by simp[q7]) q6 (by simpa using q2)).op;grind [jZ]
      exact BN g2 j1 b hm (S.rev l i hl b hm).2
    refine ValRdy.congr (λ r E=>(t2 r λ x hx c5=>?_).symm) (λ s hs=>t2 s λ x hx c5=>?_) e6
    ·obtain⟨m,m1,m2,m3⟩:=fy hx;have:=((S.rdv m k x b m1 hb m2 r c5).2 E).2.2 H;omega
    ·obtain⟨m,m1,m2,m3⟩:=fy hx;have h6:k≠m:=by rintro rfl;omega
     exact(S.rdv k m b x hb m1 H s hs).1 h6 c5
 ·
  have It:=S.itv i o a0 ho Z W
  have e8:IP masks tl i<=j:=by
   rcases Nat.lt_or_ge j (IP masks tl i) with c9|g7
   ·exfalso
    have g5:j<tl.length:=by
     grind [IP]
    have hm:=(S.stg i j tl[j] R.lt W (by simp[g5])).2 c9;have:=(c7 j tl[j] (by simp[g5])).1 (R.anc _ hm);omega
   ·exact g7
  obtain⟨d,j3,a7⟩:=c1 i a0 Z W R.un e8;have hop:cdOp P o=some a0.op:=by have:=It.op;grind
  have a2:=wW hop
  let G:Env->Heap->Prop:=λ t' h'=>t'=(I.put o.dst d).get/\h'=h
  have run:(∀K':D->Prop,K' d->vcdOp P a0.op K' e h)->MR P nt o (vc P nt ops [] G) I.get h:=by
   intro hv;have:=Eg (nt:=nt) hop It.dlt (jN O (· = d) h (hv (· = d) rfl));grind [kV,iy]
  have hx:vc P nt ops [i] G I.get h:=by
   refine kF ho a2 a0.guard (λ j' want hg=>by obtain⟨s,h1,h2⟩:=It.gs j' want hg;exact⟨s,h1,h2⟩) It.gn It.dlt ?_
   cases hg:a0.guard with
   | none=>rw[hg]at a7;exact run a7
   | some p =>
    obtain⟨g,want⟩:=p;rw[hg]at a7;obtain⟨b,q1,q2,q3⟩:=a7;refine⟨b,by grind [AOper.rd],λ a5=>run (q2 a5),λ a5=>?_⟩;grind [iy,LEnv.bu]
  refine one_op (c:=c) hx rfl hr c2 ?_;rintro a' w' ⟨ρ',t',h',k1,k2,k3,k4,ht,rfl⟩;refine⟨ρ',h',e,j,⟨by simp[U],g9,Lmono _ _ _ _ _ _ hle k1,k2,e7.trans k3,k4.defers,k4.size,hj,u,λ l' i' h8=>?_,λ s=>?_,λ k b hb H V e9=>?_⟩,Or.inl rfl,k1,λ s hs=>rfl⟩
  ·grind
  ·by_cases hs:a0.dst=some s
   ·right;have:=k4.rel s;rw[ht,LEnv.bu, <- It.dst,hs]at this;rw[j3 s hs];simpa[Env.put,ak] using this
   ·by_cases hp:pend s
    ·grind
    ·right;exact aS k1 k4 ht s (by rw[<- It.dst];exact hs) hp
  grind
theorem Uf {id:Nat}(S:acW P nt ops items masks tl) (hm:P.follows .mixedOrders=true){Q:LPost}{e:LEnv}{h:Heap}(hv:vcC P (sCode items masks tl tl 0) Q e h):uu P nt (.region id ops true) (λ x=>up (Q x)) e.get h:=by
 intro rd c w a hh hp hr hs _;subst hh;refine wpIn_region_any hm ?_;obtain⟨T,t1,t2,t3⟩:=Jw S.toAZ (DS tl 0 hv);have H:∀i,i<ops.size->cW (Array.replicate ops.size false) i=false:=by intro i hi;unfold cW;simp[Array.getD,hi]
 have E:∀i b,items[i]?=some b->i<ops.size:=λ i b hb=>by rw[<- S.len];grind
 have U:(⟨c.ρ,c.X,c.h,w.heap⟩:Ctx)=c:=by rw[<- hp]
 refine Zj S.toAZ (JJ:=λ listed a' w'=>∃ρ h e j,QQ P nt ops items masks tl c.X (λ ρ h w=>c.le ⟨ρ,c.X,h,w.heap⟩) w (Q .normal) listed a' w' ρ h e j) (λ _ _ _ ⟨_,_,_,_,hJ⟩=>hJ.size) (λ _ _ _ ⟨_,_,_,_,hJ⟩=>hJ.dc) (λ listed a' w' i hJ hi=>?_) (λ listed a' w' hJ Z=>?_) ops.size _ a _ (Nat.le_trans (List.length_filter_le _ _) (by simp)) ?_
 ·obtain⟨ρ,h,e,j,hJ⟩:=hJ;have R:=Rd S.toAZ hJ.size hJ.dc hi;refine wpOpIn_mono (λ a' w' ⟨ρ',h',e',j',a7,_⟩=>⟨ρ',h',e',j',a7⟩) (PB S.toAZ (λ ρ h w ρ' h' w' l k=>Ctx.le.trans l k) hJ R λ l hl=>?_)
  have h1:¬l<j:=by
   intro E;have:=(hJ.prog l i hl).2 E;rw[R.un]at this;cases this
  rcases Nat.lt_or_ge j l with V|a5
  ·have G:j<tl.length:=Nat.lt_trans V (aq.1 hl).1;have a2:=S.tord j l tl[j] i (by simp[G]) hl V;have:=(hJ.prog j tl[j] (by simp[G])).1 (R.anc _ a2);omega
  ·omega
 ·obtain⟨ρ,h,e',j,hJ⟩:=hJ;obtain⟨_,_,hle,I,a1,W,hsz,hj,u,O,hrel,a8⟩:=hJ
  have G:j=tl.length:=by
   rcases Nat.lt_or_ge j tl.length with E|a5
   ·have:=(O j tl[j] (by simp[E])).1 (Z _ (S.tlt _ (List.getElem_mem E)));omega
   ·omega
  subst G;rw[List.drop_length]at u;refine⟨ρ,e'.get,h,hle,I,a1,⟨I.glob,I.lo,W,hsz,λ s=>?_⟩,e',rfl,u⟩;grind
 ·have hw:({ w with drawn:=w.drawn+1 }:World).heap=w.heap:=rfl;refine⟨c.ρ,c.h,T,0,by simp,λ i k hi hl=>(by grind),?_,?_,⟨rfl,rfl,rfl⟩,(by rw[hw,U];exact hs.defers),hs.size,Nat.zero_le _,by simpa using t1,λ l i hl=>?_,λ s=>?_,λ i b hb hn _ c1=>?_⟩
  ·grind [Ctx.le.refl]
  ·rw[hw,U];exact hr
  ·rw[H i (S.tlt i (aK hl))];simp
  ·by_cases hex:∃b,b∈lL items masks tl 0/\b.dst=some s
   ·grind [fy]
   ·right;rw[t2 s (λ b hb a6=>hex ⟨b,hb,a6⟩),hw,U];exact hs.rel s
  grind [EZ]
def sItems (P:Program) (nt:Nat) (ops:Array Oper) (tl:List Nat) (fz:Bool):List Oper->Nat->Option (List AOper)
 | [],_=>some []
 | o::r,i=>match (if tl.contains i then cOper P fz nt ops o else cdOper P nt ops o),sItems P nt ops tl fz r (i+1) with
  | some a,some s=>some (a::s)
  | _,_=>none
def sPair (masks tl:List Nat) (i k:Nat) (a b:AOper):Bool :=
 match a.dst with
 | none=>true
 | some s=>if tl.contains i then tl.contains k || !b.rd.contains s||(masks.getD k 0).testBit i||(masks.getD i 0).testBit k
  else(i == k||b.dst != some s)&&(!b.rd.contains s||(decide (i<k)&&(masks.getD k 0).testBit i&&(tl.contains k||decide (IP masks tl i<=IP masks tl k))))
def ZX (ops:Array Oper) (items:List AOper) (masks tl:List Nat):Bool :=
 (ops.toList.zipIdx.all λ p=>(p.1.after.toList.all λ e=> !Region.binds .any e||decide (e.on<p.2))&&(masks.getD p.2 0 == G1 masks p.1.after.toList)) &&
 tl.all (λ i=>decide (i<ops.size))&&ordOk masks tl &&
 ((List.range ops.size).all λ k=>tl.contains k||tl.zipIdx.all λ p=>(masks.getD k 0).testBit p.1 == decide (p.2<IP masks tl k)) &&
 (items.zipIdx.all λ p=>items.zipIdx.all λ q=>sPair masks tl p.2 q.2 p.1 q.1) &&
 (tl.zipIdx.all λ p=>(DR items masks tl (p.2+1) p.1).all λ b=>b.guard.isNone&&b.dst.isSome)
theorem zH {fz:Bool}:∀{l:List Oper}{i:Nat}{items:List AOper},sItems P nt ops tl fz l i=some items->items.length=l.length/\∀(k:Nat) (o:Oper),l[k]?=some o->(if tl.contains (i+k) then cOper P fz nt ops o else cdOper P nt ops o)=items[k]?
 | [],i,items,h=>by grind [sItems]
 | o::r,i,items,h=>by
  simp only[sItems]at h;split at h
  ·rename_i a s h1 h2;simp at h;subst h;obtain⟨l1,u⟩:=zH h2;grind
  ·cases h
theorem W2 {fz:Bool}(hi:sItems P nt ops tl fz ops.toList 0=some items) (hc:ZX ops items masks tl=true):acW P nt ops items masks tl:=by
 obtain⟨l1,I⟩:=zH hi;simp only[ZX,Bool.and_eq_true,List.all_eq_true]at hc;obtain⟨⟨⟨⟨⟨O,W⟩,V⟩,U⟩,T⟩,S⟩:=hc;have pair:∀(i k:Nat) (a b:AOper),items[i]?=some a->items[k]?=some b->sPair masks tl i k a b=true:=λ i k a b ha hb=>T (a,i) (mem_zipIdx ha) (b,k) (mem_zipIdx hb)
 refine⟨⟨by simpa using l1,λ i o a ho ha hn=>?_,λ i o ho hm=>?_,λ i o ho Q he hb=>?_,λ i o ho k hk=>?_,λ i hi=>by simpa using W i hi,λ k l i hk hn hl=>?_,λ i k a b ha hb hn s hs=>?_,λ i k a b ha hb hm hn s hs hr=>?_,λ l i hl b hb=>?_⟩,λ l k i i' hl hk E=>?_⟩
 ·have:=I i o (by simpa using ho);grind [An]
 ·have:=I i o (by simpa using ho);grind
 ·have:=(O (o,i) (mem_zipIdx (by simpa using ho))).1 Q he;simpa[hb] using this
 ·have:=(O (o,i) (mem_zipIdx (by simpa using ho))).2;have u:masks.getD i 0=G1 masks o.after.toList:=by simpa using this
  rw[u]at hk;rcases DX _ _ hk with h|h
  ·simp at h
  ·exact h
 ·have:=U k (by simpa using hk);simp only[Bool.or_eq_true,List.all_eq_true]at this;have:=(this.resolve_left (by simpa using hn)) (i,l) (mem_zipIdx hl);grind
 ·grind [sPair]
 ·grind [sPair]
 ·have:=S (i,l) (mem_zipIdx hl) b hb;grind [Option.isNone_iff_eq_none]
 ·have G:=aq.1 hl;have H:=aq.1 hk;have:=List.pairwise_iff_getElem.1 (DV V) l k G.1 H.1 E;grind
def cDrS (P:Program) (nt:Nat) (tbl:TTq) (id:Nat) (ops:Array Oper):Option ACode :=
 if P.follows .mixedOrders then
  match tbl id with
  | some (masks,tl,[q])=>if q=999999\/q=999995 then match sItems P nt ops tl (q == 999999) ops.toList 0 with
   | some items=>if ZX ops items masks tl then some (sCode items masks tl tl 0) else none
   | none=>none
   else none
  | _=>none
 else none
theorem Yu (P:Program) (nt:Nat) (tbl:TTq):CX P nt (cDrS P nt tbl):=by
 intro id ops ac h Q e hp u;unfold cDrS at h;split at h
 case isFalse=>cases h
 rename_i hm;split at h
 case h_2=>cases h
 rename_i masks tl q _;split at h
 case isFalse=>cases h
 cases hi:sItems P nt ops tl (q == 999999) ops.toList 0 with
 | none=>simp[hi]at h
 | some items =>
  simp only[hi]at h;split at h
  case isFalse=>cases h
  rename_i hc;simp only[Option.some.injEq]at h;subst h;exact Uf (W2 hi hc) hm u
end Go.Am
namespace Go.Am
open Go
variable [ck]
variable {P:Program}{nt:Nat}
structure Tt (c c':Ctx):Prop where
 hp:c'.hp=c.hp
 h:∀k,c.h k≠.free->c'.h k=c.h k
 ρ:∀k,c.h k≠.free->c'.ρ k=c.ρ k
 own:∀b,b<c.hp.size->c'.own b->c.own b
theorem aA.nL {c c':Ctx}(s:Tt c c'){d:D}{v:Value}(h:aA c d v):aA c' d v:=by
 have row:∀{n:Nat}{x:Nat×List D},(c.h n).row=some x->(c'.h n).row=some x:=λ {n x} hx=>by rw[s.h n (Slot.iI hx)];exact hx
 induction h with
 | undef v=>exact .undef v
 | nil=>exact .nil
 | nilfn=>exact .nilfn
 | nilmap=>exact .nilmap
 | nilp=>exact .nilp
 | int k n=>exact .int k n
 | bool b=>exact .bool b
 | str s=>exact .str s
 | yA p cap hm=>exact .yA p cap hm
 | sl xs b o cap esz f hne hc hm he hlen hone hcell ho _ E =>
  have hb:b<c.hp.size:=by
   cases xs with
   | nil=>exact absurd rfl hne
   | cons e r =>
    have hl:=hlen e (by simp)
    cases I:e.cells with
    | nil=>grind
    | cons d ds=>exact Hk (hcell 0 0 d (by simp[aP,I]))
  exact .sl xs b o cap esz f hne hc hm he hlen hone (λ i j d hd=>by rw[s.hp];exact hcell i j d hd) (λ h=>ho (s.own b hb h)) E
 | msDead n off len p l k hd=>exact .msDead n off len p l k (by rw[s.h n (by rw[hd];simp)];exact hd)
 | msNil n esz els u hρ=>exact .msNil n esz els (row u) (by rw[s.ρ n (Slot.iI u)];exact hρ)
 | ms n off len g esz cap els cur ty fr u hρ hl hg hs hc hm=>exact .ms n off len g esz cap els cur ty fr (row u) (by rw[s.ρ n (Slot.iI u)];exact hρ) hl (by rw[s.hp];exact hg) hs hc hm
 | msE n off esz p els u=>exact .msE n off esz p els (row u)
 | ptrDead n i j b o hd=>exact .ptrDead n i j b o (by rw[s.h n (by rw[hd];simp)];exact hd)
 | ptrBox n j g v hb hρ=>exact .ptrBox n j g v (by rw[s.h n (by rw[hb];simp)];exact hb) (by rw[s.ρ n (by rw[hb];simp)];exact hρ)
 | ptrRow n i j g esz els u hρ hi=>exact .ptrRow n i j g esz els (row u) (by rw[s.ρ n (Slot.iI u)];exact hρ) hi
 | vp e j b o f hone hcell ho hb _ E=>exact .vp e j b o f hone (λ k d hd=>by rw[s.hp];exact hcell k d hd) (λ h=>ho (s.own b hb h)) (by rw[s.hp];exact hb) E
 | agg cs vs hsz hone _ E=>exact .agg cs vs hsz hone E
 | tup ds vs hsz _ E=>exact .tup ds vs hsz E
 | fn f a b va vb hsa hsb _ _ H G=>exact .fn f a b va vb hsa hsb H G
 | yld n g st B hl hρ=>exact .yld n g st B (by rw[s.h n (by rw[hl];simp)];exact hl) (by rw[s.ρ n (by rw[hl];simp)];exact hρ)
 | yldDead n g hd=>exact .yldDead n g (by rw[s.h n (by rw[hd];simp)];exact hd)
 | mp n g kt l hl hρ=>exact .mp n g kt l (by rw[s.h n (by rw[hl];simp)];exact hl) (by rw[s.ρ n (by rw[hl];simp)];exact hρ)
 | mpDead n p hd=>exact .mpDead n p (by rw[s.h n (by rw[hd];simp)];exact hd)
theorem dg.nL {c c':Ctx}(s:Tt c c'){n:Nat}{x:Slot}(hρ:x≠.free->c'.ρ n=c.ρ n) (h:dg c n x):dg c' n x:=by
 cases x with
 | free=>trivial
 | dead=>trivial
 | box v =>
  obtain⟨g,cur,ty,h1,h2,h3,h4⟩:=h;exact⟨g,cur,ty,by rw[hρ (by simp)];exact h1,by rw[s.hp];exact h2,h3,λ i d hd=>⟨(h4 i d hd).1,(h4 i d hd).2.nL s⟩⟩
 | arr e l =>
  obtain⟨h1,h2,h3,h4⟩:=h;refine⟨h1,h2,h3,?_⟩;rcases h4 with⟨E,u⟩|⟨g,cur,ty,E,u,H,G⟩
  ·grind
  ·exact Or.inr ⟨g,cur,ty,by rw[hρ (by simp)];exact E,by rw[s.hp];exact u,H,λ i j d hd=>(G i j d hd).nL s⟩
 | frz e l =>
  obtain⟨h1,h2,h3,h4⟩:=h;refine⟨h1,h2,h3,?_⟩;rcases h4 with⟨E,u⟩|⟨g,cur,ty,fr,E,u,H,G,I⟩
  ·grind
  ·exact Or.inr ⟨g,cur,ty,fr,by rw[hρ (by simp)];exact E,by rw[s.hp];exact u,H,λ h=>G (s.own g (Array.getElem?_eq_some_iff.1 u).1 h),λ i j d hd=>(I i j d hd).nL s⟩
 | lp st B =>
  obtain⟨g,tmps,dfs,h1,h2,h3,h4⟩:=h;exact⟨g,tmps,dfs,by rw[hρ (by simp)];exact h1,by rw[s.hp];exact h2,h3,λ i=>(h4 i).nL s⟩
 | map kt l =>
  obtain⟨g,es,clock,h1,h2,h3,O,h4⟩:=h;refine⟨g,es,clock,by rw[hρ (by simp)];exact h1,by rw[s.hp];exact h2,h3,O,λ i p hp=>?_⟩;obtain⟨E,u,e,H,G,I⟩:=h4 i p hp;exact⟨E,u,e,H,G.nL s,I.nL s⟩
theorem fj.nL {c c':Ctx}(s:Tt c c') (k:fj c):fj c':=λ g o hg=>by
 obtain⟨h1,h2,h3⟩:=k g o hg;exact⟨λ i v hi=>by rw[s.hp];exact h1 i v hi,λ ho=>h2 (s.own g h3 ho),by rw[s.hp];exact h3⟩
theorem fV.nL {c c':Ctx}(s:Tt c c') (hl:c'.X.lo=c.X.lo) (hd:c'.X.dfs=c.X.dfs){ds:List Deferred}(k:fV c ds):fV c' ds:=by
 refine⟨⟨λ d u=>?_,k.marks.nd⟩,by rw[hd];exact k.rest⟩;obtain⟨j,e,h0,h1,h2⟩:=k.marks.all d u;exact⟨j,e,by rw[hl];exact h0,by rw[s.hp];exact h1,λ ho=>h2 (s.own j (Array.getElem?_eq_some_iff.1 h1).1 ho)⟩
def XT.plus (X:XT) (g:Nat):XT:=⟨λ x=>X.p x\/x=g,X.lo,X.dfs⟩
structure DE (P:Program) where
 op:AOp
 obj:Obj
 slot:Slot
 val:Nat->Value
 dv:Nat->D
 cs:List (Nat×IntKind×Int)
 hop:∀(K:HKq) (e:LEnv) (h:Heap),(∀q∈cs,e.get q.1=.int q.2.1 q.2.2)->vcOp P op K e h->∀n,pB h n->K (dv n) (ak h n slot)
 hslot:∀(c:Ctx) (n g:Nat),c.ρ n=some g->c.hp[g]?=some obj->dg c n slot
 hrel:∀(c:Ctx) (n g:Nat),c.h n=slot->c.ρ n=some g->c.hp[g]?=some obj->aA c (dv n) (val g)
def MV (P:Program) (k:DE P) (o:Oper):Prop:=(∀c,o.op≠.defer c)/\∀(a:Act) (w:World),(∀q∈k.cs,a.tmps.getD q.1 Go.undef=.int q.2.1 q.2.2)->(execOp a.eval o).run P w=.ok (.value (k.val w.heap.size)) (w.alloc k.obj)
def Vi (P:Program) (kt:KeyT):DE P :=
 ⟨.mkm kt,.map #[] 0,.map kt [],λ g=>.map (some g),λ n=>.mp n,[],λ _ _ _ _ h=>h,λ c n g h1 h2=>⟨g, #[],0,h1,h2,rfl,MapKept.stamped_empty 0,λ i p hi=>by simp at hi⟩,λ c n g h1 h2 _=>.mp n g kt [] h1 h2⟩
theorem SE {kt:KeyT}{o:Oper}{t:TypeId}(hop:o.op=.makeMap t none):MV P (Vi P kt) o :=
 ⟨λ c hc=>(by rw[hop]at hc;cases hc),λ a w _=>(by simp[execOp,hop,Instr.makeMap,run_newObj,Vi])⟩
def Za (P:Program) (zd:D) (cs:Array Value) (t:TypeId) (h:∀c:Ctx,cs.size=zd.cells.length/\∀(i:Nat) (d:D),zd.cells[i]?=some d->d.one=true/\aA c d (cs.getD i Go.undef)):DE P :=
 ⟨.alloc zd,.cells cs t,.box zd,λ g=>.pointer (some ⟨g,0,none⟩),λ n=>.ptr n 0 0,[],λ _ _ _ _ h=>h,λ c n g h1 h2=>⟨g,cs,t,h1,h2,(h c).1,(h c).2⟩,λ c n g h1 h2 _=>.ptrBox n 0 g zd h1 h2⟩
theorem MM {t:TypeId}{zd:D}(hz:eJ P t=some zd):∃z,(P.info? t).bind (·.zero)=some z/\∀c:Ctx,z.cells.size=zd.cells.length/\∀(i:Nat) (d:D),zd.cells[i]?=some d->d.one=true/\aA c d (z.cells.getD i Go.undef):=by
 obtain⟨z,E,u⟩:=gC hz;refine⟨z,E,λ c=>?_⟩;have h:=dB (gP u c) (gz u);refine⟨by simpa using h.len,λ i x hx=>?_⟩;obtain⟨h1,h2⟩:=h.rel i x hx;grind [aO]
structure acV (P:Program) (nt:Nat) (ops:Array Oper) (items:List AOper) (masks tl:List Nat) (p m s:Nat) (fk:DE P):Prop extends AZ P nt ops items masks tl where
 tord:∀l k i i':Nat,tl[l]?=some i->tl[k]?=some i'->l<k->k≠p->(masks.getD i' 0).testBit i=true
 nd:∀l l' i:Nat,tl[l]?=some i->tl[l']?=some i->l=l'
 fm:tl[p]?=some m
 it:items[m]?=some ⟨some s,fk.op,none⟩
 us:∀(k:Nat) (b:AOper),items[k]?=some b->k≠m->b.dst≠some s
 sn:s<nt
 mko:∃(o:Oper),ops[m]?=some o/\MV P fk o/\o.dst=some s/\o.guard=none
 ntm:∀l i:Nat,tl[l]?=some i->l<p->(masks.getD i 0).testBit m=false
 cok:∀q∈fk.cs,∀(k:Nat) (b:AOper),items[k]?=some b->b.dst=some q.1->k∉tl/\IP masks tl k=0/\(masks.getD m 0).testBit k=true
variable {ops:Array Oper}{items:List AOper}{masks tl:List Nat}{p m s:Nat}{fk:DE P}
theorem QQ.congr {X:XT}{L:(Nat->Option Nat)->Heap->World->Prop}{w₀:World}{K:LEnv->Heap->Prop}{l1 l2:Array Bool}{a:Act}{w:World}{ρ:Nat->Option Nat}{h:Heap}{e:LEnv}{j:Nat}(hs:l2.size=l1.size) (hl:∀k,cW l2 k=cW l1 k)
  (J:QQ P nt ops items masks tl X L w₀ K l1 a w ρ h e j):QQ P nt ops items masks tl X L w₀ K l2 a w ρ h e j :=
 ⟨hs.trans J.size,λ i k hi h1 h2=>by grind [J.dc],J.le,J.hr,J.ws,J.defers,J.tsz,J.jle,J.rest,λ l i hi=>by rw[hl];exact J.prog l i hi,
  λ s=>by
   rcases J.rel s with⟨i,b,h1,h2,h3,h4⟩|h
   ·grind
   ·exact Or.inr h,λ i b h1 h2 h3 h4=>J.val i b h1 h2 (by rw[<- hl];exact h3) h4⟩
def LP (ob:Obj) (c₀:Ctx) (g:Nat) (ρ:Nat->Option Nat) (h:Heap) (w:World):Prop :=
 c₀.le ⟨ρ,c₀.X,h,w.heap⟩/\c₀.hp.size<=g/\w.heap[g]?=some ob/\∀n,(h n).mine->ρ n≠some g
theorem LP.mono {ob:Obj}{c₀:Ctx}{g:Nat}{X:XT}{ρ ρ':Nat->Option Nat}{h h':Heap}{w w':World}(l:LP ob c₀ g ρ h w) (k:Ctx.le ⟨ρ,X,h,w.heap⟩ ⟨ρ',X,h',w'.heap⟩):LP ob c₀ g ρ' h' w':=by
 obtain⟨l1,H,G,E⟩:=l;have u:=(Array.getElem?_eq_some_iff.1 G).1;refine⟨l1.trans (k.Tx c₀.X c₀.X rfl),H,(k.aS g u E).trans G,λ n hm hρ=>?_⟩;obtain⟨m,h1,h2⟩:=k.born n g hm hρ u;exact E m h1 h2
def fcl (listed:Array Bool) (m:Nat):Array Bool:=listed.setIfInBounds m false
theorem OY (listed:Array Bool) (m:Nat):(fcl listed m).size=listed.size:=by simp[fcl]
theorem Ry {listed:Array Bool}{m:Nat}(hm:m<listed.size) (k:Nat):cW (fcl listed m) k=if k=m then false else cW listed k:=by
 unfold cW fcl;by_cases h:k=m
 ·subst h;simp[Array.getD,hm]
 ·have h':m≠k:=λ e=>h e.symm
  rw[if_neg h];by_cases hk:k<listed.size
  ·simp[Array.getD,hk,h']
  ·simp[Array.getD,hk]
inductive JF (P:Program) (nt:Nat) (ops:Array Oper) (items:List AOper) (masks tl:List Nat) (p m s:Nat) (fk:DE P) (c₀:Ctx) (w₀:World) (K:LEnv->Heap->Prop) (listed:Array Bool) (a:Act) (w:World):Prop
 | A (ρ:Nat->Option Nat) (h:Heap) (e:LEnv) (j:Nat) (hJ:QQ P nt ops items masks tl c₀.X (λ ρ h w=>c₀.le ⟨ρ,c₀.X,h,w.heap⟩) w₀ K listed a w ρ h e j) (he:j<=p->e.get s=.undef/\∀q∈fk.cs,e.get q.1=.int q.2.1 q.2.2)
 | B (g:Nat) (ρ:Nat->Option Nat) (h:Heap) (e:LEnv) (j:Nat) (hjp:j<p) (hm:cW listed m=true) (hanc:∀k,(masks.getD m 0).testBit k=true->cW listed k=true) (hJ:QQ P nt ops items masks tl (c₀.X.plus g) (LP fk.obj c₀ g) w₀ K (fcl listed m) a w ρ h e j)
   (he:e.get s=.undef/\∀q∈fk.cs,e.get q.1=.int q.2.1 q.2.2) (ht:a.tmps.getD s Go.undef=fk.val g)
theorem JF.size {c₀:Ctx}{w₀:World}{K:LEnv->Heap->Prop}{listed:Array Bool}{a:Act}{w:World}(hJ:JF P nt ops items masks tl p m s fk c₀ w₀ K listed a w):listed.size=ops.size:=by
 cases hJ with
 | A ρ h e j hJ he=>exact hJ.size
 | B g ρ h e j hjp hm hanc hJ he ht=>rw[<- hJ.size,OY]
theorem JF.dc (S:acV P nt ops items masks tl p m s fk){c₀:Ctx}{w₀:World}{K:LEnv->Heap->Prop}{listed:Array Bool}{a:Act}{w:World}(hJ:JF P nt ops items masks tl p m s fk c₀ w₀ K listed a w) :
  ∀i k,i<ops.size->cW listed i=true->(masks.getD i 0).testBit k=true->cW listed k=true:=by
 cases hJ with
 | A ρ h e j hJ he=>exact hJ.dc
 | B g ρ h e j hjp hm hanc hJ he ht =>
  have E:m<listed.size:=by
   have:=S.tlt m (aK S.fm);have hs:=hJ.size;grind [OY]
  intro i k hi h1 h2;by_cases u:i=m
  ·subst u;exact hanc k h2
  ·have:=hJ.dc i k hi (by grind [Ry]) h2;grind [Ry]
def T6 (ops:Array Oper) (items:List AOper) (masks tl:List Nat):Bool :=
 (ops.toList.zipIdx.all λ p=>(p.1.after.toList.all λ e=> !Region.binds .any e||decide (e.on<p.2))&&(masks.getD p.2 0 == G1 masks p.1.after.toList)) &&
 tl.all (λ i=>decide (i<ops.size)) &&
 ((List.range ops.size).all λ k=>tl.contains k||tl.zipIdx.all λ p=>(masks.getD k 0).testBit p.1 == decide (p.2<IP masks tl k)) &&
 (items.zipIdx.all λ p=>items.zipIdx.all λ q=>sPair masks tl p.2 q.2 p.1 q.1) &&
 (tl.zipIdx.all λ p=>(DR items masks tl (p.2+1) p.1).all λ b=>b.guard.isNone&&b.dst.isSome)
theorem T5 (hi:sItems P nt ops tl true ops.toList 0=some items) (hc:T6 ops items masks tl=true):AZ P nt ops items masks tl:=by
 obtain⟨l1,E⟩:=zH hi;simp only[T6,Bool.and_eq_true,List.all_eq_true]at hc;obtain⟨⟨⟨⟨G,S⟩,Q⟩,O⟩,I⟩:=hc;have pair:∀(i k:Nat) (a b:AOper),items[i]?=some a->items[k]?=some b->sPair masks tl i k a b=true:=λ i k a b ha hb=>O (a,i) (mem_zipIdx ha) (b,k) (mem_zipIdx hb)
 refine⟨by simpa using l1,λ i o a ho ha hn=>?_,λ i o ho hm=>?_,λ i o ho H he hb=>?_,λ i o ho k hk=>?_,λ i hi=>by simpa using S i hi,λ k l i hk hn hl=>?_,λ i k a b ha hb hn s hs=>?_,λ i k a b ha hb hm hn s hs hr=>?_,λ l i hl b hb=>?_⟩
 ·have:=E i o (by simpa using ho);grind [An]
 ·have:=E i o (by simpa using ho);grind
 ·have:=(G (o,i) (mem_zipIdx (by simpa using ho))).1 H he;simpa[hb] using this
 ·have:=(G (o,i) (mem_zipIdx (by simpa using ho))).2;have u:masks.getD i 0=G1 masks o.after.toList:=by simpa using this
  rw[u]at hk;rcases DX _ _ hk with h|h
  ·simp at h
  ·exact h
 ·have:=Q k (by simpa using hk);simp only[Bool.or_eq_true,List.all_eq_true]at this;have:=(this.resolve_left (by simpa using hn)) (i,l) (mem_zipIdx hl);grind
 ·grind [sPair]
 ·grind [sPair]
 ·have:=I (i,l) (mem_zipIdx hl) b hb;grind [Option.isNone_iff_eq_none]
def argRegs:Arg->List Nat
 | .t r=>[r]
 | .c _=>[]
def C8 (x:Arg) (k:IntKind) (n:Int):List (Nat×IntKind×Int):=(argRegs x).map λ r=>(r,k,n)
theorem MQ {x:Arg}{k:IntKind}{n:Int}{e:LEnv}(hc:∀d,x=.c d->d=.int k n) (h:∀q,q∈C8 x k n->e.get q.1=.int q.2.1 q.2.2):x.get e=.int k n:=by
 cases x with
 | t r=>exact h (r,k,n) (by simp[C8,argRegs])
 | c d=>exact hc d rfl
theorem Pg {x:Operand}{y:Arg}{k:IntKind}{n:Int}(hx:cArg x=some y){a:Act}(ht:∀q,q∈C8 y k n->a.tmps.getD q.1 Go.undef=.int q.2.1 q.2.2) (hc:∀d,y=.c d->d=.int k n):a.eval x=.int k n:=by
 cases x with
 | tmp i=>simp[cArg]at hx;subst hx;exact ht (i,k,n) (by simp[C8,argRegs])
 | const v =>
  simp only[cArg]at hx
  cases u:D.ofV v with
  | none=>simp[u]at hx
  | some d =>
   simp[u]at hx;subst hx;have h1:=hc d rfl;subst h1;have:=gP u ⟨λ _=>none,⟨λ _=>False,0,[]⟩,λ _=>.free, #[]⟩;exact gO this
 | func f=>grind [cArg]
 | global g =>
  grind [cArg,Option.map_eq_some_iff]
def qg (z:Array Value) (n:Nat):Array Value:=(Array.range n).map (λ k=>z[k % z.size]!)
def acu (P:Program) (esz bytes:Nat) (zd:D) (x y:Arg) (elem:TypeId) (z:Array Value) (kl kc:IntKind) (L C:Int) (hsz:zd.cells.length=esz) (hpos:0<esz)
  (hz:∀c:Ctx,z.size=zd.cells.length/\∀(i:Nat) (d:D),zd.cells[i]?=some d->d.one=true/\aA c d (z.getD i Go.undef)) (h0:0<=L) (h1:L<=C) (h2:C<=9223372036854775807)
  (hx:∀d,x=.c d->d=.int kl L) (hy:∀d,y=.c d->d=.int kc C):DE P where
 op:=.mk esz bytes zd x y
 obj:=.cells (qg z (C.toNat*esz)) elem
 slot:=.arr esz (List.replicate L.toNat zd)
 val g:=.slice (some ⟨g,0,none⟩) L.toNat C.toNat
 dv n:=.ms n 0 L.toNat
 cs:=C8 x kl L++C8 y kc C
 hop:=by
  intro K e h hpre hv n t;have ex:=MQ (e:=e) hx λ q hq=>hpre q (List.mem_append_left _ hq)
  have ey:=MQ (e:=e) hy λ q hq=>hpre q (List.mem_append_right _ hq)
  simp only[vcOp,ex,ey,vint]at hv;exact hv.2.2.2.2 n t
 hslot:=by
  intro c n g hρ hg;obtain⟨z1,z2⟩:=hz c;have hle2:L.toNat*esz<=C.toNat*esz:=Nat.mul_le_mul_right _ (by omega)
  have key:∀i j d,aP (List.replicate L.toNat zd) i j=some d->d.one=true/\aA c d ((qg z (C.toNat*esz)).getD (i*esz+j) Go.undef):=by
   intro a b d hd;obtain⟨q1,q2⟩:=iu hd;have hb:b<esz:=by rw[<- hsz];exact(aq.1 q2).1
   obtain⟨p1,p2⟩:=z2 b d q2;refine⟨p1,?_⟩
   have hlt:a*esz+b<C.toNat*esz:=by
    have:(a+1)*esz<=C.toNat*esz:=Nat.mul_le_mul_right _ (by omega);rw[Nat.add_mul]at this;omega
   unfold qg;rw[Ku z (by omega) _ _ hlt];have:(a*esz+b) % z.size=b:=by rw[z1,hsz,Nat.mul_comm,Nat.mul_add_mod,Nat.mod_eq_of_lt hb]
   rw[this];exact p2
  exact⟨hpos,λ e he=>by rw[List.eq_of_mem_replicate he];exact hsz,λ i j d hd=>(key i j d hd).1,Or.inr ⟨g,_,elem,hρ,hg,by simp[qg];omega,λ i j d hd=>(key i j d hd).2⟩⟩
 hrel:=by
  intro c n g hh hρ hg;have:=aA.ms (c:=c) n 0 L.toNat g esz C.toNat (List.replicate L.toNat zd) _ elem (0,0) (by rw[hh];rfl) hρ (by simp) hg (by simp[qg]) (by omega) (by unfold maxLen;omega)
  rwa [Nat.zero_mul]at this
theorem UQ {esz bytes:Nat}{zd:D}{x' y':Arg}{elem t:TypeId}{z:Value}{kl kc:IntKind}{L C:Int}{hsz:zd.cells.length=esz}{hpos:0<esz}
  {hz:∀c:Ctx,z.cells.size=zd.cells.length/\∀(i:Nat) (d:D),zd.cells[i]?=some d->d.one=true/\aA c d (z.cells.getD i Go.undef)}{h0:0<=L}{h1:L<=C}{h2:C<=9223372036854775807}
  {hx:∀d,x'=.c d->d=.int kl L}{hy:∀d,y'=.c d->d=.int kc C}{o:Oper}{x y:Operand}{i:TypeInfo}(ho:o.op=.makeSlice t x y) (hcx:cArg x=some x') (hcy:cArg y=some y')
  (hu:P.underlying t=some (.slice elem)) (hi:P.info? elem=some i) (hie:i.size=esz) (hib:i.bytes=bytes) (hz1:(P.info? elem).bind (·.zero)=some z) (hb:C*bytes<=140737488355328) :
  MV P (acu P esz bytes zd x' y' elem z.cells kl kc L C hsz hpos hz h0 h1 h2 hx hy) o:=by
 refine⟨λ c hc=>(by rw[ho]at hc;cases hc),λ a w G=>?_⟩;have ex:a.eval x=.int kl L:=Pg hcx (λ q hq=>G q (List.mem_append_left _ hq)) hx;have U:a.eval y=.int kc C:=Pg hcy (λ q hq=>G q (List.mem_append_right _ hq)) hy;subst hie hib;have V:z.cells.size=i.size:=by rw[(hz ⟨λ _=>none,⟨λ _=>False,0,[]⟩,λ _=>.free, #[]⟩).1,hsz]
 have wl:IntKind.i64.wrap L=L:=by grind [IntKind.wrap,IntKind.bits]
 have T:IntKind.i64.wrap C=C:=by grind [IntKind.wrap,IntKind.bits]
 have Q:¬(C<0):=by omega
 have O:¬((i.bytes:Int)*C>281474976710656):=by rw[Int.mul_comm];omega
 have I:¬(L<0):=by omega
 have H:¬(L>C):=by omega
 have u:¬(C.toNat*i.bytes>140737488355328):=by
  grind
 have E:(P.info? elem).map (·.size)=some i.size:=by simp[hi]
 show(execOp a.eval o).run P w=.ok (.value (.slice (some ⟨w.heap.size,0,none⟩) L.toNat C.toNat)) (w.alloc (.cells (qg z.cells (C.toNat*i.size)) elem))
 by_cases h:C.toNat*i.size=0
 ·have S:qg z.cells (C.toNat*i.size) = #[]:=by grind [qg]
  rw[S];simp[execOp,ho,ex,U,Instr.makeSlice,run_underlying hu,asInt,asIntOf,run_typeInfo hi,wl,T,Q,O,I,H,askRoom,u,run_sizeOf E,h,cA,Array.range_zero']
 ·simp[execOp,ho,ex,U,Instr.makeSlice,run_underlying hu,asInt,asIntOf,run_typeInfo hi,wl,T,Q,O,I,H,askRoom,u,run_sizeOf E,h,bB hz1,cA,qg]
def sCode1 (items:List AOper) (masks tl:List Nat):List Nat->ACode
 | []=>.dreg [] [] []
 | i::r=>.seq (.dreg [] (match items[i]? with|some a=>[a]|none=>[⟨none,.dead,none⟩]) (DR items masks tl 1 i)) (sCode items masks tl r 1)
theorem Oo {l:List Nat}{Q:LPost}{e:LEnv}{h:Heap}(hv:vcC P (sCode1 items masks tl l) Q e h):sRest P items masks tl l 0 (Q .normal) e h:=by
 cases l with
 | nil=>exact hv
 | cons i r =>
  simp only[sCode1,vcC,vcVals]at hv;simp only[sRest];have hv:=DG hv
  cases hi:items[i]? with
  | none=>simp only[hi,gL,ji,vcOp]at hv
  | some a =>
   simp only[hi,gL]at hv ⊢;exact EK (λ e h u=>⟨u.1,DS r 1 u.2⟩) hv
end Go.Am
namespace Go.Am
open Go
variable [ck]
variable {P:Program}{nt:Nat}
variable {ops:Array Oper}{items:List AOper}{masks tl:List Nat}
def XT.NV (X:XT) (wt:Nat->Option Nat):XT:=⟨λ x=>X.p x\/∃k,wt k=some x,X.lo,X.dfs⟩
theorem XT.NZ {X:XT}{wt:Nat->Option Nat}(h:∀k,wt k=none):X.NV wt=X:=by
 cases X with
 | mk p lo dfs =>
  have:(λ x=>p x\/∃k,wt k=some x)=p:=by
   grind
  simp only[XT.NV,this]
structure Fl (P:Program) where
 p:Nat
 m:Nat
 s:Nat
 fk:DE P
structure abn (P:Program) (nt:Nat) (ops:Array Oper) (items:List AOper) (masks tl:List Nat) (f:Fl P):Prop where
 fm:tl[f.p]?=some f.m
 it:items[f.m]?=some ⟨some f.s,f.fk.op,none⟩
 us:∀(k:Nat) (b:AOper),items[k]?=some b->k≠f.m->b.dst≠some f.s
 sn:f.s<nt
 mko:∃(o:Oper),ops[f.m]?=some o/\MV P f.fk o/\o.dst=some f.s/\o.guard=none
 ntm:∀l i:Nat,tl[l]?=some i->l<f.p->(masks.getD i 0).testBit f.m=false
 cok:∀q∈f.fk.cs,∀(k:Nat) (b:AOper),items[k]?=some b->b.dst=some q.1->k∉tl/\IP masks tl k=0/\(masks.getD f.m 0).testBit k=true
structure FZ (P:Program) (nt:Nat) (ops:Array Oper) (items:List AOper) (masks tl:List Nat) (fs:List (Fl P)):Prop extends AZ P nt ops items masks tl where
 tord:∀l k i i':Nat,tl[l]?=some i->tl[k]?=some i'->l<k->(∀f∈fs,k≠f.p)->(masks.getD i' 0).testBit i=true
 nd:∀l l' i:Nat,tl[l]?=some i->tl[l']?=some i->l=l'
 fl:∀f∈fs,abn P nt ops items masks tl f
 ind:∀f f',f∈fs->f'∈fs->f.p≠f'.p->(masks.getD f.m 0).testBit f'.m=false
 same:∀f f',f∈fs->f'∈fs->f.p=f'.p->f=f'
theorem FZ.T1 {fs:List (Fl P)}(S:FZ P nt ops items masks tl fs){f f':Fl P}(h:f∈fs) (h':f'∈fs) (e:f.m=f'.m):f=f' :=
 S.same f f' h h' (S.nd f.p f'.p f.m (S.fl f h).fm (by rw[e];exact(S.fl f' h').fm))
def LW (fs:List (Fl P)) (c₀:Ctx) (wt:Nat->Option Nat) (ρ:Nat->Option Nat) (h:Heap) (w:World):Prop :=
 c₀.le ⟨ρ,c₀.X,h,w.heap⟩/\∀k g,wt k=some g->c₀.hp.size<=g/\(∃f,f∈fs/\f.m=k/\w.heap[g]?=some f.fk.obj)/\∀n,(h n).mine->ρ n≠some g
theorem LW.mono {fs:List (Fl P)}{c₀:Ctx}{wt:Nat->Option Nat}{X:XT}{ρ ρ':Nat->Option Nat}{h h':Heap}{w w':World}(l:LW fs c₀ wt ρ h w) (k:Ctx.le ⟨ρ,X,h,w.heap⟩ ⟨ρ',X,h',w'.heap⟩):LW fs c₀ wt ρ' h' w':=by
 refine⟨l.1.trans (k.Tx c₀.X c₀.X rfl),λ q g hq=>?_⟩;obtain⟨H,⟨f,f1,f2,G⟩,E⟩:=l.2 q g hq;have u:=(Array.getElem?_eq_some_iff.1 G).1;refine⟨H,⟨f,f1,f2,(k.aS g u E).trans G⟩,λ n hm hρ=>?_⟩;obtain⟨m,h1,h2⟩:=k.born n g hm hρ u;exact E m h1 h2
def KZ (listed:Array Bool) (wt:Nat->Option Nat):Array Bool:=(Array.range listed.size).map λ k=>cW listed k&&(wt k).isNone
theorem je {listed:Array Bool}{wt:Nat->Option Nat}:(KZ listed wt).size=listed.size:=by simp[KZ]
theorem fJ {listed:Array Bool}{wt:Nat->Option Nat}{k:Nat}(h:wt k=none):cW (KZ listed wt) k=cW listed k:=by
 by_cases hk:k<listed.size
 ·simp[KZ,cW,Array.getD,hk,h]
 grind [KZ,cW]
theorem uZ {listed:Array Bool}{wt:Nat->Option Nat}{k g:Nat}(h:wt k=some g) (hk:k<listed.size):cW (KZ listed wt) k=false:=by
 simp[KZ,cW,Array.getD,hk,h]
theorem aaU {listed:Array Bool}{wt:Nat->Option Nat}{k:Nat}(hk:k<listed.size) (h:cW (KZ listed wt) k=true):cW listed k=true:=by
 cases hw:wt k with
 | none=>rwa [fJ hw]at h
 | some g=>grind [uZ]
theorem aal {fs:List (Fl P)}(S:FZ P nt ops items masks tl fs){c₀:Ctx}(hX0:∀g,c₀.X g->g<c₀.hp.size){w₀:World}{K:LEnv->Heap->Prop}{l1 l2:Array Bool}{a:Act}{w:World}{wt:Nat->Option Nat}{g:Nat}{ρ:Nat->Option Nat}{h:Heap}{e:LEnv}{f:Fl P}(hf:f∈fs)
  (hwt:wt f.m=some g) (winj:∀k k' g,wt k=some g->wt k'=some g->k=k') (hs:l2.size=l1.size) (hls:∀k,cW l2 k=if k=f.m then true else cW l1 k) (hanc:∀k,(masks.getD f.m 0).testBit k=true->cW l2 k=true) (hl1:cW l1 f.m=false)
  (hJ:QQ P nt ops items masks tl (c₀.X.NV wt) (LW fs c₀ wt) w₀ K l1 a w ρ h e f.p) (ht:a.tmps.getD f.s Go.undef=f.fk.val g) (hpre:∀q∈f.fk.cs,e.get q.1=.int q.2.1 q.2.2) :
  ∃ρ' h' e',QQ P nt ops items masks tl (c₀.X.NV (ak wt f.m none)) (LW fs c₀ (ak wt f.m none)) w₀ K l2 a w ρ' h' e' (f.p+1) /\
   ∀s,(∀k b,items[k]?=some b->b.dst=some s->k≠f.m/\¬(k∉tl/\IP masks tl k≠0))->e'.get s=e.get s:=by
 have F:=S.fl f hf;obtain⟨hsz,j4,⟨E,lw⟩,hr,g1,e6,c8,hj,u,g4,hrel,c6⟩:=hJ;obtain⟨j0,⟨f',f1,f2,l3⟩,l4⟩:=lw f.m g hwt;cases S.T1 f1 hf f2;have h7:f.m<ops.size:=S.tlt f.m (aK F.fm);have g6:f.p<tl.length:=(aq.1 F.fm).1;have g7:tl[f.p]=f.m:=(aq.1 F.fm).2;rw[List.drop_eq_getElem_cons g6,g7]at u;simp only[sRest,F.it,ji]at u;have u:=f.fk.hop _ _ _ hpre u;obtain⟨n,top⟩:=dC hr;have top:pB h n:=top;have hn:=top.free;obtain⟨g9,g8⟩:=u n top
 let c1:Ctx:=⟨ρ,c₀.X.NV wt,h,w.heap⟩
 let U:Ctx:=⟨ak ρ n (some g),c₀.X.NV (ak wt f.m none),ak h n f.fk.slot,w.heap⟩
 have h9:=(Array.getElem?_eq_some_iff.1 l3).1
 have g0:∀k x,ak wt f.m none k=some x->wt k=some x/\k≠f.m:=by
  grind [af,aa]
 have W:∀b,c₀.X.NV (ak wt f.m none) b->c₀.X.NV wt b:=by
  rintro b (hx|⟨k,hk⟩)
  ·exact Or.inl hx
  ·exact Or.inr ⟨k,(g0 k b hk).1⟩
 have sc:Tt c1 U:=by
  refine⟨rfl,λ k hk=>?_,λ k hk=>?_,λ b hb ho=>?_⟩
  ·grind [ak]
  ·grind [ak]
  ·rcases ho with hx|⟨k,h1,h2⟩
   ·exact Or.inl (W b hx)
   ·by_cases hk:k=n
    ·subst hk;simp[U,ak]at h2;exact Or.inl (Or.inr ⟨f.m,by rw[hwt,h2]⟩)
    ·simp[U,ak,hk]at h1 h2;exact Or.inr ⟨k,h1,h2⟩
 have e4:c₀.le ⟨ak ρ n (some g),c₀.X,ak h n f.fk.slot,w.heap⟩:=by
  have fr:∀k,c₀.h k≠.free->k≠n:=by
   rintro k hk rfl;have:=E.tr k;simp only at this;rw[hn]at this;cases hx:c₀.h k<;>rw[hx]at this hk<;>first|exact hk rfl|cases this
  refine⟨E.size,rfl,E.aS,E.shape,E.loop,λ k hk=>?_,λ k=>?_,λ k b h1 h2 hb=>?_⟩
  ·show ak ρ n (some g) k=_
   rw[aa _ _ (fr k hk)];exact E.names k hk
  ·show Trans _ (ak h n _ k)
   by_cases hk:k=n
   ·subst hk
    have:c₀.h k=.free:=by
     grind
    rw[this];exact .free _
   ·rw[aa _ _ hk];exact E.tr k
  ·by_cases hk:k=n
   ·grind [af]
   ·have e9:(ak h n f.fk.slot k).mine:=h1;have e8:ak ρ n (some g) k=some b:=h2;rw[aa _ _ hk]at e9 e8;exact E.born k b e9 e8 hb
 have h6:fj U:=hr.glob.nL sc
 have g3:au U:=by
  refine⟨λ k=>?_,λ k1 V b m1 m2 r1 r2=>?_,λ k b hm hb hX=>?_,λ b hX=>?_,?_,h6,hr.lo⟩
  ·show dg U k (ak h n f.fk.slot k)
   by_cases hk:k=n
   ·subst hk;rw[af];exact f.fk.hslot U k g (by simp[U,ak]) l3
   ·rw[aa _ _ hk];exact dg.nL sc (λ _=>by simp[c1,U,ak,hk]) (hr.slot k)
  ·have c5:(ak h n f.fk.slot k1).mine:=m1;have c4:(ak h n f.fk.slot V).mine:=m2;have a8:ak ρ n (some g) k1=some b:=r1;have a7:ak ρ n (some g) V=some b:=r2;by_cases e1:k1=n
   ·grind [af,aa]
   ·by_cases e2:V=n
    ·grind [af,aa]
    ·rw[aa _ _ e1]at c5 a8;rw[aa _ _ e2]at c4 a7;exact hr.inj k1 V b c5 c4 a8 a7
  ·have e0:(ak h n f.fk.slot k).mine:=hm;have G:ak ρ n (some g) k=some b:=hb;have e7:c₀.X.NV (ak wt f.m none) b:=hX;by_cases hk:k=n
   ·subst hk;rw[af]at G;cases G;rcases e7 with hx|⟨k',j2⟩
    ·grind
    grind
   ·rw[aa _ _ hk]at e0 G;exact hr.apart k b e0 G (W b e7)
  ·exact hr.xlt b (W b hX)
  ·obtain⟨N,hN⟩:=hr.fin;refine⟨N+n+1,λ k hk=>?_⟩;grind [aa]
 obtain⟨T,t1,t2,t3⟩:=Jw S.toAZ g8;have c3:f.m∈tl:=aK F.fm
 have I:∀s',s'≠f.s->(e.put (some f.s) (f.fk.dv n)).get s'=e.get s':=by
  intro s' hs;rw[LEnv.bu];simp[Env.put,ak,hs]
 refine⟨ak ρ n (some g),ak h n f.fk.slot,T,⟨hs.trans hsz,λ i k hi h1 h2=>?_,⟨e4,λ k x hk=>?_⟩,g3,g1,fV.nL sc rfl rfl e6,c8,by omega,t1,λ l i hl=>?_,λ s'=>?_,λ k b hb hk c7 j1=>?_⟩,λ s' g2=>?_⟩
 ·grind
 ·grind [af,aa]
 ·by_cases h5:i=f.m
  ·subst h5;have:=S.nd l f.p f.m hl F.fm;grind
  grind
 ·by_cases hex:∃b,b∈lL items masks tl (f.p+1)/\b.dst=some s'
  ·obtain⟨b,hb,Q⟩:=hex;obtain⟨k,h1,h2,h3⟩:=fy hb;left;refine⟨k,b,h1,h2,?_,Q⟩;have a5:k<ops.size:=by rw[<- S.len];grind
   have O:=(S.stg k f.p f.m a5 h2 F.fm).2 (by omega);grind
  ·rw[t2 s' (λ b hb Q=>hex ⟨b,hb,Q⟩)];by_cases hs:s'=f.s
   ·subst hs;right;rw[LEnv.bu,ht];have:Env.put e.get (some f.s) (f.fk.dv n) f.s=f.fk.dv n:=by simp[Env.put,ak]
    rw[this];exact f.fk.hrel _ n g (by simp[ak]) (by simp[ak]) l3
   grind [aA.nL]
 ·have e5:k≠f.m:=by rintro rfl;exact hk c3
  rw[hls,if_neg e5]at c7;rcases Nat.lt_or_ge (IP masks tl k) (f.p+1) with h8|j3
  case inr =>
   grind [EZ]
  have a5:k<ops.size:=by rw[<- S.len];grind
  have v0:=c6 k b hb hk c7 (by omega)
  have a2:(masks.getD f.m 0).testBit k≠true:=by
   grind
  have g5:¬(masks.getD k 0).testBit f.m=true:=by
   intro O;have:=(S.stg k f.p f.m a5 hk F.fm).1 O;omega
  have a6:ValRdy P b (e.put (some f.s) (f.fk.dv n)) (ak h n f.fk.slot):=by
   by_cases hf:b.op.kS=true
   ·refine ValRdy.congr (e:=e) (λ r a1=>?_) (λ s' hs=>?_) (ValRdy.free hf v0)
    ·rw[I r];rintro rfl;rcases S.rdt f.m k _ b F.it hb c3 hk f.s rfl a1 with H|H
     ·exact g5 H
     ·exact a2 H
    ·exact I s' (by rintro rfl;exact F.us k b hb e5 hs)
   ·have H:b∈DR items masks tl (f.p+1) f.m:=by
     grind [DR,sRevI]
    have c9:∀b',b'∈DR items masks tl (f.p+1) f.m->b'.guard=none/\b'.op.isVal=true:=by
     intro b' G;refine⟨(S.rev f.p f.m F.fm b' G).1,?_⟩;simp only[DR,sRevI,List.mem_filterMap,List.mem_filter,List.mem_range,Bool.and_eq_true,decide_eq_true_eq,Bool.not_eq_true']at G;obtain⟨V,⟨q1,⟨⟨q2,q3⟩,q4⟩,q5⟩,q6⟩:=G;have q7:V<ops.size:=by rw[<- S.len];exact q1
     have:=(S.itv V ops[V] b' (by simp[q7]) q6 (by simpa using q2)).op;grind [jZ]
    exact BN c9 g9 b H (S.rev f.p f.m F.fm b H).2
  refine ValRdy.congr (λ r a1=>(t2 r λ x hx Z=>?_).symm) (λ s' hs=>t2 s' λ x hx Z=>?_) a6
  ·obtain⟨m',m1,m2,m3⟩:=fy hx;have:=((S.rdv m' k x b m1 hb m2 r Z).2 a1).2.2 hk;omega
  ·obtain⟨m',m1,m2,m3⟩:=fy hx;have O:k≠m':=by rintro rfl;omega
   exact(S.rdv k m' b x hb m1 hk s' hs).1 O Z
 ·rw[t2 s' λ b hb Q=>?_]
  ·refine I s' ?_;rintro rfl;exact(g2 f.m _ F.it rfl).1 rfl
  grind [fy]
inductive JG (P:Program) (nt:Nat) (ops:Array Oper) (items:List AOper) (masks tl:List Nat) (fs:List (Fl P)) (c₀:Ctx) (w₀:World) (K:LEnv->Heap->Prop) (d:Nat) (listed:Array Bool) (a:Act) (w:World):Prop
 | mk (wt:Nat->Option Nat) (ρ:Nat->Option Nat) (h:Heap) (e:LEnv) (j:Nat)
   (hw:∀k g,wt k=some g->∃f,f∈fs/\f.m=k/\j<f.p+d/\cW listed k=true/\(∀x,(masks.getD k 0).testBit x=true->cW listed x=true)/\a.tmps.getD f.s Go.undef=f.fk.val g)
   (wi:∀k k' g,wt k=some g->wt k'=some g->k=k')
   (he:∀f∈fs,j<=f.p->e.get f.s=.undef/\∀q∈f.fk.cs,e.get q.1=.int q.2.1 q.2.2)
   (hJ:QQ P nt ops items masks tl (c₀.X.NV wt) (LW fs c₀ wt) w₀ K (KZ listed wt) a w ρ h e j)
variable {fs:List (Fl P)}
theorem JG.size {c₀:Ctx}{w₀:World}{K:LEnv->Heap->Prop}{d:Nat}{listed:Array Bool}{a:Act}{w:World}(hJ:JG P nt ops items masks tl fs c₀ w₀ K d listed a w):listed.size=ops.size:=by
 cases hJ with
 | mk wt ρ h e j hw wi he hJ=>rw[<- hJ.size,je]
theorem JG.dc (S:FZ P nt ops items masks tl fs){c₀:Ctx}{w₀:World}{K:LEnv->Heap->Prop}{d:Nat}{listed:Array Bool}{a:Act}{w:World}(hJ:JG P nt ops items masks tl fs c₀ w₀ K d listed a w) :
  ∀i k,i<ops.size->cW listed i=true->(masks.getD i 0).testBit k=true->cW listed k=true:=by
 have hsz:=hJ.size
 cases hJ with
 | mk wt ρ h e j hw wi he hJ =>
  intro i k hi h1 h2
  cases u:wt i with
  | some g =>
   grind
  | none =>
   have hk:=UN S.toAZ i hi k h2;exact aaU (by omega) (hJ.dc i k hi (by rw[fJ u];exact h1) h2)
theorem XI (S:FZ P nt ops items masks tl fs){c₀:Ctx}(hX0:∀g,c₀.X g->g<c₀.hp.size){w₀:World}{K:LEnv->Heap->Prop}{listed:Array Bool}{a:Act}{w:World}:∀(N:Nat) (wt:Nat->Option Nat) (ρ:Nat->Option Nat) (h:Heap) (e:LEnv) (j:Nat),tl.length-j<=N ->
  (∀k g,wt k=some g->∃f,f∈fs/\f.m=k/\j<f.p+1/\cW listed k=true/\(∀x,(masks.getD k 0).testBit x=true->cW listed x=true)/\a.tmps.getD f.s Go.undef=f.fk.val g)->(∀k k' g,wt k=some g->wt k'=some g->k=k') ->
  (∀f∈fs,j<=f.p->e.get f.s=.undef/\∀q∈f.fk.cs,e.get q.1=.int q.2.1 q.2.2)->QQ P nt ops items masks tl (c₀.X.NV wt) (LW fs c₀ wt) w₀ K (KZ listed wt) a w ρ h e j->JG P nt ops items masks tl fs c₀ w₀ K 0 listed a w:=by
 intro N
 induction N with
 | zero =>
  intro wt ρ h e j hN hw wi he hJ;refine .mk wt ρ h e j (λ k g hk=>?_) wi he hJ;obtain⟨f,f1,f2,f3,f4⟩:=hw k g hk;have:=(aq.1 (S.fl f f1).fm).1;omega
 | succ N ih =>
  intro wt ρ h e j hN hw wi he hJ;by_cases hx:∃f g,f∈fs/\wt f.m=some g/\f.p=j
  ·obtain⟨f,g,G,H,hp⟩:=hx;subst hp;have F:=S.fl f G;obtain⟨f',f1,f2,f3,f4,f5,f6⟩:=hw f.m g H;cases S.T1 f1 G f2;have hsz:listed.size=ops.size:=by rw[<- hJ.size,je]
   have a6:f.m<ops.size:=S.tlt f.m (aK F.fm);have a8:f.p<tl.length:=(aq.1 F.fm).1
   have E:∀k x,ak wt f.m none k=some x->wt k=some x/\k≠f.m:=by
    grind [af,aa]
   have a2:∀k,cW (KZ listed (ak wt f.m none)) k=if k=f.m then true else cW (KZ listed wt) k:=by
    intro k;by_cases hk:k=f.m
    ·grind [fJ,af]
    ·rw[if_neg hk]
     cases T:wt k with
     | none=>grind [fJ,aa]
     | some x =>
      grind [uZ,cW,je,ak]
   have hanc:∀k,(masks.getD f.m 0).testBit k=true->cW (KZ listed (ak wt f.m none)) k=true:=by
    intro k hk
    cases T:ak wt f.m none k with
    | none=>grind [fJ]
    | some x =>
     obtain⟨q1,Z⟩:=E k x T;obtain⟨u,V,W,_⟩:=hw k x q1;have:=S.ind f u G V (by rintro I;exact Z (by rw[S.same f u G V I,W]));grind
   obtain⟨ρ',h',e',a5,U⟩:=aal S hX0 G H wi (by rw[je,je]) a2 hanc (uZ H (by omega)) hJ f6 (he f G (Nat.le_refl _)).2;refine ih _ ρ' h' e' (f.p+1) (by omega) (λ k x hk=>?_) (λ k k' x h1 h2=>wi k k' x (E k x h1).1 (E k' x h2).1) (λ f2 O a7=>?_) a5
   ·obtain⟨q1,Z⟩:=E k x hk;obtain⟨u,V,W,g3,g4⟩:=hw k x q1;refine⟨u,V,W,?_,g4⟩;have:u.p≠f.p:=by rintro I;exact Z (by rw[<- W,S.same u f V G I])
    omega
   ·obtain⟨u1,u2⟩:=he f2 O (by omega);have F2:=S.fl f2 O
    have hne:f2.m≠f.m:=by
     intro a1;have:=S.T1 O G a1;subst this;omega
    refine⟨?_,λ q hq=>?_⟩
    ·rw[U f2.s λ k b hb Q=>?_]
     ·exact u1
     ·have hk:k=f2.m:=Classical.byContradiction λ hk=>F2.us k b hb hk Q
      exact⟨by rw[hk];exact hne,λ hh=>hh.1 (by rw[hk];exact aK F2.fm)⟩
    ·rw[U q.1 λ k b hb Q=>?_]
     ·exact u2 q hq
     ·obtain⟨z1,z2,z3⟩:=F2.cok q hq k b hb Q;exact⟨by rintro rfl;exact z1 (aK F.fm),λ hh=>hh.2 z2⟩
  ·refine .mk wt ρ h e j (λ k g hk=>?_) wi he hJ;grind
theorem Yj (S:FZ P nt ops items masks tl fs){c₀:Ctx}{w₀:World}{K:LEnv->Heap->Prop}{listed:Array Bool}{a:Act}{w:World}{Q:Exit->Act->World->Prop}{rd:Option Nat}{wt:Nat->Option Nat}{ρ:Nat->Option Nat}{h:Heap}{e:LEnv}{j:Nat}{f:Fl P}(hf:f∈fs)
  (hw:∀k g,wt k=some g->∃f,f∈fs/\f.m=k/\j<f.p+0/\cW listed k=true/\(∀x,(masks.getD k 0).testBit x=true->cW listed x=true)/\a.tmps.getD f.s Go.undef=f.fk.val g)
  (wi:∀k k' g,wt k=some g->wt k'=some g->k=k')
  (he:∀f∈fs,j<=f.p->e.get f.s=.undef/\∀q∈f.fk.cs,e.get q.1=.int q.2.1 q.2.2)
  (hJ:QQ P nt ops items masks tl (c₀.X.NV wt) (LW fs c₀ wt) w₀ K (KZ listed wt) a w ρ h e j) (R:Rdy ops masks listed f.m) (hj:j<f.p) (hwf:wt f.m=none) :
  wpOpIn (rF rd) 0 P ops Q f.m (JG P nt ops items masks tl fs c₀ w₀ K 0 (listed.setIfInBounds f.m true)) a w:=by
 have F:=S.fl f hf;have a2:listed.size=ops.size:=by rw[<- hJ.size,je]
 have W:f.m<listed.size:=by rw[a2];exact R.lt
 obtain⟨o,ho,a6,a7,hg⟩:=F.mko;have e0:=he f hf (Nat.le_of_lt hj)
 have a5:=a6.2 a w (λ q hq=>by
  rcases hJ.rel q.1 with⟨kk,b,hb,c7,e7,e4⟩|h0
  ·have h1:=R.anc kk (F.cok q hq kk b hb e4).2.2
   have:wt kk=none:=by
    cases T:wt kk with
    | none=>rfl
    | some x =>
     obtain⟨f2,Z,g2,_⟩:=hw kk x T;exact absurd (aK (S.fl f2 Z).fm) (by rw[g2];exact c7)
   grind [fJ]
  grind [gO])
 unfold wpOpIn;simp only[ho];rw[if_pos (by simp[Region.wanted,hg])];refine kx a6.1 a5 ?_;rw[Oper.uponIn_value,a7];obtain⟨hsz,e1,⟨hle,lw⟩,hr,O,a8,G,c9,U,V,hrel,a1⟩:=hJ
 let g:=w.heap.size
 let u:=ak wt f.m (some g)
 have I:∀k x,u k=some x->(k=f.m/\x=g)\/wt k=some x:=by
  grind [af,aa]
 have e6:∀k x,wt k=some x->x<g:=by
  grind
 have e5:∀k x,wt k=some x->u k=some x:=by
  grind [aa]
 have c5:(w.alloc f.fk.obj).heap=w.heap.push f.fk.obj:=rfl
 let C:Ctx:=⟨ρ,c₀.X.NV wt,h,w.heap⟩
 let Cp:Ctx:=⟨ρ,c₀.X.NV u,h,w.heap⟩
 let C1:Ctx:=⟨ρ,c₀.X.NV u,h,w.heap.push f.fk.obj⟩
 have sc:Tt C Cp:=by
  refine⟨rfl,λ _ _=>rfl,λ _ _=>rfl,λ b hb ho=>?_⟩;rcases ho with hx|hx
  ·rcases hx with hx|⟨k,hk⟩
   ·exact Or.inl (Or.inl hx)
   ·rcases I k b hk with⟨_,q⟩|q
    ·grind
    ·exact Or.inl (Or.inr ⟨k,q⟩)
  ·exact Or.inr hx
 obtain⟨c1,_⟩:=BZ hr f.fk.obj;have E:Cp.le C1:=c1.Tx (c₀.X.NV u) (c₀.X.NV u) rfl;have mlt:∀k b,(h k).mine->ρ k=some b->b<g:=λ k b hm hb=>nY hr hm hb
 have c4:au C1:=by
  refine⟨λ k=>?_,hr.inj,λ k b hm hb hX=>?_,λ b hX=>?_,hr.fin,(hr.glob.nL sc).mono E,by have:=hr.lo;simp only at this;show c₀.X.lo<=(w.heap.push _).size;simp;exact Nat.le_succ_of_le this⟩
  ·exact kr E (dg.nL sc (λ _=>rfl) (hr.slot k)) (λ _ _=>rfl) (λ b hm hb=>by
    grind)
  ·have:=mlt k b hm hb;rcases hX with hx|⟨k',c8⟩
   ·exact hr.apart k b hm hb (Or.inl hx)
   grind
  ·show b<(w.heap.push _).size
   simp only[Array.size_push];rcases hX with hx|⟨k',c8⟩
   ·have:=hr.xlt b (Or.inl hx);grind
   grind
 have c6:∀k,cW (KZ (listed.setIfInBounds f.m true) u) k=cW (KZ listed wt) k:=by
  intro k;by_cases hk:k=f.m
  ·subst hk;rw[uZ (g:=g) (by grind [af]) (by simpa using W),fJ hwf,R.un]
  ·cases T:wt k with
   | none=>grind [fJ,aa,eW]
   | some x =>
    obtain⟨f2,Z,g2,_⟩:=hw k x T;have:k<listed.size:=by rw[a2, <- g2];exact S.tlt _ (aK (S.fl f2 Z).fm)
    grind [uZ]
 have H:∀s',s'≠f.s->(a.put (some f.s) (f.fk.val w.heap.size)).tmps.getD s' Go.undef=a.tmps.getD s' Go.undef:=by
  intro s' hs;have c3:f.s≠s':=λ e=>hs e.symm
  simp[Act.put,c3]
 refine .mk u ρ h e j (λ k x hk=>?_) (λ k k' x h1 h2=>?_) he (QQ.congr (l1:=KZ listed wt) (by rw[je,je];simp) c6 ?_)
 ·rcases I k x hk with⟨q1,q2⟩|q
  ·subst q1 q2;exact⟨f,hf,rfl,by omega,by rw[eW W,if_pos rfl],λ x hx=>by rw[eW W];split;rfl;exact R.anc x hx,by simp[Act.put,G,F.sn,g]⟩
  ·obtain⟨f2,Z,g2,g3,g4,g5,g6⟩:=hw k x q;refine⟨f2,Z,g2,g3,by grind [eW],λ x hx=>by grind [eW],?_⟩;rw[H]
   ·exact g6
   ·intro c2;refine F.us f2.m _ (S.fl f2 Z).it ?_ (by rw[c2]);grind
 ·grind
 refine⟨hsz,e1,⟨hle.trans (c1.Tx c₀.X c₀.X rfl),λ k x hk=>?_⟩,c4,⟨O.os,O.tape,O.output⟩,(fV.nL sc rfl rfl a8).mono E,by simpa[Act.put] using G,c9,U,V,λ s'=>?_,a1⟩
 ·rcases I k x hk with⟨q1,q2⟩|q
  ·subst q1 q2;exact⟨by have:=hle.size;simpa using this,⟨f,hf,rfl,mF _ _⟩,λ k hm hb=>by have:=mlt k _ hm hb;omega⟩
  grind
 ·by_cases hs:s'=f.s
  ·subst hs;rw[e0.1];exact Or.inr (.undef _)
  ·rcases hrel s' with h0|h0
   ·exact Or.inl h0
   ·right;rw[H s' hs];exact(aA.nL sc h0).mono E
theorem YI (S:FZ P nt ops items masks tl fs){c₀:Ctx}(hX0:∀g,c₀.X g->g<c₀.hp.size){w₀:World}{K:LEnv->Heap->Prop}{listed:Array Bool}{a:Act}{w:World}{Q:Exit->Act->World->Prop}{rd:Option Nat}
  (hJ:JG P nt ops items masks tl fs c₀ w₀ K 0 listed a w) {i:Nat}(hi:i∈Region.ready .any ops listed):wpOpIn (rF rd) 0 P ops Q i (JG P nt ops items masks tl fs c₀ w₀ K 0 (listed.setIfInBounds i true)) a w:=by
 have R:=Rd S.toAZ hJ.size (hJ.dc S) hi;have a1:=hJ.size;have c5:i<listed.size:=by rw[a1];exact R.lt
 cases hJ with
 | mk wt ρ h e j hw wi he hJ =>
  have Z:wt i=none:=by
   cases u:wt i with
   | none=>rfl
   | some x =>
    obtain⟨f2,_,_,_,g4,_⟩:=hw i x u;rw[R.un]at g4;cases g4
  have e0:∀k x,wt k=some x->k<listed.size:=by
   intro k x hk;obtain⟨f2,U,T,_⟩:=hw k x hk;rw[a1, <- T];exact S.tlt _ (aK (S.fl f2 U).fm)
  by_cases hx:∃f,f∈fs/\f.m=i/\j<f.p
  ·grind [Yj]
  ·
   have tj:∀l,j<l->l<tl.length->∃i',tl[j]?=some i'/\¬cW (KZ listed wt) i'=true:=by
    intro l hl a2;have I:j<tl.length:=by omega
    refine⟨tl[j],by simp[I],λ hc=>?_⟩;have:=(hJ.prog j tl[j] (by simp[I])).1 hc;omega
   have wj:∀i',tl[j]?=some i'->wt i'=none:=by
    intro i' G
    cases u:wt i' with
    | none=>rfl
    | some x =>
     obtain⟨f2,U,T,g3,_⟩:=hw i' x u;have:=S.nd j f2.p i' G (by rw[<- T];exact(S.fl f2 U).fm);omega
   have W:∀l,tl[l]?=some i->j<=l:=by
    intro l hl;rcases Nat.lt_or_ge l j with a2|a6
    ·have:=(hJ.prog l i hl).2 a2;rw[fJ Z,R.un]at this;cases this
    ·exact a6
   have c2:∀l,tl[l]?=some i->j<l->∀f∈fs,l≠f.p:=by
    intro l hl I f V c4;subst c4;have:f.m=i:=by have:=(S.fl f V).fm;grind
    grind
   have a5:∀l,tl[l]?=some i->l=j:=by
    intro l hl;have h1:=W l hl;rcases Nat.lt_or_ge j l with O|a6
    ·exfalso;obtain⟨i',G,hn⟩:=tj l O (aq.1 hl).1;have:=R.anc _ (S.tord j l i' i G hl O (c2 l hl O));grind [fJ]
    ·omega
   have c1:∀k x,wt k=some x->(masks.getD i 0).testBit k≠true:=by
    intro k x hk hq;obtain⟨f2,U,T,g3,g4,g5,g6⟩:=hw k x hk;have F2:=S.fl f2 U;subst T;by_cases E:i∈tl
    ·obtain⟨l,hl⟩:=db E;have:=a5 l hl;rw[F2.ntm l i hl (by omega)]at hq;cases hq
    ·have h1:=(S.stg i f2.p f2.m R.lt E F2.fm).1 hq;have hp:=(aq.1 F2.fm).1;obtain⟨i',G,hn⟩:=tj f2.p (by omega) hp;have:=R.anc _ ((S.stg i j i' R.lt E G).2 (by omega));grind [fJ]
   have RV:Rdy ops masks (KZ listed wt) i:=by
    refine⟨R.lt,by rw[fJ Z];exact R.un,λ k hk=>?_⟩
    cases u:wt k with
    | none=>rw[fJ u];exact R.anc k hk
    | some x=>exact absurd hk (c1 k x u)
   have H:i<items.length:=by rw[S.len];exact R.lt
   have c9:∀f∈fs,f.m≠i->∀o,ops[i]?=some o->o.dst≠some f.s:=by
    intro f V hne o ho hq;obtain⟨b,hb⟩:∃b,items[i]?=some b:=⟨items[i]'H,by simp[H]⟩;refine(S.fl f V).us i b hb (λ e=>hne e.symm) ?_;by_cases E:i∈tl
    ·obtain⟨fz,hc⟩:=S.itt i o ho E;rw[hb]at hc;unfold cOper at hc;grind
    ·have:=(S.itv i o b ho hb E).dst;rw[this];exact hq
   refine wpOpIn_mono (λ a' w' hh=>?_) (wpOp_put (PB S.toAZ (λ ρ h w ρ' h' w' l k=>LW.mono l k) hJ RV a5));obtain⟨⟨ρ',h',e',j',a8,e1,_,a7⟩,c8⟩:=hh
   have c3:∀k,cW (KZ (listed.setIfInBounds i true) wt) k=cW ((KZ listed wt).setIfInBounds i true) k:=by
    intro k;rw[eW (by rw[je];exact c5)];by_cases hk:k=i
    ·grind [fJ,eW]
    ·rw[if_neg hk]
     cases u:wt k with
     | none=>grind [fJ,eW]
     | some x=>grind [uZ]
   have c7:=QQ.congr (l2:=KZ (listed.setIfInBounds i true) wt) (by grind [je]) c3 a8;refine XI S hX0 _ wt ρ' h' e' j' (Nat.le_refl _) (λ k x hk=>?_) wi (λ f V hp=>?_) c7
   ·obtain⟨f2,U,T,g3,g4,g5,g6⟩:=hw k x hk;refine⟨f2,U,T,by omega,by grind [eW],λ x hx=>by grind [eW],?_⟩;grind
   ·have F:=S.fl f V
    have hne:f.m≠i:=by
     rintro rfl;have:=(a8.prog f.p f.m F.fm).1 (by grind [eW,je]);omega
    obtain⟨u1,u2⟩:=he f V (by omega);refine⟨?_,λ q hq=>?_⟩
    ·rw[a7 f.s λ k b hb hk=>F.us k b hb ?_]
     ·exact u1
     ·rintro rfl;rcases hk with hk|hk
      ·exact hk.1 (aK F.fm)
      ·exact hne hk.1
    ·rw[a7 q.1 λ k b hb hk c6=>?_]
     ·exact u2 q hq
     ·obtain⟨z1,z2,z3⟩:=F.cok q hq k b hb c6;grind
theorem Ug {id:Nat}(S:FZ P nt ops items masks tl fs) (hm:P.follows .mixedOrders=true){Q:LPost}{e:LEnv}{h:Heap}(hes:∀f∈fs,e.get f.s=.undef){T:LEnv}(t1:sRest P items masks tl tl 0 (Q .normal) T h) (t2:∀s,(∀a,a∈lL items masks tl 0->a.dst≠some s)->T.get s=e.get s) (t3:∀a,a∈lL items masks tl 0->ValRdy P a T h)
  (hpre:∀f∈fs,∀q∈f.fk.cs,T.get q.1=.int q.2.1 q.2.2):uu P nt (.region id ops true) (λ x=>up (Q x)) e.get h:=by
 intro rd c w a hh hp hr hs _;subst hh;refine wpIn_region_any hm ?_;have H:∀i,i<ops.size->cW (Array.replicate ops.size false) i=false:=by intro i hi;unfold cW;simp[Array.getD,hi]
 have O:∀i b,items[i]?=some b->i<ops.size:=λ i b hb=>by rw[<- S.len];grind
 have U:(⟨c.ρ,c.X,c.h,w.heap⟩:Ctx)=c:=by rw[<- hp]
 have a6:∀k,cW (KZ (Array.replicate ops.size false) λ _=>none) k=cW (Array.replicate ops.size false) k:=λ k=>fJ rfl
 refine Zj S.toAZ (JJ:=JG P nt ops items masks tl fs c w (Q .normal) 0) (λ _ _ _ hJ=>hJ.size) (λ _ _ _ hJ=>hJ.dc S) (λ listed a' w' i hJ hi=>YI S hr.xlt hJ hi) (λ listed a' w' hJ W=>?_) ops.size _ a _ (Nat.le_trans (List.length_filter_le _ _) (by simp)) ?_
 ·cases hJ with
  | mk wt ρ h e' j hw wi he hJ =>
   have a5:j=tl.length:=by
    have hle:=hJ.jle;rcases Nat.lt_or_ge j tl.length with O|c2
    ·exfalso;have V:tl[j]?=some tl[j]:=by simp[O]
     cases E:wt tl[j] with
     | none =>
      have:=(hJ.prog j tl[j] V).1 (by rw[fJ E];exact W _ (S.tlt _ (List.getElem_mem O)));omega
     | some x =>
      obtain⟨f,g1,g2,g3,_⟩:=hw _ x E;have:=S.nd j f.p tl[j] V (by rw[<- g2];exact(S.fl f g1).fm);omega
    ·omega
   have a1:∀k,wt k=none:=by
    intro k
    cases E:wt k with
    | none=>rfl
    | some x =>
     obtain⟨f,g1,g2,g3,_⟩:=hw k x E;have:=(aq.1 (S.fl f g1).fm).1;omega
   obtain⟨_,_,⟨hle,_⟩,G,Z,I,hsz,hj,u,a2,hrel,a8⟩:=hJ;rw[XT.NZ a1]at G I hrel;subst a5;rw[List.drop_length]at u;refine⟨ρ,e'.get,h,hle,G,Z,⟨G.glob,G.lo,I,hsz,λ s=>?_⟩,e',rfl,u⟩;grind [fJ]
 ·have hw:({ w with drawn:=w.drawn+1 }:World).heap=w.heap:=rfl;have hX:c.X.NV (λ _=>none)=c.X:=XT.NZ λ _=>rfl
  refine .mk (λ _=>none) c.ρ c.h T 0 (λ k g hk=>by cases hk) (λ k k' g hk=>by cases hk) (λ f hf _=>?_) ?_
  ·have F:=S.fl f hf;refine⟨?_,hpre f hf⟩;rw[t2 f.s λ b hb=>?_]
   ·exact hes f hf
   ·obtain⟨k,h1,h2,h3⟩:=fy hb;exact F.us k b h1 (by rintro rfl;exact h2 (aK F.fm))
  refine⟨by rw[je];simp,λ i k hi hl=>(by grind),⟨?_,λ k g hk=>by cases hk⟩,?_,⟨rfl,rfl,rfl⟩,(by rw[hX,hw,U];exact hs.defers),hs.size,Nat.zero_le _,by simpa using t1,λ l i hl=>?_,λ s=>?_,λ i b hb hn _ c1=>?_⟩
  ·grind [Ctx.le.refl]
  ·rw[hX,hw,U];exact hr
  ·rw[a6,H i (S.tlt i (aK hl))];simp
  ·by_cases hex:∃b,b∈lL items masks tl 0/\b.dst=some s
   ·grind [fy]
   ·right;rw[t2 s (λ b hb a7=>hex ⟨b,hb,a7⟩),hX,hw,U];exact hs.rel s
  grind [EZ]
def Y9 (P:Program) (fz:Bool) (esz:Nat) (zd:D) (elem:TypeId) (hpos:0<esz):DE P where
 op:=.bldS fz esz 0 zd []
 obj:=.cells #[] elem
 slot:=.arr esz []
 val g:=.slice (some ⟨g,0,none⟩) 0 0
 dv n:=.ms n 0 0
 cs:=[]
 hop:=by
  intro K e h _ hv n t;simp only[vcOp]at hv;have:=hv.2.2 n t;simpa[Heap.freezeAll,setEls] using this
 hslot:=by
  intro c n g hρ hg;exact⟨hpos,λ e he=>(by cases he),λ i j d hd=>(by simp[aP]at hd),Or.inr ⟨g,_,elem,hρ,hg,by simp,λ i j d hd=>(by simp[aP]at hd)⟩⟩
 hrel:=by
  intro c n g hh hρ hg;have:=aA.ms (c:=c) n 0 0 g esz 0 [] #[] elem (0,0) (by rw[hh];rfl) hρ (by simp) hg (by simp) (by omega) (by unfold maxLen;omega)
  rwa [Nat.zero_mul]at this
theorem SF {fz:Bool}{esz:Nat}{zd:D}{elem t:TypeId}{hpos:0<esz}{o:Oper}{ps:Array (Nat×Operand)}(ho:o.op=.buildSlice t 0 ps) (hps:ps = #[]) (hu:P.underlying t=some (.slice elem)) (ht:(P.info? elem).map (·.size)=some esz) :
  MV P (Y9 P fz esz zd elem hpos) o:=by
 subst hps;refine⟨λ c hc=>(by rw[ho]at hc;cases hc),λ a w _=>?_⟩;show(execOp a.eval o).run P w=.ok (.value (.slice (some ⟨w.heap.size,0,none⟩) 0 0)) (w.alloc (.cells #[] elem))
 simp[execOp,ho,Instr.buildSlice,run_underlying hu,run_sizeOf ht,Array.range_zero',Instr.fill,cA]
def opRegs:AOp->List Nat
 | .mk _ _ _ x y=>argRegs x++argRegs y
 | _=>[]
def sMkN (op:AOp) (o:Oper):Bool :=
 match op,o.op with
 | .mkm _,.makeMap _ none=>true
 | .alloc _,.alloc _=>true
 | .mk ..,.makeSlice ..=>true
 | .bldS _ _ 0 _ [],.buildSlice _ 0 ps=>ps.size == 0
 | _,_=>false
def flN (ops:Array Oper) (nt:Nat) (items:List AOper) (masks tl ps:List Nat) (p:Nat):Option (Nat×AOp) :=
 match tl[p]? with
 | some m=>match items[m]?,ops[m]? with
  | some ⟨some s,op,none⟩,some o=>match o.dst,o.guard with
   | some s',none=>if s'=s/\s<nt/\sMkN op o=true/\(items.zipIdx.all λ q=>decide (q.2=m)||q.1.dst != some s)=true/\((List.range p).all λ l=> !(masks.getD (tl.getD l 0) 0).testBit m)=true /\
     ((opRegs op).all λ r=>items.zipIdx.all λ q=>q.1.dst != some r||(!tl.contains q.2&&IP masks tl q.2 == 0&&(masks.getD m 0).testBit q.2))=true /\
     (ps.all λ p'=>p' == p || !(masks.getD m 0).testBit (tl.getD p' 0))=true then some (s,op) else none
   | _,_=>none
  | _,_=>none
 | none=>none
def Nj (op:AOp) (e:LEnv):Prop:=match op with
 | .mk _ bytes _ x y=>∃kl L kc C,x.get e=.int kl L/\y.get e=.int kc C/\0<=L/\L<=C/\C*bytes<=140737488355328/\C<=9223372036854775807
 | _=>True
def ckN:List (Nat×AOp)->ACode->ACode
 | [],c=>c
 | (_,.mk _ bytes _ x y)::r,c=>.seq (.dreg [] [⟨none,.mkc bytes x y,none⟩] []) (ckN r c)
 | _::r,c=>ckN r c
theorem Qr:∀(l:List (Nat×AOp)){c:ACode}{Q:LPost}{e:LEnv}{h:Heap},vcC P (ckN l c) Q e h->(∀q∈l,Nj q.2 e)/\vcC P c Q e h
 | [],c,Q,e,h,u=>⟨λ q hq=>(by cases hq),u⟩
 | (s,op)::r,c,Q,e,h,u=>by
  cases op with
  | mk esz bytes E x y =>
   have u:vcOp P (.mkc bytes x y) (λ _ h2=>vcC P (ckN r c) Q e h2) e h:=by
    have:=u;simp only[ckN,vcC,LPost.then,vcVals,wh,vcTail,zu,ji]at this;exact this
   simp only[vcOp]at u;unfold vint at u;split at u
   case h_2=>exact u.elim
   rename_i G L I;split at u
   case h_2=>exact u.elim
   rename_i H C O;obtain⟨i1,i2⟩:=Qr r u.2.2.2.2;grind [Nj]
  | _ =>
   obtain⟨i1,i2⟩:=Qr r u;refine⟨λ q hq=>?_,i2⟩;rcases List.mem_cons.1 hq with rfl|hq
   ·trivial
   ·exact i1 q hq
def putU:List Nat->LEnv->LEnv
 | [],e=>e
 | s::r,e=>putU r (e.put (some s) .undef)
theorem Ri:∀(l:List Nat) (e:LEnv),(∀i,(putU l e).get i=.undef\/(putU l e).get i=e.get i)/\∀s,s∈l\/e.get s=.undef->(putU l e).get s=.undef
 | [],e=>⟨λ i=>Or.inr rfl,λ s hs=>hs.elim (λ h=>by cases h) id⟩
 | s::r,e=>by
  obtain⟨i1,i2⟩:=Ri r (e.put (some s) .undef)
  have hg:∀i,(e.put (some s) .undef).get i=if i=s then .undef else e.get i:=by
   intro i;rw[LEnv.bu];simp only[Env.put,ak]
  grind [putU]
theorem Mq:∀(l:List Nat){K:LEnv->Heap->Prop}{e:LEnv}{h:Heap},vcVals P (l.map λ s=>⟨some s,.mov (.c .undef),none⟩) K e h->K (putU l e) h
 | [],_,_,_,u=>u
 | s::r,K,e,h,u=>Mq r (by simp only[List.map_cons,vcVals,wh]at u;exact u)
theorem acs {ps:List Nat}{p s:Nat}{op:AOp}{T:LEnv}(S0:AZ P nt ops items masks tl) (h:flN ops nt items masks tl ps p=some (s,op)) (hf:Nj op T) :
  ∃f:Fl P,f.p=p/\f.s=s/\abn P nt ops items masks tl f/\(∀q∈f.fk.cs,T.get q.1=.int q.2.1 q.2.2)/\∀p',p'∈ps->p'≠p->(masks.getD f.m 0).testBit (tl.getD p' 0)=false:=by
 unfold flN at h;split at h<;>try (cases h;done)
 rename_i m hm;split at h<;>try (cases h;done)
 rename_i s0 e4 o Q hop;split at h<;>try (cases h;done)
 rename_i s' h2 h3;split at h<;>try (cases h;done)
 rename_i c9;obtain⟨rfl,c1,cm,c5,c6,c7,c8⟩:=c9;cases h;obtain⟨fz,H⟩:=S0.itt m o hop (aK hm);rw[Q]at H
 have V:cOp P fz o=some op:=by
  grind [cOper]
 obtain⟨fk,rfl,c4,O,a6⟩:∃fk:DE P,op=fk.op/\(∀q∈fk.cs,q.1∈opRegs op)/\(∀q∈fk.cs,T.get q.1=.int q.2.1 q.2.2)/\MV P fk o:=by
  unfold sMkN at cm;split at cm<;>try (cases cm;done)
  ·rename_i kt t h1;exact⟨Vi P kt,rfl,λ q hq=>(by cases hq),λ q hq=>(by cases hq),SE h1⟩
  ·rename_i u t h1
   have hz:eJ P t=some u:=by
    unfold cOp at V
    cases hz:eJ P t with
    | none=>grind [cOp0,cOpM,deadOp]
    | some z=>grind [cOp0]
   obtain⟨z,z1,z2⟩:=MM (P:=P) hz;refine⟨Za P u z.cells t z2,rfl,λ q hq=>(by cases hq),λ q hq=>(by cases hq),λ c hc=>(by rw[h1]at hc;cases hc),λ a w _=>?_⟩;simp[execOp,h1,Instr.alloc,bB z1,newVar,cA,Za]
  ·rename_i esz bytes u Z W t x y ho;obtain⟨kl,L,kc,C,e1,e2,b0,b1,b2,b3⟩:=hf
   have:∃elem i,P.underlying t=some (.slice elem)/\P.info? elem=some i/\eJ P elem=some u/\cArg x=some Z/\cArg y=some W/\u.cells.length=i.size/\0<i.size/\i.size=esz/\i.bytes=bytes:=by
    grind [cOp,cOp0,cOpM,deadOp]
   obtain⟨elem,i,hu,S,hz,c3,c2,hsz,E,U,a8⟩:=this;obtain⟨z,z1,z2⟩:=MM (P:=P) hz;have hx:∀d,Z=.c d->d=.int kl L:=λ d hd=>by rw[hd]at e1;exact e1
   have hy:∀d,W=.c d->d=.int kc C:=λ d hd=>by rw[hd]at e2;exact e2
   have I:u.cells.length=esz:=by rw[hsz,U]
   have G:0<esz:=by omega
   refine⟨acu P esz bytes u Z W elem z.cells kl kc L C I G z2 b0 b1 b3 hx hy,rfl,λ q hq=>?_,λ q hq=>?_,UQ ho c3 c2 hu S U a8 z1 b2⟩
   ·rcases List.mem_append.1 hq with h|h
    ·simp only[C8,List.mem_map]at h;obtain⟨r,hr,rfl⟩:=h;exact List.mem_append_left _ hr
    ·simp only[C8,List.mem_map]at h;obtain⟨r,hr,rfl⟩:=h;exact List.mem_append_right _ hr
   ·rcases List.mem_append.1 hq with h|h
    ·simp only[C8,List.mem_map]at h;obtain⟨r,hr,rfl⟩:=h
     cases a2:Z with
     | t r' =>
      rw[a2]at hr e1;simp only[argRegs,List.mem_singleton]at hr;rw[hr];exact e1
     | c d=>grind [argRegs]
    ·simp only[C8,List.mem_map]at h;obtain⟨r,hr,rfl⟩:=h
     cases a1:W with
     | t r' =>
      rw[a1]at hr e2;simp only[argRegs,List.mem_singleton]at hr;rw[hr];exact e2
     | c d=>grind [argRegs]
  ·rename_i e0 esz u t ps ho;have a5:ps = #[]:=Array.eq_empty_of_size_eq_zero (by simpa using cm);subst a5
   have:∃elem,P.underlying t=some (.slice elem)/\(P.info? elem).map (·.size)=some esz/\0<esz:=by
    grind [cOp,cOp0,cOpM,deadOp]
   obtain⟨elem,hu,ht,E⟩:=this;exact⟨Y9 P e0 esz u elem E,rfl,λ q hq=>(by cases hq),λ q hq=>(by cases hq),SF ho rfl hu ht⟩
 refine⟨⟨p,m,s,fk⟩,rfl,rfl,⟨hm,Q,λ k b hb hk=>?_,c1,⟨o,hop,a6,h2,h3⟩,λ l i hl a7=>?_,λ q hq k b hb e6=>?_⟩,O,λ p' e5 hne=>?_⟩
 ·have:=List.all_eq_true.1 c5 (b,k) (mem_zipIdx hb);grind
 ·have:=List.all_eq_true.1 c6 l (by simpa using a7);grind
 ·have:=List.all_eq_true.1 (List.all_eq_true.1 c7 q.1 (c4 q hq)) (b,k) (mem_zipIdx hb);grind
 grind
def ab6 (masks ps tl:List Nat):Bool :=
 (List.range tl.length).all λ k=>ps.contains k||(List.range k).all λ l=>(masks.getD (tl.getD k 0) 0).testBit (tl.getD l 0)
theorem Vf {G:Fl P->Prop}:∀(ps:List Nat),(∀p∈ps,∃f:Fl P,f.p=p/\G f)->∃fs:List (Fl P),fs.map (·.p)=ps/\∀f∈fs,G f
 | [],_=>⟨[],rfl,λ f u=>(by cases u)⟩
 | p::r,h=>by
  obtain⟨f,hp,hg⟩:=h p (by simp);obtain⟨fs,h1,h2⟩:=Vf r λ q hq=>h q (by simp[hq])
  refine⟨f::fs,by simp[hp,h1],λ x hx=>?_⟩;grind
theorem OW:∀{fs:List (Fl P)},(fs.map (·.p)).Nodup->∀f f',f∈fs->f'∈fs->f.p=f'.p->f=f'
 | [],_,f,_,H,_,_=>by cases H
 | x::r,hn,f,f',H,G,e=>by
  simp only[List.map_cons,List.nodup_cons,List.mem_map,not_exists,not_and]at hn;rcases List.mem_cons.1 H with rfl|E
  ·grind
  ·rcases List.mem_cons.1 G with rfl|u
   ·exact absurd e (hn.1 f E)
   ·exact OW hn.2 f f' E u e
theorem mapM_mem {α β:Type}{f:α->Option β}:∀{l:List α}{r:List β},l.mapM f=some r->∀x∈l,∃y,y∈r/\f x=some y
 | [],r,_,x,hx=>by cases hx
 | a::l,r,h,x,hx=>by
  rw[List.mapM_cons]at h;simp only[Option.pure_def,Option.bind_eq_bind,Option.bind_eq_some_iff,Option.some.injEq]at h;obtain⟨y,hy,z,u,rfl⟩:=h;rcases List.mem_cons.1 hx with rfl|hx
  ·exact⟨y,by simp,hy⟩
  ·obtain⟨E,h1,h2⟩:=mapM_mem u x hx;grind
def cDrN (P:Program) (nt:Nat) (tbl:TTq) (id:Nat) (ops:Array Oper):Option ACode :=
 if P.follows .mixedOrders then
  match tbl id with
  | some (masks,tl,999996::ps)=>match sItems P nt ops tl true ops.toList 0 with
   | some items=>match ps.mapM (flN ops nt items masks tl ps) with
    | some l=>if T6 ops items masks tl=true/\ab6 masks ps tl=true/\tl.Nodup/\ps.Nodup then
      some (.seq (.dreg ((l.map (·.1)).map λ s=>⟨some s,.mov (.c .undef),none⟩) [] []) (.seq (.dreg (lL items masks tl 0) [] []) (ckN l (sCode1 items masks tl tl)))) else none
    | none=>none
   | none=>none
  | _=>none
 else none
theorem Yv (P:Program) (nt:Nat) (tbl:TTq):CX P nt (cDrN P nt tbl):=by
 intro id ops ac h Q e hp hv;unfold cDrN at h;split at h
 case isFalse=>cases h
 rename_i hm;split at h
 case h_2=>cases h
 rename_i masks tl ps _
 cases hi:sItems P nt ops tl true ops.toList 0 with
 | none=>simp[hi]at h
 | some items =>
  simp only[hi]at h;split at h
  case h_2=>cases h
  rename_i l hl;split at h
  case isFalse=>cases h
  rename_i W;obtain⟨c1,c2,c3,c4⟩:=W;simp only[Option.some.injEq]at h;subst h;have Z:=T5 hi c1
  have O:vcVals P ((l.map (·.1)).map λ s=>⟨some s,.mov (.c .undef),none⟩) (λ e1 h1=>vcVals P (lL items masks tl 0) (λ e2 h2=>vcC P (ckN l (sCode1 items masks tl tl)) Q e2 h2) e1 h1) e hp:=by
   have:=hv;simp only[vcC,LPost.then,vcTail,zu]at this;exact this
  have E:=Mq _ O;obtain⟨u1,u2⟩:=Ri (l.map (·.1)) e;generalize putU (l.map (·.1)) e=e1 at E u1 u2;obtain⟨T,t1,t2,t3⟩:=Jw Z E;obtain⟨k1,k2⟩:=Qr l t1;have k3:=Oo k2
  obtain⟨fs,f1,f2⟩:=Vf (P:=P) (G:=λ f=>abn P nt ops items masks tl f/\(∀q∈f.fk.cs,T.get q.1=.int q.2.1 q.2.2)/\(∀I,I∈ps->I≠f.p->(masks.getD f.m 0).testBit (tl.getD I 0)=false)/\f.s∈l.map (·.1)) ps (λ p V=>by
   obtain⟨⟨s,op⟩,y1,y2⟩:=mapM_mem hl p V;obtain⟨f,rfl,rfl,g3,g4,g5⟩:=acs Z y2 (k1 _ y1)
   grind)
  have U:∀f∈fs,f.p∈ps:=λ f u=>by grind
  have S:FZ P nt ops items masks tl fs:=by
   refine⟨Z,λ l k i i' hl hk a1 a5=>?_,λ l l' i hl a2=>?_,λ f u=>(f2 f u).1,λ f f' u H hne=>?_,OW (by rw[f1];exact c4)⟩
   ·simp only[ab6,List.all_eq_true,List.mem_range,Bool.or_eq_true]at c2;grind
   ·grind [List.getElem?_inj]
   ·have:=(f2 f u).2.2.1 f'.p (U f' H) (λ e=>hne e.symm);simpa[List.getD,(f2 f' H).1.fm] using this
  exact wZ u1 (Ug S hm (λ f u=>u2 _ (Or.inl (f2 f u).2.2.2)) k3 t2 t3 λ f u=>(f2 f u).2.1)
def cDr (P:Program) (nt:Nat) (tbl:TTq) (id:Nat) (ops:Array Oper):Option ACode :=
 match cDrS P nt tbl id ops with
 | some x=>some x
 | none=>match cDrN P nt tbl id ops with
 | some x=>some x
 | none=>match cDr0 P nt tbl id ops with
  | some x=>some x
  | none=>match aa1 P nt tbl id ops with
   | some x=>some x
   | none=>some (.dreg [⟨none,.dead,none⟩] [] [])
theorem aC (P:Program) (nt:Nat) (tbl:TTq):CX P nt (cDr P nt tbl):=by
 intro id ops ac h Q e hp u;unfold cDr at h;split at h
 ·rename_i x h0;cases h;exact Yu P nt tbl id ops _ h0 Q e hp u
 split at h
 ·rename_i x h0;cases h;exact Yv P nt tbl id ops _ h0 Q e hp u
 split at h
 ·rename_i x h0;cases h;exact Yx P nt tbl id ops _ h0 Q e hp u
 split at h
 ·rename_i x h0;cases h;exact Yw P nt tbl id ops _ h0 Q e hp u
 ·simp at h;subst h;exact u.elim
end Go.Am
namespace Go.Am
open Go
variable [ck]
def vcond (x:D) (A B:Prop):Prop :=
 match x with
 | .bool t=>(t=true->A)/\(t=false->B)
 | _=>False
def Tu (P:Program) (a:ACode) (nt:Nat) (c:Code):Prop:=∀(Q:LPost) (e:LEnv) (h:Heap),vcC P a Q e h->uu P nt c (λ x=>up (Q x)) e.get h
def M0 (P:Program) (g:D) (ps:List Nat) (e:LEnv) (a b:ACode) (h:Heap) (E:Nat->Heap->Prop):Prop :=
 match g with
 | .fn f fs cs=>fs=[]/\de P f=true/\∀(n:Nat) (B:fu),pB h n->B.env=LEnv.get e->B.ps=ps->ps.Nodup->(∀p∈ps,p<B.nt)->Tu P a B.nt B.assign->Tu P b B.nt B.body ->
   ag P f (.yld n::cs) (ak h n (.lp .ready B)) λ _ h'=>E n h'
 | _=>False
def JP (P:Program) (n:Nat) (B:fu) (ps:List Nat) (ds:List D) (e:LEnv) (a b:ACode) (h:Heap) (K:HKq):Prop :=
 vcC P a (λ x e1 h1=>x=.normal/\h1 n=.lp .ready B/\vcC P b (λ x e2 h2=>h2 n=.lp .busy B/\roundEnd x n B K h2) e1 (ak h1 n (.lp .busy B))) (ps.zip ds++e) h
theorem mU {P:Program}{n:Nat}{B:fu}{ds:List D}{h:Heap}{K:HKq}{a b:ACode}{ps:List Nat}(hn:h n=.lp .ready B) (hps:B.ps=ps) (hA:Tu P a B.nt B.assign) (hB:Tu P b B.nt B.body) (hnd:ps.Nodup)
  (hlt:∀p∈ps,p<B.nt) (hlen:ds.length=ps.length) {e:LEnv}(he:B.env=e.get) (hv:JP P n B ps ds e a b h K):uq P n ds h K :=
 Tc hn hA hB (hps ▸ hnd) (hps ▸ hlt) (hps ▸ hlen) he (by rw[hps];exact hv)
def ct (n:Nat) (h:Heap) (KN:Prop) (KE:Nat->Prop) (KR:Prop):Prop :=
 match h n with
 | .lp .ready _=>KN
 | .lp (.done (.exit id)) _=>KE id
 | .lp (.done .ret) _=>KR
 | _=>False
variable {P:Program}{h:Heap}{K:D->Prop}{KH:HKq}{k:IntKind}{a b:Int}
theorem Zz {p:Prop}[Decidable p] {A B:Prop}:vcond (.bool (decide p)) A B=((p->A)/\(¬p->B)):=by
 simp[vcond]
theorem WL {p:Prop}[Decidable p] {A B:Prop}:vcond (.bool (!decide p)) A B=((¬p->A)/\(p->B)):=by
 simp[vcond]
theorem WM {t:Bool}{A B:Prop}:vcond (.bool t) A B=((t=true->A)/\(t=false->B)):=rfl
theorem nQ {t w:Bool}{A:(HKq)->Prop}:vguard (.bool t) w A h KH=((t=w->A KH)/\(t≠w->KH gU h)):=by simp[vguard,gv]
theorem JW {ds:List D}{w:Bool}{A:(HKq)->Prop}:vguard (.tup ds) w A h KH=KH gU h:=by simp[vguard,gv]
theorem zx {t w:Bool}{A:(D->Prop)->Prop}:aj (.bool t) w A K=((t=w->A K)/\(t≠w->K gU)):=by simp[aj,gv]
theorem BO {ds:List D}{w:Bool}{A:(D->Prop)->Prop}:aj (.tup ds) w A K=K gU:=by simp[aj,gv]
theorem ca:vbin .add (.int k a) (.int k b) K=K (.int k (k.wrap (a+b))):=by simp[vbin]
theorem mz:vbin .sub (.int k a) (.int k b) K=K (.int k (k.wrap (a-b))):=by simp[vbin]
theorem CY:vbin .mul (.int k a) (.int k b) K=K (.int k (k.wrap (a*b))):=by simp[vbin]
theorem ss:vbin .quo (.int k a) (.int k b) K=(b≠0/\K (.int k (k.wrap (a.tdiv b)))):=by simp[vbin]
theorem cy:vbin .rem (.int k a) (.int k b) K=(b≠0/\K (.int k (a.tmod b))):=by simp[vbin]
theorem Mj:vbin .and (.int k a) (.int k b) K=K (.int k (ibits .and k a b)):=by simp[vbin]
theorem WK:vbin .or (.int k a) (.int k b) K=K (.int k (ibits .or k a b)):=by simp[vbin]
theorem YN:vbin .xor (.int k a) (.int k b) K=K (.int k (ibits .xor k a b)):=by simp[vbin]
theorem TP:vbin .andNot (.int k a) (.int k b) K=K (.int k (ibits .andNot k a b)):=by simp[vbin]
theorem Oc {k':IntKind}:vbin .shl (.int k a) (.int k' b) K=(0<=b/\K (.int k (Kz k a b))):=rfl
theorem QZ {k':IntKind}:vbin .shr (.int k a) (.int k' b) K=(0<=b/\K (.int k (Ky k a b))):=rfl
theorem bZ:vbin .eql (.int k a) (.int k b) K=K (.bool (decide (a=b))):=by simp[vbin]
theorem mA:vbin .neq (.int k a) (.int k b) K=K (.bool (!decide (a=b))):=by simp[vbin]
theorem fK:vbin .lss (.int k a) (.int k b) K=K (.bool (decide (a<b))):=by simp[vbin]
theorem Oe:vbin .leq (.int k a) (.int k b) K=K (.bool (decide (a<=b))):=by simp[vbin]
theorem zy:vbin .gtr (.int k a) (.int k b) K=K (.bool (decide (b<a))):=by simp[vbin]
theorem EL:vbin .geq (.int k a) (.int k b) K=K (.bool (decide (b<=a))):=by simp[vbin]
theorem toList_inj {a b:ByteArray}:(a.toList == b.toList)=decide (a=b):=by
 by_cases h:a=b
 ·subst h;simp
 ·have:¬a.toList=b.toList:=λ e=>h (by
   have:=congrArg List.toArray e;simp[ByteArray.toList_eq]at this
   cases a;cases b;simp_all)
  simp[h,this]
theorem Zy {s t:ByteArray}:vbin .eql (.str s) (.str t) K=K (.bool (decide (s=t))):=by simp[vbin,toList_inj]
theorem Zx {s t:ByteArray}:vbin .neq (.str s) (.str t) K=K (.bool (!decide (s=t))):=by simp[vbin,toList_inj]
theorem TO:vun .neg (.int k a) K=K (.int k (k.wrap (0-a))):=rfl
theorem Od {t:Bool}:vun .not (.bool t) K=K (.bool !t):=rfl
theorem YO:vun .xor (.int k a) K=K (.int k (ibits .xor k (if k.signed then -1 else k.max) a)):=rfl
theorem zw:bq .nil h K=K (.int .i64 0):=rfl
theorem gd {xs:List D}:bq (.sl xs) h K=K (.int .i64 xs.length):=rfl
theorem ko {n o l:Nat}:bq (.ms n o l) h K=((h n).live=true/\K (.int .i64 l)):=rfl
theorem eZ {k':IntKind}:ab P (.conv k (.c (.int k' a))) h KH=KH (.int k (k.wrap a)) h:=rfl
theorem Hg {t:Bool}{x y:D}:ab P (.pick (.c (.bool t)) (.c x) (.c y)) h KH=KH (if t then x else y) h:=rfl
theorem h_ext {ds:List D}{i:Nat}:ab P (.ext (.c (.tup ds)) i) h KH=(match ds[i]? with|some d=>KH d h|none=>False):=rfl
theorem acm {cs:List D}{o s:Nat}{g:Bool}:ab P (.fld (.c (.agg cs)) o s g) h KH=vpart cs o s g (KH · h):=rfl
theorem aaz {s:ByteArray}:ab P (.slen (.c (.str s))) h KH=KH (.int .i64 s.size) h:=rfl
theorem BY {d:D}{j o:Nat}:ab P (.fadd (.c (.vp d j)) o) h KH=KH (.vp d (j+o)) h:=rfl
theorem jq {xs:List D}{s:Nat}:ab P (.iadd (.c (.sl xs)) (.c (.int k a)) s) h KH=(0<=a/\a<xs.length/\∀d,xs[a.toNat]?=some d->d.cells.length=s/\KH (.vp d 0) h):=rfl
theorem JI {α:Type}{f:α->D}{xs:List α}{s:Nat}:ab P (.iadd (.c (.sl (xs.map f))) (.c (.int k a)) s) h KH=(0<=a/\a<xs.length/\∀d,xs[a.toNat]?=some d->(f d).cells.length=s/\KH (.vp (f d) 0) h):=by
 simp[ab,vcOp,vint,Arg.get]
theorem cv {n o l s:Nat}:ab P (.iadd (.c (.ms n o l)) (.c (.int k a)) s) h KH=(0<=a/\a<l/\(∃els,(h n).row=some (s,els))/\KH (.ptr n (o+a.toNat) 0) h):=rfl
theorem kH {d:D}{j s:Nat}{g:Bool}:ab P (.ld (.c (.vp d j)) s g) h KH=vpart d.cells j s g (KH · h):=rfl
theorem bg {cs:List D}{o s:Nat}:vpart cs o s false K=(match cs[o]? with|some d=>K d|none=>False):=rfl
theorem iJ {cs:List D}{o s:Nat}:vpart cs o s true K=(o+s<=cs.length/\K (.agg ((cs.drop o).take s))):=rfl
theorem wrap64 {n:Int}(h1 : -9223372036854775808<=n) (h2:n<=9223372036854775807):IntKind.i64.wrap n=n:=by
 grind [IntKind.wrap,IntKind.signed,IntKind.bits]
end Go.Am
namespace Go.Am
open Go
variable [ck]
abbrev LH:=List Slot
class LB where
 bs:Nat->fu
def Slot.wb (s:Slot) (B:fu):Slot:=match s with
 | .lp st _=>.lp st B
 | s=>s
def LH.h (l:LH):Heap:=λ n=>l.getD n .free
def LH.w [LB] (l:LH):Heap:=λ n=>(l.getD n .free).wb (LB.bs n)
def LH.nf (l:LH):Prop:=∀s∈l,s≠.free
def fi {α:Type}(n:Int) (k:Int->α):α:=match n with
 | .ofNat m=>Nat.rec (k 0) (λ p _=>k (.ofNat (p+1))) m
 | .negSucc m=>Nat.rec (k (.negSucc 0)) (λ p _=>k (.negSucc (p+1))) m
def fb {α:Type}(b:Bool) (k:Bool->α):α:=match b with
 | true=>k true
 | false=>k false
def fl {α β:Type}:List α->(List α->β)->β
 | [],k=>k []
 | a::r,k=>fl r λ r'=>k (a::r')
def abD (a b:ByteArray):Bool:=a.data.toList == b.data.toList
mutual
def D.same:D->D->Bool
 | .undef,.undef=>true
 | .nil,.nil=>true
 | .nilfn,.nilfn=>true
 | .nilmap,.nilmap=>true
 | .nilp,.nilp=>true
 | .int q n,.int q' n'=>decide (q=q')&&decide (n=n')
 | .bool b,.bool b'=>b == b'
 | .str s,.str s'=>abD s s'
 | .sl xs,.sl ys=>D.sameL xs ys
 | .ms n o m,.ms n' o' m'=>n == n'&&o == o'&&m == m'
 | .ptr n o m,.ptr n' o' m'=>n == n'&&o == o'&&m == m'
 | .vp e j,.vp e' j'=>D.same e e'&&j == j'
 | .agg xs,.agg ys=>D.sameL xs ys
 | .tup xs,.tup ys=>D.sameL xs ys
 | .fn f a b,.fn f' a' b'=>f == f'&&D.sameL a a'&&D.sameL b b'
 | .yld n,.yld n'=>n == n'
 | .mp n,.mp n'=>n == n'
 | _,_=>false
def D.sameL:List D->List D->Bool
 | [],[]=>true
 | d::r,e::s=>D.same d e&&D.sameL r s
 | _,_=>false
end
def NL (d:D):Bool:=d.cells.all D.one
theorem Lc {d:D}(h:NL d=true):aD d:=λ x hx=>List.all_eq_true.1 h x hx
def LH.frz (l:LH) (n:Nat):LH:=match l.h n with
 | .arr e x=>l.set n (.frz e x)
 | _=>l
end Go.Am
namespace Go.Am
open Go
variable [ck]
abbrev abi:=Nat->List D->LH->Option (D×LH)
structure LM where
 call:FuncId->List D->LH->Option (D×LH)
 vcall:FuncId->List D->Option D
 own:FuncId->Bool
 yld:abi
 k:Nat
 callR:Nat->abi->FuncId->List D->LH->Option (D×LH)
def Fu (n:Nat) (l:List (Nat×Nat×D)):Bool:=l.all λ p=>p.2.2.cells.length == p.2.1&&decide (p.1+p.2.1<=n)&&NL p.2.2
theorem Ee {n:Nat}{l:List (Nat×Nat×D)}(h:Fu n l=true):mR n l:=by
 intro p hp;have:=List.all_eq_true.1 h p hp;simp only[Bool.and_eq_true,beq_iff_eq,decide_eq_true_eq]at this;exact⟨this.1.1,this.1.2,Lc this.2⟩
def aa5 (len esz:Nat) (l:List (Nat×D)):Bool:=l.all λ p=>decide (p.1<len)&&p.2.cells.length == esz&&NL p.2
theorem Hm {len esz:Nat}{l:List (Nat×D)}(h:aa5 len esz l=true):Ph len esz l:=by
 intro p hp;have:=List.all_eq_true.1 h p hp;simp only[Bool.and_eq_true,beq_iff_eq,decide_eq_true_eq]at this;exact⟨this.1.1,this.1.2,Lc this.2⟩
structure YM [LB] (P:Program) (C:LM):Prop where
 call:∀f ds l d l',C.call f ds l=some (d,l')->l.nf->l'.nf/\∀K:HKq,K d l'.w->ag P f ds l.w K
 yld:∀n ds l d l',C.yld n ds l=some (d,l')->l.nf->l'.nf/\∀K:HKq,K d l'.w->uq P n ds l.w K
 vcall:∀f ds r,C.vcall f ds=some r->aV P f ds (· = r)
variable {P:Program}{C:LM}[LB]
end Go.Am
namespace Go.Am
open Go
variable [ck]
variable {P:Program}{C:LM}[LB]
end Go.Am
namespace Go.Am
open Go
variable [ck]
variable {P:Program}{C:LM}[LB]
abbrev LH.wb (b:Nat->fu) (l:LH):Heap:=letI:LB:=⟨b⟩;l.w
def Agr (k:Nat) (b b':Nat->fu):Prop:=∀m,m<k->b m=b' m
def YOk (P:Program) (Y:abi) (k:Nat) (b0:Nat->fu):Prop:=∀b,Agr k b b0->∀n ds l d l',Y n ds l=some (d,l')->l.nf->l'.nf/\∀K:HKq,K d (LH.wb (b) l')->uq P n ds (LH.wb (b) l) K
structure ad9 (P:Program) (C:LM) (b0:Nat->fu):Prop where
 ok:∀b,Agr C.k b b0->(letI:LB:=⟨b⟩;YM P C)
 callR:∀b,Agr C.k b b0->∀k Y,C.k<=k->YOk P Y k b->∀f ds l d l',C.callR k Y f ds l=some (d,l')->l.nf->l'.nf/\∀K:HKq,K d (LH.wb (b) l')->ag P f ds (LH.wb (b) l) K
end Go.Am
namespace Go.Am
open Go
variable [ck]
variable {P:Program}{l:LH}{KH:HKq}{K:D->Prop}
theorem LH.ack {l:LH}{n:Nat}(hn:n<l.length):l.h n=l[n]:=by simp[LH.h,hn]
theorem LH.aaC {l:LH}{n:Nat}(hn:l.length<=n):l.h n=.free:=by simp[LH.h,hn]
theorem LH.top {l:LH}(h:l.nf){n:Nat}(t:pB l.h n):n=l.length:=by
 rcases Nat.lt_trichotomy n l.length with h1|h1|h1
 ·have:=t.free;rw[LH.ack h1]at this;exact absurd this (h _ (List.getElem_mem h1))
 ·exact h1
 ·exfalso;obtain⟨k,rfl⟩:∃k,n=k+1:=⟨n-1,by omega⟩;exact t.2 k rfl (LH.aaC (by omega))
theorem LH.U8 (l:LH) (s:Slot):LH.h (l++[s])=ak l.h l.length s:=by
 grind [ak,h]
theorem LH.acj {l:LH}{n:Nat}(s:Slot) (hn:n<l.length):LH.h (l.set n s)=ak l.h n s:=by
 grind [ak,h]
theorem lN:bP=LH.h []:=by funext n;simp[bP,LH.h]
theorem WN (hn:l.nf):pB l.h l.length:=by
 refine⟨λ m hm=>LH.aaC hm,λ k hk=>?_⟩;have:k<l.length:=by omega
 rw[LH.ack this];exact hn _ (List.getElem_mem this)
theorem RT (hn:l.nf){Q:Nat->Prop}:(∀n,pB l.h n->Q n)=Q l.length:=by
 grind [WN,LH.top]
theorem aak:LH.nf []:=λ _ h=>by cases h
theorem XH {s:Slot}{l:LH}:LH.nf (s::l)=(s≠.free/\LH.nf l):=by
 grind [LH.nf]
theorem acb {d:D}(hn:l.nf):ab P (.box (.c d)) l.h KH=(aD d/\KH (.ptr l.length 0 0) (LH.h (l++[.box d]))):=by
 simp only[ab,vcOp,Arg.get];rw[RT hn,LH.U8]
theorem sC {d:D}(hn:l.nf):ab P (.alloc d) l.h KH=KH (.ptr l.length 0 0) (LH.h (l++[.box d])):=by
 simp only[ab,vcOp];rw[RT hn,LH.U8]
theorem U9 {n i j o:Nat}:ab P (.fadd (.c (.ptr n i j)) o) l.h KH=((l.h n).used=true/\KH (.ptr n i (j+o)) l.h):=rfl
theorem h_ldp {n i j s:Nat}{g:Bool}:ab P (.ld (.c (.ptr n i j)) s g) l.h KH=(match l.h n with
   | .box v=>i=0/\vpart v.cells j s g (KH · l.h)
   | .arr _ els=>i<els.length/\∀d,els[i]?=some d->vpart d.cells j s g (KH · l.h)
   | .frz _ els=>i<els.length/\∀d,els[i]?=some d->vpart d.cells j s g (KH · l.h)
   | _=>False):=rfl
theorem Y7 {n i j s:Nat}{v:D}:ab P (.st (.c (.ptr n i j)) (.c v) s) l.h KH=(v.cells.length=s/\aD v/\match l.h n with
   | .box d=>i=0/\j+s<=d.cells.length/\KH .undef (ak l.h n (.box (setCells d j v.cells)))
   | .arr esz els=>i<els.length/\j+s<=esz/\∀d,els[i]?=some d->KH .undef (ak l.h n (.arr esz (els.set i (setCells d j v.cells))))
   | _=>False):=rfl
theorem aar {n:Nat}:LH.h [] n=.free:=by simp[LH.h]
theorem BT {s:Slot}{l:LH}:LH.h (s::l) 0=s:=rfl
theorem Nq {s:Slot}{l:LH}{n:Nat}:LH.h (s::l) (n+1)=LH.h l n:=rfl
theorem TQ {n:Nat}{s:Slot}(hn:n<l.length):ak l.h n s=LH.h (l.set n s):=(LH.acj s hn).symm
theorem xv {f:FuncId}{a b:List Arg}{h:Heap}:ab P (.mkf f a b) h KH=KH (.fn f (a.map (·.get [])) (b.map (·.get []))) h:=rfl
theorem Nt {f:FuncId}{a b:List D}{as:List Arg}{h:Heap}:ab P (.callv (.c (.fn f a b)) as) h KH=(de P f=true/\ag P f (a++as.map (·.get [])++b) h KH):=rfl
theorem Ab {z:List D}{ps:List (Nat×Nat×Arg)}{h:Heap}:ab P (.bld z ps) h KH=(mR z.length (ps.map λ p=>(p.1,p.2.1,p.2.2.get []))/\KH (.agg (fillD z (ps.map λ p=>(p.1,p.2.1,(p.2.2.get []).cells)))) h):=rfl
theorem MB {neg agg:Bool}{ks:List CK}{x y:D}{h:Heap}:ab P (.eqv neg agg ks (.c x) (.c y)) h KH=(x.isAgg=agg/\y.isAgg=agg/\veqv neg ks x y (KH · h)):=rfl
theorem jX {d:D}{h:Heap}:ab P (.box (.c d)) h KH=(aD d/\∀n,pB h n->KH (.ptr n 0 0) (ak h n (.box d))):=rfl
theorem fc {d:D}{h:Heap}:ab P (.alloc d) h KH=∀n,pB h n->KH (.ptr n 0 0) (ak h n (.box d)):=rfl
theorem SU {esz bytes:Nat}{z:D}{k k':IntKind}{a b:Int}{h:Heap}:ab P (.mk esz bytes z (.c (.int k a)) (.c (.int k' b))) h KH =
  (0<=a/\a<=b/\b*bytes<=140737488355328/\b<=9223372036854775807/\∀n,pB h n->KH (.ms n 0 a.toNat) (ak h n (.arr esz (List.replicate a.toNat z)))):=rfl
theorem wU {n i j o:Nat}{h:Heap}:ab P (.fadd (.c (.ptr n i j)) o) h KH=((h n).used=true/\KH (.ptr n i (j+o)) h):=rfl
theorem kT {n i j s:Nat}{g:Bool}{h:Heap}:ab P (.ld (.c (.ptr n i j)) s g) h KH=(match h n with
   | .box v=>i=0/\vpart v.cells j s g (KH · h)
   | .arr _ els=>i<els.length/\∀d,els[i]?=some d->vpart d.cells j s g (KH · h)
   | .frz _ els=>i<els.length/\∀d,els[i]?=some d->vpart d.cells j s g (KH · h)
   | _=>False):=rfl
theorem fG {n i j s:Nat}{v:D}{h:Heap}:ab P (.st (.c (.ptr n i j)) (.c v) s) h KH=(v.cells.length=s/\aD v/\match h n with
   | .box d=>i=0/\j+s<=d.cells.length/\KH .undef (ak h n (.box (setCells d j v.cells)))
   | .arr esz els=>i<els.length/\j+s<=esz/\∀d,els[i]?=some d->KH .undef (ak h n (.arr esz (els.set i (setCells d j v.cells))))
   | _=>False):=rfl
theorem pB.ne {h:Heap}{n m:Nat}(t:pB h n) (hm:h m≠.free):m≠n:=by rintro rfl;exact hm t.free
theorem Ext.refl {h:Heap}:Ext h h:=λ _ _=>rfl
theorem Ext.trans {a b c:Heap}(h:Ext a b) (k:Ext b c):Ext a c:=λ n hn=>by rw[k n (by rw[h n hn];exact hn),h n hn]
theorem Ext.new {h:Heap}{n:Nat}(t:pB h n) (s:Slot):Ext h (ak h n s):=wV t.free s
theorem bk {f:FuncId}{ds:List D}{h:Heap}{KH:HKq}{R:D->Prop}(hv:aV P f ds R) (hds:∀d∈ds,d.vd=true/\aD d) (hk:∀r,R r->KH r h):ag P f ds h KH:=by
 have GZ:∀(x:D),x.vone=true->x.fzc h=x/\x.nR=[]/\rM h x:=by
  intro x hx;cases x<;>simp_all [D.vone,D.fzc,D.nR,rM]
 have u:∀d∈ds,d.fz h=d/\d.nm=[]/\pD h d:=by
  intro d hd;obtain⟨h1,h2⟩:=hds d hd;rcases JS h1 with hv|⟨cs,rfl,E⟩
  ·have:=GZ d hv;cases d<;>simp_all [D.fz,D.nm,D.vone,pD,D.cells]
  ·refine⟨?_,?_,λ x hx=>(GZ x (E x hx)).2.2⟩
   ·simp only[D.fz];congr 1;rw[List.map_congr_left (λ x hx=>(GZ x (E x hx)).1)];simp
   grind [D.nm,List.flatMap_eq_nil_iff]
 have G:ds.map (D.fz h)=ds:=by
  rw[List.map_congr_left (λ d hd=>(u d hd).1)];simp
 have e2:ds.flatMap D.nm=[]:=by
  grind [List.flatMap_eq_nil_iff]
 refine ag.mono ?_ (mW (K:=R) (by rw[G];exact hv) (λ d hd=>⟨(hds d hd).2,(u d hd).2.2,by grind⟩));grind
theorem HV {d:D}(h:d.one=true):aD d=True:=by
 apply propext;refine⟨λ _=>trivial,λ _ x hx=>?_⟩;cases d<;>simp_all [D.cells,D.one]
theorem Ui {cs:List D}:aD (.agg cs)=∀x∈cs,x.one=true:=rfl
theorem ai {A B:Prop}:vcond (.bool true) A B=A:=by simp[vcond]
theorem ah {A B:Prop}:vcond (.bool false) A B=B:=by simp[vcond]
theorem Kj {d:D}{h:Heap}{K:D->Prop}(hd:d.vd=true) (ho:aD d) (hk:K d):lD d/\yb h d/\(d.fzt h).JR=true/\K (d.fzt h):=by
 have GZ:∀(x:D),x.vone=true->x.fzc h=x/\rM h x:=by
  intro x hx;cases x<;>simp_all [D.vone,D.fzc,rM]
 have e:d.fzt h=d/\yb h d/\lD d/\d.JR=true:=by
  rcases JS hd with E|⟨cs,rfl,u⟩
  ·have:=GZ d E;have hc:d.cells=[d]:=by cases d<;>simp_all [D.vone,D.cells]
   refine⟨?_,?_,?_,?_⟩
   ·cases d<;>simp_all [D.fzt,D.fz,D.vone]
   ·cases d<;>simp_all [yb,pD,D.vone]
   ·cases d<;>simp_all [lD,D.vone]
   ·cases d<;>simp_all [D.JR,D.vone]
  ·refine⟨?_,λ x hx=>(GZ x (u x hx)).2,ho,hd⟩;simp only[D.fzt,D.fz];congr 1;rw[List.map_congr_left (λ x hx=>(GZ x (u x hx)).1)];simp
 grind
def yn (K:D->Prop) (r:D) (h:Heap):Prop:=lD r/\yb h r/\(r.fzt h).JR=true/\K (r.fzt h)
theorem jM {k:IntKind}{n:Int}{h:Heap}{K:D->Prop}:yn K (.int k n) h=K (.int k n):=by
 apply propext;exact⟨λ h=>h.2.2.2,λ hk=>Kj rfl (λ x hx=>by simp[D.cells]at hx;subst hx;rfl) hk⟩
theorem bO {b:Bool}{h:Heap}{K:D->Prop}:yn K (.bool b) h=K (.bool b):=by
 apply propext;exact⟨λ h=>h.2.2.2,λ hk=>Kj rfl (λ x hx=>by simp[D.cells]at hx;subst hx;rfl) hk⟩
theorem WG {xs:List D}{h:Heap}{K:D->Prop}:yn K (.sl xs) h=K (.sl xs):=by
 apply propext;exact⟨λ h=>h.2.2.2,λ hk=>Kj rfl (λ x hx=>by simp[D.cells]at hx;subst hx;rfl) hk⟩
theorem N1 {h:Heap}{K:D->Prop}:yn K .nil h=K .nil:=by
 apply propext;exact⟨λ h=>h.2.2.2,λ hk=>Kj rfl (λ x hx=>by simp[D.cells]at hx;subst hx;rfl) hk⟩
theorem so {d:D}{h:Heap}{K:D->Prop}(hd:d.vd=true/\aD d) (hk:K d):yn K d h:=Kj hd.1 hd.2 hk
theorem WH {n esz:Nat}{els:List D}{h:Heap}{K:D->Prop}(hn:(h n).row=some (esz,els)) (hv:∀x∈els,∀y∈x.cells,y.vone=true) (hk:K (.sl els)):yn K (.ms n 0 els.length) h:=by
 refine⟨λ x hx=>by simp[D.cells]at hx;subst hx;rfl,λ x hx=>?_,?_,?_⟩
 ·simp only[D.cells,List.mem_singleton]at hx;subst hx;exact⟨esz,els,hn,by simp,λ x hx y hy=>hv x (by simpa using hx) y hy⟩
 ·simp[D.fzt,D.fz,D.fzc,hn,D.JR,D.vd,D.vone]
 grind [D.fzt,D.fz,D.fzc]
theorem bt {fz:Bool}{f:FuncId}{loops:TLq}{dr:Nat->Array Oper->Option ACode}{F:aJ}(hc:cFn P fz f loops dr=some F) (hdr:CX P F.nt dr)
  {ds:List D}{K:D->Prop}(hlen:Nat.ble ds.length F.nt=true) {V:(HKq)->Prop}(hV:∀K,V K=vcC P F.code (λ x e h'=>match x with|.exit _=>False|.pan=>False|.jump _=>False|_=>mu P F.res K e h') (params ds 0) bP)
  (hv:V (yn K)):aV P f ds K :=
 TL hc hdr ⟨Nat.le_of_ble_eq_true hlen,Eq.mp (hV _) hv⟩
theorem aI {fz:Bool}{f:FuncId}{loops:TLq}{dr:Nat->Array Oper->Option ACode}{F:aJ}(hc:cFn P fz f loops dr=some F) (hdr:CX P F.nt dr)
  {ds:List D}{h:Heap}{K:HKq}(hlen:Nat.ble ds.length F.nt=true) {V:(HKq)->Prop}(hV:∀K,V K=vcC P F.code (λ x e h'=>match x with|.exit _=>False|.pan=>False|.jump _=>False|_=>mu P F.res K e h') (params ds 0) h)
  (hv:V K):ag P f ds h K :=
 Pv hc hdr ⟨Nat.le_of_ble_eq_true hlen,Eq.mp (hV _) hv⟩
def vR:=And.intro @Zz (And.intro @WL (And.intro @WM (And.intro @ai (And.intro @ah (And.intro @nQ (And.intro (And.intro @zx (And.intro @JW @BO)) (And.intro @ca (And.intro @mz (And.intro @CY (And.intro @ss (And.intro @cy (And.intro @Mj (And.intro @WK (And.intro @YN (And.intro @TP (And.intro @Oc (And.intro @QZ (And.intro @bZ (And.intro @mA (And.intro @fK (And.intro @Oe (And.intro @zy (And.intro @EL (And.intro @Zy (And.intro @Zx (And.intro @TO (And.intro @Od (And.intro @YO (And.intro @zw (And.intro @gd (And.intro @ko (And.intro @eZ (And.intro @Hg (And.intro @h_ext (And.intro @acm (And.intro @aaz (And.intro @jq (And.intro @cv (And.intro @kH (And.intro @bg (And.intro @iJ (And.intro @xv (And.intro @Nt (And.intro @Ab (And.intro @MB (And.intro @aar (And.intro @BT (And.intro @Nq (And.intro @jM (And.intro @bO (And.intro @WG (@N1))))))))))))))))))))))))))))))))))))))))))))))))))))
theorem fZ {cs:List D}:(D.agg cs).cells=cs:=rfl
theorem lV {k:IntKind}{n:Int}:(D.int k n).cells=[.int k n]:=rfl
theorem Qu {b:Bool}:(D.bool b).cells=[.bool b]:=rfl
theorem S3 {s:ByteArray}:(D.str s).cells=[.str s]:=rfl
theorem VJ {xs:List D}:(D.sl xs).cells=[.sl xs]:=rfl
theorem S5:D.nil.cells=[.nil]:=rfl
theorem O8:D.nilfn.cells=[.nilfn]:=rfl
theorem NB:D.nilmap.cells=[.nilmap]:=rfl
theorem Qs:D.nilp.cells=[.nilp]:=rfl
theorem VK {n:Nat}:(D.mp n).cells=[.mp n]:=rfl
theorem PZ:D.nilmap.one=true:=rfl
theorem UA:D.nilp.one=true:=rfl
theorem aaf {n:Nat}:(D.mp n).one=true:=rfl
theorem O9 {n o l:Nat}:(D.ms n o l).cells=[.ms n o l]:=rfl
theorem S4 {n o l:Nat}:(D.ptr n o l).cells=[.ptr n o l]:=rfl
theorem VM {f:FuncId}{a b:List D}:(D.fn f a b).cells=[.fn f a b]:=rfl
theorem ae {a:List D}:aB a a=True:=by simp[aB]
theorem XA {k:IntKind}{n:Int}:aD (.int k n)=True:=HV rfl
theorem UB {b:Bool}:aD (.bool b)=True:=HV rfl
theorem Xx {s:ByteArray}:aD (.str s)=True:=HV rfl
theorem aad {xs:List D}:aD (.sl xs)=True:=HV rfl
theorem Xz:aD .nil=True:=HV rfl
theorem aae {n o l:Nat}:aD (.ms n o l)=True:=HV rfl
theorem Xy {n o l:Nat}:aD (.ptr n o l)=True:=HV rfl
theorem aag {f:FuncId}{a b:List D}:aD (.fn f a b)=True:=HV rfl
theorem xw {e:LEnv}{d:D}:Arg.get e (.c d)=d:=rfl
theorem TZ {cs new:List D}{j:Nat}:setCells (.agg cs) j new=.agg (cs.take j++new++cs.drop (j+new.length)):=rfl
theorem TY {k:IntKind}{n:Int}{j:Nat}{x:D}:setCells (.int k n) j [x]=x:=rfl
theorem Sr {b:Bool}{j:Nat}{x:D}:setCells (.bool b) j [x]=x:=rfl
theorem WW {xs:List D}{j:Nat}{x:D}:setCells (.sl xs) j [x]=x:=rfl
theorem TX {j:Nat}{x:D}:setCells .nil j [x]=x:=rfl
attribute [simp] TZ TY Sr WW TX
def gR:=And.intro @jX (And.intro @fc (And.intro @SU (And.intro @wU (And.intro @kT (@fG)))))
theorem N8 {k:IntKind}{n:Int}:(D.int k n).vone=true:=rfl
theorem Sg {b:Bool}:(D.bool b).vone=true:=rfl
theorem TI {s:ByteArray}:(D.str s).vone=true:=rfl
theorem QY {xs:List D}:(D.sl xs).vone=true:=rfl
theorem TJ:D.nil.vone=true:=rfl
theorem UF {k:IntKind}{n:Int}:(D.int k n).one=true:=rfl
theorem SD {b:Bool}:(D.bool b).one=true:=rfl
theorem UC {s:ByteArray}:(D.str s).one=true:=rfl
theorem XB {xs:List D}:(D.sl xs).one=true:=rfl
theorem UE:D.nil.one=true:=rfl
theorem XC {n o l:Nat}:(D.ms n o l).one=true:=rfl
theorem UD {n o l:Nat}:(D.ptr n o l).one=true:=rfl
theorem XD {f:FuncId}{a b:List D}:(D.fn f a b).one=true:=rfl
theorem Zw {cs:List D}:(D.agg cs).vd=cs.all D.vone:=rfl
theorem Zv {k:IntKind}{n:Int}:(D.int k n).vd=true:=rfl
theorem WI {b:Bool}:(D.bool b).vd=true:=rfl
theorem Zt {s:ByteArray}:(D.str s).vd=true:=rfl
theorem abx {xs:List D}:(D.sl xs).vd=true:=rfl
theorem Zu:D.nil.vd=true:=rfl
theorem SP {cs:List D}:(D.agg cs).isAgg=true:=rfl
theorem SO {k:IntKind}{n:Int}:(D.int k n).isAgg=false:=rfl
theorem P8 {b:Bool}:(D.bool b).isAgg=false:=rfl
theorem SN {s:ByteArray}:(D.str s).isAgg=false:=rfl
attribute [simp] N8 Sg TI QY TJ UF SD UC XB UE XC UD XD Zw Zv WI Zt abx Zu SP SO P8 SN
attribute [simp] aak XH Slot.live Slot.used fZ lV Qu S3 VJ S5 O8 NB Qs VK PZ UA aaf O9 S4 VM ae XA UB Xx aad Xz aae Xy aag Ui af xw
end Go.Am
namespace Go.Am
open Go
variable [ck]
variable {P:Program}{KH:HKq}{h:Heap}
def Own (esz:Nat) (h:Heap) (v:D) (els:List D):Prop:=(v=.nil/\els=[])\/∃n,v=.ms n 0 els.length/\h n=.arr esz els
def NS (h h':Heap) (v:D):Prop:=∀k,h k≠.free->(∀l,v≠.ms k 0 l)->h' k=h k
theorem GZ {x:D}(hx:x.vone=true):x.fzc h=x/\x.nR=[]/\rM h x:=by
 cases x<;>simp_all [D.vone,D.fzc,D.nR,rM]
theorem zt {d:D}(h1:d.vd=true):d.fz h=d/\d.nm=[]/\pD h d:=by
 rcases JS h1 with E|⟨cs,rfl,u⟩
 ·have:=GZ (h:=h) E;cases d<;>simp_all [D.fz,D.nm,D.vone,pD,D.cells]
 ·refine⟨?_,?_,λ x hx=>(GZ (u x hx)).2.2⟩
  ·simp only[D.fz];congr 1;rw[List.map_congr_left (λ x hx=>(GZ (h:=h) (u x hx)).1)];simp
  ·simp only[D.nm];rw[List.flatMap_eq_nil_iff];exact λ x hx=>(GZ (h:=h) (u x hx)).2.1
theorem Qm {esz:Nat}{z d:D}(h1:d.vd=true) (h2:aD d) (h3:d.cells.length=esz) (hk:∀n,pB h n->KH (.ms n 0 1) (ak h n (.arr esz [d]))):ab P (.bldS true esz 1 z [(0,.c d)]) h KH:=by
 obtain⟨E,u,a3⟩:=zt (h:=h) h1;refine⟨λ p hp=>by grind [Arg.get],λ _ p hp=>by grind [Arg.get],λ n t=>?_⟩;grind [Arg.get,Heap.freezeAll,setEls]
theorem KL {esz:Nat}{z:D}{fz:Bool}(hk:∀n,pB h n->KH (.ms n 0 0) (ak h n (.arr esz []))):ab P (.bldS fz esz 0 z []) h KH:=by
 refine⟨λ p hp=>by simp at hp,λ _ p hp=>by simp at hp,λ n t=>?_⟩;grind [Heap.freezeAll,setEls]
theorem aaG {esz bytes n5:Nat}{z s d:D}{els:List D}(ho:Own esz h s els) (h5:h n5=.arr esz [d]) (hd:aD d) (hb:(els.length+1)*bytes<=140737488355328) (hl:els.length+1<=9223372036854775807)
  (hk:∀v h',Own esz h' v (els++[d])->NS h h' s->(∀k,h k=.free->v≠.ms k 0 (els.length+1)->h' k=.free)->KH v h'):ab P (.app (.c s) (.c (.ms n5 0 1)) esz bytes z) h KH:=by
 have hx:(h n5).row=some (esz,[d]):=by rw[h5];rfl
 refine⟨[d],hx,by simp,?_⟩;simp only[List.drop_zero,List.take_succ_cons,List.take_zero];refine⟨λ y hy=>by grind,?_⟩;rcases ho with⟨rfl,rfl⟩|⟨m,rfl,hm⟩
 ·refine⟨⟨by simpa using hb,by simp⟩,λ n t=>hk _ _ (Or.inr ⟨n,rfl,af _ _ _⟩) (λ k hk _=>aa _ _ (t.ne hk)) (λ k hk hne=>?_)⟩;grind [aa]
 ·refine⟨els,.of hm,by simp,⟨by simpa using hb,by simpa using hl⟩,λ n t=>⟨?_,λ h0=>absurd rfl h0⟩⟩;refine hk _ _ (Or.inr ⟨n,by simp,af _ _ _⟩) (λ k u hne=>?_) (λ k u hne=>?_)
  ·have h1:=t.ne u;grind [aa]
  grind [aa]
theorem Vc {esz bytes:Nat}{z z' s d:D}{els:List D}(ho:Own esz h s els) (h1:d.vd=true) (h2:aD d) (h3:d.cells.length=esz) (hb:(els.length+1)*bytes<=140737488355328) (hl:els.length+1<=9223372036854775807)
  (hk:∀v h',Own esz h' v (els++[d])->NS h h' s->KH v h'):ab P (.bldS true esz 1 z [(0,.c d)]) h λ x h1=>ab P (.app (.c s) (.c x) esz bytes z') h1 KH:=by
 refine Qm h1 h2 h3 λ n t=>?_
 have u:Own esz (ak h n (.arr esz [d])) s els:=by
  rcases ho with ho|⟨m,hs,hm⟩
  ·exact Or.inl ho
  ·exact Or.inr ⟨m,hs,by rw[aa _ _ (t.ne (by rw[hm];simp))];exact hm⟩
 refine aaG u (af _ _ _) h2 hb hl λ v h' H G _=>hk v h' H λ k hk hne=>?_
 have E:=t.ne hk;rw[G k (by grind [aa]) hne,aa _ _ E]
end Go.Am
