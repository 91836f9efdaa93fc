/- The abstract machine: what the operations of the program do, on plain data. No condition. -/
import Derived.Test.YtjhjndjghaagiaaA1
set_option linter.unnecessarySimpa false
set_option linter.defProp false
set_option linter.unusedSectionVars false
set_option linter.unusedSimpArgs false
set_option linter.unusedVariables false
namespace Go.Am
open Go
variable [bW]
variable {P:Program}{nt:Nat}
def AOp.RP:AOp->Bool
 | .call _ _=>true
 | _=>false
def cXOp (P:Program) (fz:Bool) (o:Oper):Option AOp :=
 match o.op with
 | .call { callee:=.value (.func f),args:=args,argTypes:=_ }=>if fc P f then(args.toList.mapM cArg).map (.call f) else none
 | .defer _=>none
 | _=>match cOp P fz o with
  | some op=>if op.RP then none else some op
  | none=>none
def oZ (P:Program) (fz:Bool) (nt:Nat) (o:Oper):Option AOper :=
 if o.dst.all (· < nt)&&o.guard.isNone then(cXOp P fz o).map (⟨o.dst,·,none⟩) else none
def isPanR (P:Program) (nt:Nat) (ops:Array Oper):Bool :=
 match ops.toList with
 | [o1,o2,o3]=>match o1.op,o2.op,o3.op,o1.dst,o2.dst with
  | .build t ps,.makeInterface t' (.tmp a'),.panic (.tmp b'),some a,some b =>
   decide (t=t')&&ps.isEmpty&&decide (a'=a)&&decide (b'=b)&&decide (a<nt)&&decide (b<nt)&&o1.guard.isNone&&o2.guard.isNone&&o3.guard.isNone &&
    (match P.underlying t with|some (.struct fs)=>fs.isEmpty|_=>false)&&(match (P.info? t).bind (·.zero) with|some (.agg cs)=>cs.isEmpty|_=>false) &&
    (match bW.panv with|.iface t0 (.agg cs)=>decide (t0=t)&&cs.isEmpty|_=>false)
  | _,_,_,_,_=>false
 | _=>false
def yG (P:Program) (nt:Nat) (ops:Array Oper) (l:List Nat) (K KP:Env->Heap->Prop) (t:Env) (h:Heap):Prop :=
 ∀(r:Option Nat) (c:Ctx) (w:World) (a:Act) (Q:Exit->Act->World->Prop),c.h=h->c.hp=w.heap->av c->ot c nt t a->(∀a' w',Fin c w nt K a' w'->Q .normal a' w') ->
  (∀a' w',Fin c w nt KP a' w'->Q (.panic [{ v:=bW.panv,recovered:=false }]) a' w')->wpOpsIn (rF r) 0 P ops Q l a w
theorem LI {ops:Array Oper}{K KP:Env->Heap->Prop}{t:Env}{h:Heap}(hk:K t h):yG P nt ops [] K KP t h :=
 fun _ _ _ _ _ hh hp hr hs hq _=>hq _ _ (Fin.here hh hp hr hs hk)
theorem HW {id:Nat}{ops:Array Oper}{Q:Post}{t:Env}{h:Heap}(hx:yG P nt ops (List.range ops.size) (Q .normal) (Q .pan) t h):o9 P nt (.region id ops false) Q t h :=
 fun r c w a hh hp hr hs _=>wpIn_region (hx r c w a _ hh hp hr hs (fun _ _ hf=>hf) (fun _ _ hf=>⟨rfl,hf⟩))
theorem Jk {ops:Array Oper}{i:Nat}{rest:List Nat}{o:Oper}{K KP:Env->Heap->Prop}{t:Env}{h:Heap}(ho:ops[i]?=some o) (hnd:∀c,o.op≠.defer c) (hg:o.guard=none)
  (hx:Ft P nt o (yG P nt ops rest K KP) t h):yG P nt ops (i::rest) K KP t h:=by
 intro r c w a Q hh hp hr hs hq hq2
 simp only[wpOpsIn,ho]
 rw[if_pos (by simp[Region.wanted,hg])]
 refine Oper.wpIn_mono (fun a' w' hf=>?_) (hx hnd r c w a Q hh hp hr hs)
 obtain⟨ρ,t',h',r1,r2,r3,r4,r5⟩:=hf
 exact r5 r _ w' a' Q rfl rfl r2 r4 (fun a'' w'' hf=>hq _ _ (Fin.from r1 r3 hf)) (fun a'' w'' hf=>hq2 _ _ (Fin.from r1 r3 hf))
theorem Jl {ops:Array Oper}{i:Nat}{rest:List Nat}{o:Oper}{f:FuncId}{args:Array Operand}{ats:Array TypeId}{args':List Arg}{K KP:Env->Heap->Prop}{e:LEnv}{h:Heap}(ho:ops[i]?=some o) (hg:o.guard=none)
  (hop:o.op=.call { callee:=.value (.func f),args:=args,argTypes:=ats }) (ha:args.toList.mapM cArg=some args') (hd:∀i,o.dst=some i->i<nt) (hf:fc P f=true)
  (hx:xG P f (args'.map (·.get e)) h (fun d h'=>yG P nt ops rest K KP (e.put o.dst d).get h') (fun h'=>KP e.get h')):yG P nt ops (i::rest) K KP e.get h:=by
 intro r c w a Q hh hp hr hs hq hq2
 simp only[wpOpsIn,ho]
 rw[if_pos (by simp[Region.wanted,hg])]
 obtain⟨a1,a2⟩:=mW ha hs
 have hrun:(execOp a.eval o).run P w=.ok (.enter f (args.map a.eval)) w:=by
  have:(execOp a.eval o).run P w=(callFunc f (args.map a.eval ++ #[])).run P w:=by
   simp[execOp,hop,resolve,Deferred.ofValue,Act.eval,invoke]
  rw[this,Array.append_empty]
  exact jn hf _ w
 refine iC (fun c hc=>by rw[hop]at hc;cases hc) hrun ?_
 refine⟨fun h=>by(cases h),?_⟩
 refine(show CallsIn (rF r) 0 P f _ w _ from callsIn_wide.2 (hx c w _ hh hp hr a1 a2)).mono ?_
 rintro e' w' ⟨ρ,h',h1,h2,h3,⟨v,d,rfl,h4,h5⟩|⟨rfl,h5⟩⟩
 ·refine h5 r ⟨ρ,c.X,h',w'.heap⟩ w' _ Q rfl rfl h2 (by rw[LEnv.bf];exact(hs.mono h1).put hd h4) (fun a'' w'' hf=>hq _ _ (Fin.from h1 h3 hf)) (fun a'' w'' hf=>hq2 _ _ (Fin.from h1 h3 hf))
 ·exact hq2 _ _ ⟨ρ,e.get,h',h1,h2,h3,hs.mono h1,h5⟩
theorem HJ {fz:Bool}{o:Oper}{ao:AOper}(h:oZ P fz nt o=some ao):(∀i,o.dst=some i->i<nt)/\o.guard=none/\∃op,cXOp P fz o=some op/\ao=⟨o.dst,op,none⟩:=by
 unfold oZ at h
 split at h
 ·rename_i hc
  simp only[Bool.and_eq_true]at hc
  simp at h
  obtain⟨op,h1,h2⟩:=h
  refine⟨fun i hi=>?_,by simpa using hc.2,op,h1,h2.symm⟩
  have:=hc.1
  rw[hi]at this
  simpa using this
 ·cases h
theorem Gk {fz:Bool}{ops:Array Oper}{i:Nat}{rest:List Nat}{o:Oper}{ao:AOper}{r:List AOper}(ho:ops[i]?=some o) (hc:oZ P fz nt o=some ao){KN KP:LEnv->Heap->Prop}{e:LEnv}{h:Heap}
  (hrest:∀e' h',vcOpsX P r KN KP e' h'->yG P nt ops rest (up KN) (up KP) e'.get h') (hv:vcOpsX P (ao::r) KN KP e h):yG P nt ops (i::rest) (up KN) (up KP) e.get h:=by
 obtain⟨hd,hg,op,hop,rfl⟩:=HJ hc
 unfold cXOp at hop
 split at hop
 ·rename_i f args ats hoo
  split at hop
  ·rename_i hf
   simp at hop
   obtain⟨args',ha,rfl⟩:=hop
   simp only[vcOpsX]at hv
   refine Jl ho hg hoo ha hd hf (hv.mono (fun d h' hk=>hrest _ _ hk) (fun h' hk=>⟨e,rfl,hk⟩))
  ·cases hop
 ·cases hop
 ·rename_i hnd
  split at hop
  ·rename_i op' hop'
   split at hop
   ·cases hop
   ·rename_i hnc
    simp at hop
    subst hop
    have hs:=pE (nt:=nt) hop' hd
    have hv':vcOp P op' (fun d h'=>vcOpsX P r KN KP (e.put o.dst d) h') e h:=by
     cases op'<;>first|exact hv|(exact absurd rfl hnc)
    refine Jk ho (fun c hc=>hnd c hc) hg ?_
    intro hnd' r' c w a Q hh hp hr hs'
    refine Oper.wpIn_mono (fun a' w' hf=>?_) (hs _ e h hv' hnd' r' c w a Q hh hp hr hs')
    refine Fin.mono ?_ hf
    rintro t' h' ⟨d,rfl,hk⟩
    exact hrest _ _ hk
  ·cases hop
theorem HK {fz:Bool}{ops:Array Oper}:∀(l:List AOper) (i:Nat),(ops.toList.drop i).mapM (oZ P fz nt)=some l->∀{KN KP:LEnv->Heap->Prop}{e:LEnv}{h:Heap},vcOpsX P l KN KP e h ->
  yG P nt ops (List.range' i (ops.size-i)) (up KN) (up KP) e.get h:=by
 intro l
 induction l with
 | nil =>
  intro i hm KN KP e h hv
  have h0:ops.toList.drop i=[]:=by
   cases hd:ops.toList.drop i with
   | nil=>rfl
   | cons x r =>
    rw[hd,List.mapM_cons]at hm
    cases h1:oZ P fz nt x with
    | none=>simp[h1]at hm
    | some y=>cases h2:r.mapM (oZ P fz nt)<;>simp[h1,h2]at hm
  have:ops.size-i=0:=by simpa using congrArg List.length h0
  rw[this]
  exact LI ⟨e,rfl,hv⟩
 | cons ao l ih =>
  intro i hm KN KP e h hv
  cases hd:ops.toList.drop i with
  | nil=>rw[hd]at hm;simp at hm
  | cons x r =>
   rw[hd,List.mapM_cons]at hm
   cases h1:oZ P fz nt x with
   | none=>simp[h1]at hm
   | some y =>
    cases h2:r.mapM (oZ P fz nt) with
    | none=>simp[h1,h2]at hm
    | some s =>
     simp[h1,h2]at hm
     obtain⟨rfl,rfl⟩:=hm
     have hlt:i<ops.size:=by
      rcases Nat.lt_or_ge i ops.size with h|h
      ·exact h
      ·rw[List.drop_eq_nil_of_le (by simpa using h)]at hd;cases hd
     have hcons:ops.toList.drop i=ops[i]::ops.toList.drop (i+1):=by
      rw[List.drop_eq_getElem_cons (by simpa using hlt)];simp
     rw[hcons]at hd
     simp at hd
     obtain⟨rfl,rfl⟩:=hd
     have hr:List.range' i (ops.size-i)=i::List.range' (i+1) (ops.size-(i+1)):=by
      rw[show ops.size-i=(ops.size-(i+1))+1 by omega,List.range'_succ]
     rw[hr]
     exact Gk (by simp[hlt]) h1 (fun e' h' hk=>ih (i+1) h2 hk) hv
theorem Oc {id:Nat}{ops:Array Oper}(hc:isPanR P nt ops=true){Q:Post}{t:Env}{h:Heap}(hk:Q .pan (LEnv.get []) h):o9 P nt (.region id ops false) Q t h:=by
 unfold isPanR at hc
 split at hc<;>try (cases hc;done)
 rename_i o1 o2 o3 hl
 split at hc<;>try (cases hc;done)
 rename_i t0 ps t' a' b' a b h1 h2 h3 d1 d2
 simp only[Bool.and_eq_true,decide_eq_true_eq]at hc
 obtain⟨⟨⟨⟨⟨⟨⟨⟨⟨⟨⟨rfl,hps⟩,rfl⟩,rfl⟩,ha⟩,hb⟩,g1⟩,g2⟩,g3⟩,hu⟩,hz⟩,hpv⟩:=hc
 have ops3:ops = #[o1,o2,o3]:=by apply Array.ext';simpa using hl
 subst ops3
 have hps':ps = #[]:=by simpa using hps
 subst hps'
 split at hu<;>try (cases hu;done)
 rename_i fs hfs
 have hfs':fs = #[]:=by simpa using hu
 subst hfs'
 split at hz<;>try (cases hz;done)
 rename_i cs hzz
 have hcs':cs = #[]:=by simpa using hz
 subst hcs'
 split at hpv<;>try (cases hpv;done)
 rename_i t1 cs1 hpan
 simp only[Bool.and_eq_true,decide_eq_true_eq]at hpv
 obtain⟨rfl,hcs1⟩:=hpv
 have hcs1':cs1 = #[]:=by simpa using hcs1
 subst hcs1'
 intro r c w ac hh hp hr hs _
 refine wpIn_region ?_
 have g1':o1.guard=none:=by simpa using g1
 have g2':o2.guard=none:=by simpa using g2
 have g3':o3.guard=none:=by simpa using g3
 have e1:∀w,(execOp ac.eval o1).run P w=.ok (.value (.agg #[])) w:=by
  intro w
  simp[execOp,h1,Instr.build,bG hzz,Value.cells,run_underlying hfs,Instr.fill,Result.andThen]
 have sz:ac.tmps.size=nt:=hs.size
 have e2:∀w,(execOp (ac.put (some a') (.agg #[])).eval o2).run P w=.ok (.value (.iface t1 (.agg #[]))) w:=by
  intro w
  have:(ac.put (some a') (.agg #[])).eval (.tmp a')=.agg #[]:=by simp[Act.eval,Act.put,sz,ha]
  simp[execOp,h2,this,Instr.makeInterface,run_underlying hfs,Result.andThen]
 have e3:∀w,(execOp ((ac.put (some a') (.agg #[])).put (some b') (.iface t1 (.agg #[]))).eval o3).run P w=.halt (.panic (.iface t1 (.agg #[]))) w:=by
  intro w
  have:((ac.put (some a') (.agg #[])).put (some b') (.iface t1 (.agg #[]))).eval (.tmp b')=.iface t1 (.agg #[]):=by simp[Act.eval,Act.put,sz,hb]
  simp[execOp,h3,this,Instr.panic,goPanic]
 have rg:List.range (#[o1,o2,o3]:Array Oper).size=[0,1,2]:=rfl
 rw[rg]
 have i0:(#[o1,o2,o3]:Array Oper)[0]?=some o1:=rfl
 have i1:(#[o1,o2,o3]:Array Oper)[1]?=some o2:=rfl
 have i2:(#[o1,o2,o3]:Array Oper)[2]?=some o3:=rfl
 simp only[wpOpsIn,i0,i1,i2]
 rw[if_pos (by simp[Region.wanted,g1'])]
 refine iC (fun c hc=>by rw[h1]at hc;cases hc) (e1 w) ?_
 rw[Oper.uponIn_value,d1,if_pos (by simp[Region.wanted,g2'])]
 refine iC (fun c hc=>by rw[h2]at hc;cases hc) (e2 w) ?_
 rw[Oper.uponIn_value,d2,if_pos (by simp[Region.wanted,g3'])]
 refine iC (fun c hc=>by rw[h3]at hc;cases hc) (e3 w) ?_
 rw[Oper.uponIn_panic]
 exact⟨by rw[hpan],Fin.here (t:=LEnv.get []) hh hp hr ⟨hs.glob,hs.lo,hs.defers,by simp[Act.put,sz],fun i=>.undef _⟩ hk⟩
end Go.Am
namespace Go.Am
open Go
variable [bW]
variable {P:Program}{nt:Nat}
def cOper (P:Program) (fz:Bool) (nt:Nat) (ops:Array Oper) (o:Oper):Option AOper :=
 if o.dst.all (· < nt) then
  match cOp P fz o with
  | some op=>match o.guard with
   | none=>some ⟨o.dst,op,none⟩
   | some (j,want)=>match (ops[j]?).bind (·.dst) with
    | some s=>some ⟨o.dst,op,some (s,want)⟩
    | none=>none
  | none=>none
 else none
theorem gu {o:Oper}{K K':Env->Heap->Prop}(hk:∀t h,K t h->K' t h){t:Env}{h:Heap}(hx:Ft P nt o K t h):Ft P nt o K' t h :=
 fun hnd r c w a Q hh hp hr hs=>Oper.wpIn_mono (fun _ _ hf=>Fin.mono hk hf) (hx hnd r c w a Q hh hp hr hs)
theorem nY {fz:Bool}{o:Oper}{op:AOp}(h:cOp P fz o=some op):∀c,o.op≠.defer c:=by
 unfold cOp at h
 split at h
 ·rename_i op' h0
  intro c hc
  simp[cOp0,hc]at h0
 ·split at h
  ·rename_i op' h0
   cases h
   exact Gl h0
  ·exact(A6 h).2
theorem HL {fz:Bool}{ops:Array Oper}{i:Nat}{rest:List Nat}{o:Oper}{ao:AOper}(ho:ops[i]?=some o) (hc:cOper P fz nt ops o=some ao){K:LEnv->Heap->Prop}{K2:LEnv->Heap->Prop}{e:LEnv}{h:Heap}
  (hrest:∀e' h',K e' h'->pG P nt ops rest (up K2) e'.get h') (hv:sD P ao K e h):pG P nt ops (i::rest) (up K2) e.get h:=by
 unfold cOper at hc
 split at hc
 case isFalse=>cases hc
 rename_i hdst
 have hd:∀j,o.dst=some j->j<nt:=by
  intro j hj
  rw[hj]at hdst
  simpa using hdst
 cases hop:cOp P fz o with
 | none=>simp[hop]at hc
 | some op =>
  have hs:=pE (nt:=nt) hop hd
  have main:vcOp P op (fun d h'=>K (e.put o.dst d) h') e h->Ft P nt o (pG P nt ops rest (up K2)) e.get h:=by
   intro hvc
   refine gu ?_ (hs _ e h hvc)
   rintro t' h' ⟨d,rfl,hk⟩
   exact hrest _ _ hk
  simp only[hop]at hc
  cases hg:o.guard with
  | none =>
   simp[hg]at hc
   subst hc
   refine gH ho (nY hop) none (by simp[hg]) (fun _=>rfl) hd ?_
   exact main (by simpa only[fW] using hv)
  | some p =>
   obtain⟨j,want⟩:=p
   simp only[hg]at hc
   cases hj:(ops[j]?).bind (·.dst) with
   | none=>simp[hj]at hc
   | some s =>
    simp[hj]at hc
    subst hc
    refine gH ho (nY hop) (some (s,want)) (by
     intro j' want' hgg
     rw[hg]at hgg
     cases hgg
     exact⟨s,hj,rfl⟩) (by simp[hg]) hd ?_
    simp only[fW,vguard]at hv
    cases hb:gv (e.get s)<;>simp only[hb]at hv<;>try exact hv.elim
    rename_i b
    refine⟨b,hb,fun hbw=>main (hv.1 hbw),fun hbw=>?_⟩
    have:=hrest _ _ (hv.2 hbw)
    rw[LEnv.bf]at this
    exact this
theorem Je {fz:Bool}{ops:Array Oper}:∀(l:List AOper) (i:Nat),(ops.toList.drop i).mapM (cOper P fz nt ops)=some l->∀{K:LEnv->Heap->Prop}{e:LEnv}{h:Heap},ve P l K e h ->
  pG P nt ops (List.range' i (ops.size-i)) (up K) e.get h:=by
 intro l
 induction l with
 | nil =>
  intro i hm K e h hv
  have h0:ops.toList.drop i=[]:=by
   cases hd:ops.toList.drop i with
   | nil=>rfl
   | cons x r =>
    rw[hd,List.mapM_cons]at hm
    cases h1:cOper P fz nt ops x with
    | none=>simp[h1]at hm
    | some y=>cases h2:r.mapM (cOper P fz nt ops)<;>simp[h1,h2]at hm
  have:ops.size-i=0:=by simpa using congrArg List.length h0
  rw[this]
  exact fu ⟨e,rfl,hv⟩
 | cons ao l ih =>
  intro i hm K e h hv
  cases hd:ops.toList.drop i with
  | nil=>rw[hd]at hm;simp at hm
  | cons x r =>
   rw[hd,List.mapM_cons]at hm
   cases h1:cOper P fz nt ops x with
   | none=>simp[h1]at hm
   | some y =>
    cases h2:r.mapM (cOper P fz nt ops) with
    | none=>simp[h1,h2]at hm
    | some s =>
     simp[h1,h2]at hm
     obtain⟨rfl,rfl⟩:=hm
     have hlt:i<ops.size:=by
      rcases Nat.lt_or_ge i ops.size with h|h
      ·exact h
      ·rw[List.drop_eq_nil_of_le (by simpa using h)]at hd;cases hd
     have hcons:ops.toList.drop i=ops[i]::ops.toList.drop (i+1):=by
      rw[List.drop_eq_getElem_cons (by simpa using hlt)];simp
     rw[hcons]at hd
     simp at hd
     obtain⟨rfl,rfl⟩:=hd
     have hr:List.range' i (ops.size-i)=i::List.range' (i+1) (ops.size-(i+1)):=by
      rw[show ops.size-i=(ops.size-(i+1))+1 by omega,List.range'_succ]
     rw[hr]
     refine HL (by simp[hlt]) h1 (K:=ve P s K) (fun e' h' hk=>ih (i+1) h2 hk) hv
def cCode (P:Program) (fz:Bool) (nt:Nat) (loops:TLq) (dr:Nat->Array Oper->Option ACode):Code->Option ACode
 | .skip=>some .skip
 | .seq a b=>match cCode P fz nt loops dr a,cCode P fz nt loops dr b with
  | some a',some b'=>match loops (1000001+firstReg b) with
   | some (keep,vars)=>some (.seqj keep vars a' b')
   | none=>some (.seq a' b')
  | _,_=>none
 | .cond c a b=>match cArg c,cCode P fz nt loops dr a,cCode P fz nt loops dr b with
  | some c,some a,some b=>some (.cond c a b)
  | _,_,_=>none
 | .block id a=>(cCode P fz nt loops dr a).map (.block id)
 | .loop a=>match cCode P fz nt loops dr a,loops (firstReg a) with
  | some a,some (keep,vars)=>some (.loop keep vars a)
  | _,_=>none
 | .exit id=>some (.exit id)
 | .ret=>some .ret
 | .label l=>some (.label l)
 | .goto l=>some (.goto l)
 | .scope a=>match cCode P fz nt loops dr a,loops (9000001+firstReg a) with
  | some a',some (keep,vars)=>match a'.label1 with
   | some l=>(a'.after l).map fun b'=>.scope l keep vars a' b'
   | none=>none
  | _,_=>none
 | .region id ops false=>match loops (8000000+id) with
  | none=>(ops.toList.mapM (cOper P fz nt ops)).map .reg
  | some ([],_)=>if isPanR P nt ops then some .panr else none
  | some (_::_,_)=>(ops.toList.mapM (oZ P fz nt)).map .regx
 | .region id ops true=>match dr id ops with
  | some p=>if p.label1.isNone then(match loops (6000001+id) with
   | some _=>some (.frz p)
   | none=>some p) else none
  | none=>none
 | .rangeFunc g ps assign body=>match cArg g,cCode P fz nt loops dr assign,cCode P fz nt loops dr body with
  | some g',some a',some b'=>match loops (4000001+firstReg body) with
   | some (keep,exs)=>if ps.toList.Nodup/\(ps.toList.all fun p=>decide (p<nt))=true then some (.range g' ps.toList keep exs a' b') else none
   | none=>none
  | _,_,_=>none
 | _=>none
where firstReg:Code->Nat
 | .region id _ _=>id
 | .seq a b=>if firstReg a=1000000 then firstReg b else firstReg a
 | .cond _ a b=>if firstReg a=1000000 then firstReg b else firstReg a
 | .block _ a=>firstReg a
 | .scope a=>firstReg a
 | .loop a=>firstReg a
 | _=>1000000
def Eo (P:Program) (nt:Nat) (dr:Nat->Array Oper->Option ACode):Prop :=
 ∀id ops ac,dr id ops=some ac->∀(Q:LPost) (e:LEnv) (h:Heap),vcC P ac Q e h->o9 P nt (.region id ops true) (fun x=>up (Q x)) e.get h
theorem Jo {l:Nat}:∀(p:ACode),p.label1.isNone=true->p.after l=none:=by
 intro p
 induction p with
 | seq a b iha ihb|seqj _ _ a b iha ihb =>
  intro h
  simp only[ACode.label1]at h
  cases ha:a.label1 with
  | some x=>rw[ha]at h;simp at h
  | none =>
   rw[ha]at h
   have h1:=iha (by rw[ha];rfl)
   have h2:=ihb (by simpa using h)
   simp only[ACode.after,h1,h2]
 | label x=>intro h;simp[ACode.label1]at h
 | _=>intro _;rfl
theorem FC {K:LEnv->Heap->Prop}{Q:LPost}{K':Env->Heap->Prop}(hk:∀e h,K e h->K' e.get h):∀x t h,up (LPost.then K Q x) t h->Post.then K' (fun x=>up (Q x)) x t h:=by
 rintro x t h ⟨e,rfl,hx⟩
 cases x with
 | normal=>exact hk e h hx
 | exit id=>exact⟨e,rfl,hx⟩
 | ret=>exact⟨e,rfl,hx⟩
 | pan=>exact⟨e,rfl,hx⟩
 | jump l=>exact⟨e,rfl,hx⟩
theorem qK {x:Code}{Q:Post}{t t':Env}{h:Heap}(ht:∀i,t' i=.undef\/t' i=t i) (hx:o9 P nt x Q t' h):o9 P nt x Q t h:=by
 intro r c w a hh hp hr hs ho
 refine hx r c w a hh hp hr ⟨hs.glob,hs.lo,hs.defers,hs.size,fun i=>?_⟩ ho
 rcases ht i with h|h
 ·rw[h];exact .undef _
 ·rw[h];exact hs.rel i
theorem jz (vars:List Nat) (f:Nat->D) (e:LEnv) (i:Nat) (he:e.get i=.undef\/e.get i=f i):LEnv.get (vars.map (fun v=>(v,f v))++e) i=.undef\/LEnv.get (vars.map (fun v=>(v,f v))++e) i=f i:=by
 induction vars with
 | nil=>exact he
 | cons k r ih =>
  simp only[List.map_cons,List.cons_append,LEnv.get]
  split
  ·rename_i h;subst h;exact Or.inr rfl
  ·exact ih
theorem JY {keep:List Nat}{e e':LEnv}(hkeep:keep.map (LEnv.get e')=keep.map e.get):(keep.map fun k=>(k,e.get k))=keep.map fun k=>(k,e'.get k):=by
 have hk:∀k∈keep,e'.get k=e.get k:=by
  intro k hk
  obtain⟨j,hj⟩:=aO hk
  have:=congrArg (fun l=>l[j]?) hkeep
  simpa[hj] using this
 apply List.map_congr_left
 intro k hk'
 rw[hk k hk']
theorem P8 {x:Code}{Q:Post}{t:Env}{h:Heap}(ns:List Nat) (hx:o9 P nt x Q t (h.freezeAll ns)):o9 P nt x Q t h:=by
 intro r c w a hh hp hr hs ho
 subst hh
 obtain⟨hle,hr'⟩:=fq hr ns
 refine wpIn_mono (hx r ⟨c.ρ,c.X,c.h.freezeAll ns,c.hp⟩ w a rfl hp hr' (hs.mono hle) (ho.mono hle)) fun x a' w' hf=>?_
 exact FinX.from hle (WS.refl w) _ _ _ hf
def CS (P:Program) (nt:Nat) (code:Code) (ac:ACode):Prop:=∀(Q:LPost) (e:LEnv) (h:Heap),vcC P ac Q e h->o9 P nt code (fun x=>up (Q x)) e.get h
def CL (P:Program) (nt:Nat) (code:Code) (ac:ACode):Prop:=∀l,(findLabel code l=none/\ac.after l=none)\/∃rest ac',findLabel code l=some rest/\ac.after l=some ac'/\CS P nt rest ac'
theorem kQ {fz:Bool}{loops:TLq}{dr:Nat->Array Oper->Option ACode}{code:Code}{ac:ACode}(h1:∀a b,code≠.seq a b) (h2:∀l,code≠.label l) (hc:cCode P fz nt loops dr code=some ac):CL P nt code ac:=by
 intro l
 left
 cases code with
 | seq a b=>exact absurd rfl (h1 a b)
 | label l=>exact absurd rfl (h2 l)
 | region id ops draw =>
  refine⟨rfl,?_⟩
  cases draw with
  | false =>
   simp only[cCode]at hc
   split at hc
   ·simp only[Option.map_eq_some_iff]at hc;obtain⟨_,_,rfl⟩:=hc;rfl
   ·split at hc
    ·cases hc;rfl
    ·cases hc
   ·simp only[Option.map_eq_some_iff]at hc;obtain⟨_,_,rfl⟩:=hc;rfl
  | true =>
   simp only[cCode]at hc
   split at hc
   ·split at hc
    ·rename_i hn
     split at hc
     ·cases hc;rfl
     ·cases hc;exact Jo _ hn
    ·cases hc
   ·cases hc
 | skip=>simp only[cCode,Option.some.injEq]at hc;subst hc;exact⟨rfl,rfl⟩
 | exit id=>simp only[cCode,Option.some.injEq]at hc;subst hc;exact⟨rfl,rfl⟩
 | goto id=>simp only[cCode,Option.some.injEq]at hc;subst hc;exact⟨rfl,rfl⟩
 | ret=>simp only[cCode,Option.some.injEq]at hc;subst hc;exact⟨rfl,rfl⟩
 | refuse w=>simp[cCode]at hc
 | cond c a b =>
  simp only[cCode]at hc
  split at hc
  ·simp only[Option.some.injEq]at hc;subst hc;exact⟨rfl,rfl⟩
  ·cases hc
 | block id a=>simp only[cCode,Option.map_eq_some_iff]at hc;obtain⟨_,_,rfl⟩:=hc;exact⟨rfl,rfl⟩
 | loop a =>
  simp only[cCode]at hc
  split at hc
  ·simp only[Option.some.injEq]at hc;subst hc;exact⟨rfl,rfl⟩
  ·cases hc
 | scope a =>
  simp only[cCode]at hc
  split at hc
  ·split at hc
   ·simp only[Option.map_eq_some_iff]at hc;obtain⟨_,_,rfl⟩:=hc;exact⟨rfl,rfl⟩
   ·cases hc
  ·cases hc
 | rangeFunc g ps a b =>
  simp only[cCode]at hc
  split at hc
  ·split at hc
   ·split at hc
    ·simp only[Option.some.injEq]at hc;subst hc;exact⟨rfl,rfl⟩
    ·cases hc
   ·cases hc
  ·cases hc
theorem C3 {a b:Code}{a' b':ACode}{keep vars:List Nat}(ha:CS P nt a a') (hb:CS P nt b b'):CS P nt (.seq a b) (.seqj keep vars a' b'):=by
 intro Q e h hv
 obtain⟨J,h1,h2⟩:=hv
 refine Kl (pF ?_ (ha _ e h h2))
 refine FC ?_
 rintro e' h' ⟨hkeep,hJ⟩
 have hk:(keep.map fun k=>(k,e.get k))=keep.map fun k=>(k,e'.get k):=JY hkeep
 refine qK (fun i=>jz vars e'.get _ i ?_) (hb Q _ h' (h1 e'.get h' hJ))
 rw[hk]
 exact get_map keep e'.get i
theorem EU {a b:Code}{a' b':ACode}(ha:CS P nt a a') (hb:CS P nt b b'):CS P nt (.seq a b) (.seq a' b'):=by
 intro Q e h hv
 refine Kl (pF ?_ (ha _ e h hv))
 exact FC (fun e h hx=>hb Q e h hx)
theorem Gm {fz:Bool}{loops:TLq}{dr:Nat->Array Oper->Option ACode}(hdr:Eo P nt dr):∀(code:Code) (ac:ACode),cCode P fz nt loops dr code=some ac ->
  CS P nt code ac/\CL P nt code ac:=by
 intro code
 induction code with
 | skip=>intro ac hc;refine⟨?_,kQ (by simp) (by simp) hc⟩;intro Q e h hv;simp[cCode]at hc;subst hc;exact HV ⟨e,rfl,hv⟩
 | exit id=>intro ac hc;refine⟨?_,kQ (by simp) (by simp) hc⟩;intro Q e h hv;simp[cCode]at hc;subst hc;exact Of ⟨e,rfl,hv⟩
 | ret=>intro ac hc;refine⟨?_,kQ (by simp) (by simp) hc⟩;intro Q e h hv;simp[cCode]at hc;subst hc;exact P7 ⟨e,rfl,hv⟩
 | seq a b iha ihb =>
  intro ac hc
  simp only[cCode]at hc
  split at hc
  ·rename_i a' b' ha hb
   obtain⟨a1,a2⟩:=iha a' ha
   obtain⟨b1,b2⟩:=ihb b' hb
   split at hc
   ·rename_i keep vars _
    simp at hc;subst hc
    refine⟨C3 a1 b1,fun l=>?_⟩
    rcases a2 l with⟨p,q⟩|⟨rest,ac',p,q,r⟩
    ·rcases b2 l with⟨p',q'⟩|⟨rest,ac',p',q',r'⟩
     ·exact Or.inl ⟨by simp only[findLabel,p];exact p',by simp only[ACode.after,q];exact q'⟩
     ·exact Or.inr ⟨rest,ac',by simp only[findLabel,p];exact p',by simp only[ACode.after,q];exact q',r'⟩
    ·exact Or.inr ⟨_,.seqj keep vars ac' b',by simp only[findLabel,p],by simp only[ACode.after,q],C3 r b1⟩
   ·simp at hc;subst hc
    refine⟨EU a1 b1,fun l=>?_⟩
    rcases a2 l with⟨p,q⟩|⟨rest,ac',p,q,r⟩
    ·rcases b2 l with⟨p',q'⟩|⟨rest,ac',p',q',r'⟩
     ·exact Or.inl ⟨by simp only[findLabel,p];exact p',by simp only[ACode.after,q];exact q'⟩
     ·exact Or.inr ⟨rest,ac',by simp only[findLabel,p];exact p',by simp only[ACode.after,q];exact q',r'⟩
    ·exact Or.inr ⟨_,.seq ac' b',by simp only[findLabel,p],by simp only[ACode.after,q],EU r b1⟩
  ·cases hc
 | label l =>
  intro ac hc;simp[cCode]at hc;subst hc
  refine⟨fun Q e h hv=>LF ⟨e,rfl,hv⟩,fun l'=>?_⟩
  by_cases hl:(l == l')=true
  ·exact Or.inr ⟨.skip,.skip,by simp only[findLabel,hl,if_true],by simp only[ACode.after,hl,if_true],fun Q e h hv=>HV ⟨e,rfl,hv⟩⟩
  ·exact Or.inl ⟨by simp only[findLabel,hl,if_false,aE],by simp only[ACode.after,hl,if_false,aE]⟩
 | goto l=>intro ac hc;refine⟨?_,kQ (by simp) (by simp) hc⟩;intro Q e h hv;simp[cCode]at hc;subst hc;exact Oe ⟨e,rfl,hv⟩
 | scope a iha =>
  intro ac hc;refine⟨?_,kQ (by simp) (by simp) hc⟩;intro Q e h hv
  simp only[cCode]at hc
  split at hc
  ·rename_i a' keep vars ha _
   split at hc
   ·rename_i l _
    simp only[Option.map_eq_some_iff]at hc
    obtain⟨b',hb',rfl⟩:=hc
    obtain⟨a1,a2⟩:=iha a' ha
    rcases a2 l with⟨_,q⟩|⟨rest,ac',p,q,r⟩
    ·rw[q]at hb';cases hb'
    rw[hb']at q;cases q
    obtain⟨I,hfirst,hround⟩:=hv
    let E:(Nat->D)->LEnv:=fun f=>vars.map (fun v=>(v,f v))++keep.map (fun k=>(k,e.get k))
    have back:∀(e':LEnv),keep.map (LEnv.get e')=keep.map e.get->∀i,(E e'.get).get i=.undef\/(E e'.get).get i=e'.get i:=by
     intro e' hkeep i
     refine jz vars e'.get _ i ?_
     rw[JY hkeep]
     exact get_map keep e'.get i
    refine LC p (fun n t h=>∃f:Nat->D,I n (vars.map f) h/\∀i,(E f).get i=.undef\/(E f).get i=t i) ?_ ?_
    ·refine pF ?_ (a1 _ e h hfirst)
     rintro x t h' ⟨e',rfl,hx⟩
     cases x with
     | jump l' =>
      obtain⟨rfl,hkeep,m,hI⟩:=hx
      exact⟨rfl,m,e'.get,hI,back e' hkeep⟩
     | normal=>exact⟨e',rfl,hx⟩
     | ret=>exact⟨e',rfl,hx⟩
     | pan=>exact⟨e',rfl,hx⟩
     | exit id=>exact⟨e',rfl,hx⟩
    ·rintro n t h' ⟨f,hI,hE⟩
     refine qK hE (pF ?_ (r _ (E f) h' (hround n f h' hI)))
     rintro x t h' ⟨e',rfl,hx⟩
     cases x with
     | jump l' =>
      obtain⟨rfl,hkeep,m,hm,hI⟩:=hx
      exact⟨rfl,m,hm,e'.get,hI,back e' hkeep⟩
     | normal=>exact⟨e',rfl,hx⟩
     | ret=>exact⟨e',rfl,hx⟩
     | pan=>exact⟨e',rfl,hx⟩
     | exit id=>exact⟨e',rfl,hx⟩
   ·cases hc
  ·cases hc
 | cond c a b iha ihb =>
  intro ac hc;refine⟨?_,kQ (by simp) (by simp) hc⟩;intro Q e h hv
  simp only[cCode]at hc
  split at hc
  ·rename_i c' a' b' hcc ha hb
   simp at hc;subst hc
   simp only[vcC]at hv
   cases ht:c'.get e<;>simp only[ht]at hv<;>try exact hv.elim
   rename_i t
   refine Og (b:=t) (fun c a _ hs=>?_) ?_
   ·have:=aG hcc hs
    rw[ht]at this
    exact sO this
   ·cases t
    ·exact(ihb b' hb).1 Q e h (hv.2 rfl)
    ·exact(iha a' ha).1 Q e h (hv.1 rfl)
  ·cases hc
 | block id a iha =>
  intro ac hc;refine⟨?_,kQ (by simp) (by simp) hc⟩;intro Q e h hv
  simp only[cCode]at hc
  cases ha:cCode P fz nt loops dr a with
  | none=>simp[ha]at hc
  | some a' =>
   simp[ha]at hc;subst hc
   refine LG (pF ?_ ((iha a' ha).1 _ e h hv))
   rintro x t h ⟨e',rfl,hx⟩
   cases x with
   | normal=>exact⟨e',rfl,hx⟩
   | ret=>exact⟨e',rfl,hx⟩
   | pan=>exact⟨e',rfl,hx⟩
   | jump l=>exact⟨e',rfl,hx⟩
   | exit id' =>
    simp only[LPost.block]at hx
    simp only[Post.block]
    split
    ·rename_i hid;rw[if_pos hid]at hx;exact⟨e',rfl,hx⟩
    ·rename_i hid;rw[if_neg hid]at hx;exact⟨e',rfl,hx⟩
 | loop a iha =>
  intro ac hc;refine⟨?_,kQ (by simp) (by simp) hc⟩;intro Q e h hv
  simp only[cCode]at hc
  split at hc
  ·rename_i a' keep vars ha _
   simp at hc;subst hc
   obtain⟨I,n₀,h0,hround⟩:=hv
   let E:(Nat->D)->LEnv:=fun f=>vars.map (fun v=>(v,f v))++keep.map (fun k=>(k,e.get k))
   refine Od (fun n t h=>∃f:Nat->D,I n (vars.map f) h/\∀i,(E f).get i=.undef\/(E f).get i=t i) n₀ ⟨e.get,h0,fun i=>jz vars e.get _ i (get_map keep e.get i)⟩ ?_
   rintro n t h' ⟨f,hI,hE⟩
   refine qK hE (pF ?_ ((iha a' ha).1 _ (E f) h' (hround n f h' hI)))
   refine FC ?_
   rintro e' h'' ⟨hkeep,m,hm,hI'⟩
   refine⟨m,hm,e'.get,hI',fun i=>jz vars e'.get _ i ?_⟩
   have:(keep.map fun k=>(k,e.get k))=keep.map fun k=>(k,e'.get k):=by
    have hk:∀k∈keep,e'.get k=e.get k:=by
     intro k hk
     obtain⟨j,hj⟩:=aO hk
     have:=congrArg (fun l=>l[j]?) hkeep
     simpa[hj] using this
    apply List.map_congr_left
    intro k hk'
    rw[hk k hk']
   rw[this]
   exact get_map keep e'.get i
  ·cases hc
 | region id ops draw =>
  intro ac hc;refine⟨?_,kQ (by simp) (by simp) hc⟩;intro Q e h hv
  cases draw with
  | false =>
   simp only[cCode]at hc
   split at hc
   ·cases hl:ops.toList.mapM (cOper P fz nt ops) with
    | none=>simp[hl]at hc
    | some l =>
     simp[hl]at hc;subst hc
     refine Ji ?_
     have:=Je l 0 (by simpa using hl) hv
     rw[Nat.sub_zero, <- List.range_eq_range']at this
     exact this
   ·split at hc
    ·rename_i hp
     cases hc
     exact Oc hp ⟨[],rfl,hv []⟩
    ·cases hc
   ·cases hl:ops.toList.mapM (oZ P fz nt) with
    | none=>simp[hl]at hc
    | some l =>
     simp[hl]at hc;subst hc
     refine HW ?_
     have:=HK l 0 (by simpa using hl) hv
     rw[Nat.sub_zero, <- List.range_eq_range']at this
     exact this
  | true =>
   simp only[cCode]at hc
   cases hl:dr id ops with
   | none=>simp[hl]at hc
   | some p =>
    simp only[hl]at hc
    split at hc
    case isFalse=>cases hc
    cases hlo:loops (6000001+id) with
    | none =>
     rw[hlo]at hc
     simp only[Option.some.injEq]at hc
     subst hc
     exact hdr id ops p hl Q e h hv
    | some _ =>
     rw[hlo]at hc
     simp only[Option.some.injEq]at hc
     subst hc
     obtain⟨ns,hv⟩:=hv
     exact P8 ns (hdr id ops p hl Q e _ hv)
 | rangeFunc g ps assign body iha ihb =>
  intro ac hc;refine⟨?_,kQ (by simp) (by simp) hc⟩;intro Q e h hv
  simp only[cCode]at hc
  split at hc
  ·rename_i g' a' b' hg ha hb
   split at hc
   ·split at hc
    ·rename_i hps
     simp at hc;subst hc
     refine LD hg hps.1 (fun p hp=>by simpa using List.all_eq_true.1 hps.2 p hp) (iha a' ha).1 (ihb b' hb).1 hv
    ·cases hc
   ·cases hc
  ·cases hc
 | _=>intro ac hc;simp[cCode]at hc
theorem HM {fz:Bool}{loops:TLq}{dr:Nat->Array Oper->Option ACode}(hdr:Eo P nt dr) (code:Code) (ac:ACode) (hc:cCode P fz nt loops dr code=some ac) :
  ∀(Q:LPost) (e:LEnv) (h:Heap),vcC P ac Q e h->o9 P nt code (fun x=>up (Q x)) e.get h:=(Gm hdr code ac hc).1
end Go.Am
namespace Go.Am
open Go
variable [bW]
variable {P:Program}
inductive RV where
 | t (i:Nat)
 | cell (i size:Nat) (agg:Bool)
structure aQ where
 nt:Nat
 code:ACode
 res:List RV
def Mg (P:Program) (r:RV) (e:LEnv) (h:Heap) (K:D->Prop):Prop :=
 match r with
 | .t i=>K (e.get i)
 | .cell i size agg=>vcOp P (.ld (.t i) size agg) (fun d _=>K d) e h
def vcRess (P:Program):List RV->LEnv->Heap->(List D->Prop)->Prop
 | [],_,_,K=>K []
 | r::s,e,h,K=>Mg P r e h fun d=>vcRess P s e h fun ds=>K (d::ds)
def ER (P:Program) (rs:List RV) (K:HKq) (e:LEnv) (h:Heap):Prop :=
 match rs with
 | [r]=>Mg P r e h (K · h)
 | rs=>vcRess P rs e h fun ds=>K (.tup ds) h
def params:List D->Nat->LEnv
 | [],_=>[]
 | d::r,i=>(i,d)::params r (i+1)
def Q6 (P:Program) (F:aQ) (ds:List D) (K:HKq) (h:Heap):Prop :=
 ds.length<=F.nt/\vcC P F.code (fun x e h'=>match x with
  | .exit _=>False
  | .pan=>False
  | .jump _=>False
  | _=>ER P F.res K e h') (params ds 0) h
def cRes (P:Program):ResultVar->Option RV
 | .tmp i=>some (.t i)
 | .cell i t=>match cTy P t with
  | some (n,b)=>some (.cell i n b)
  | none=>none
def cFn (P:Program) (fz:Bool) (f:FuncId) (loops:TLq) (dr:Nat->Array Oper->Option ACode):Option aQ :=
 match P.funcs[f]? with
 | some fn=>match fn.body with
  | some body=>match cCode P fz fn.ntmps loops dr body,fn.results.toList.mapM (cRes P) with
   | some code,some res=>some ⟨fn.ntmps,code,res⟩
   | _,_=>none
  | none=>none
 | none=>none
theorem Db:∀(ds:List D) (k i:Nat),(params ds k).get i=if k<=i/\i<k+ds.length then ds.getD (i-k) .undef else .undef
 | [],k,i=>by simp[params,LEnv.get]
 | d::r,k,i=>by
  simp only[params,LEnv.get,Db r (k+1) i,List.length_cons]
  by_cases h:i=k
  ·subst h;simp
  ·rw[if_neg h]
   by_cases h2:k+1<=i/\i<k+1+r.length
   ·rw[if_pos h2,if_pos (by omega),show i-k=(i-(k+1))+1 by omega];simp
   ·rw[if_neg h2,if_neg (by omega)]
theorem K6 (vals:Array Value) (n i:Nat):(vals++Array.replicate n Go.undef).getD i Go.undef=vals.getD i Go.undef:=by
 by_cases h:i<vals.size
 ·exact vq _ _ _ h
 ·rw[vo _ _ _ (by omega)]
  simp[Array.getD,h]
def GW (tmps:Array Value):ResultVar->Sem Value
 | .tmp t=>pure (tmps.getD t Go.undef)
 | .cell x t=>do loadVar t (<- asAddr (tmps.getD x Go.undef))
theorem JC {c:Ctx}{w:World}{nt:Nat}{e:LEnv}{a:Act}(hp:c.hp=w.heap) (hr:av c) (hs:ot c nt e.get a){r:ResultVar}{rv:RV}(hc:cRes P r=some rv){K:D->Prop}(hv:Mg P rv e c.h K) :
  ∃v d,(GW a.tmps r).run P w=.ok v w/\aB c d v/\K d:=by
 cases r with
 | tmp i =>
  simp[cRes]at hc;subst hc
  exact⟨_,_,rfl,hs.rel i,hv⟩
 | cell i t =>
  simp only[cRes]at hc
  split at hc
  ·rename_i n b ht
   simp at hc;subst hc
   have ty:=k0 ht
   let o:Oper:=⟨none,.load t (.tmp i),0, "", #[],none⟩
   have hv':vcOp P (.ld (.t i) n b) (fun d _=>K d) e c.h:=hv
   have rx:=hs.rel i
   simp only[vcOp,Arg.get]at hv'
   have fin:∀(g o' j:Nat) (cs:List D),a.tmps.getD i Go.undef=.pointer (some ⟨g,o'+j,none⟩)->Mem c g o' cs->vpart cs j n b K ->
     ∃v d,(GW a.tmps (.cell i t)).run P w=.ok v w/\aB c d v/\K d:=by
    intro g o' j cs he hm hvp
    obtain⟨v,d,h1,h2,h3⟩:=qV (P:=P) hp hm ty hvp
    refine⟨v,d,?_,h2,h3⟩
    simp only[GW,he]
    simp[asAddr,h1]
   generalize hgx:e.get i=dx at hv' rx
   cases dx<;>try exact hv'.elim
   ·rename_i m k j
    cases hn:c.h m<;>simp only[hn]at hv'<;>try exact hv'.elim
    ·obtain⟨rfl,hv'⟩:=hv'
     obtain⟨g,he,_,_,hm⟩:=FN hr hn rx
     exact fin g 0 j _ (by rw[he];simp) hm hv'
    ·obtain⟨hi,hv'⟩:=hv'
     rename_i esz els
     have hdd:els[k]?=some els[k]:=by simp[hi]
     obtain⟨g,he,_,hm⟩:=mem_row hr (by rw[hn];rfl) hdd rx
     exact fin g _ j _ he hm (hv' _ hdd)
    ·obtain⟨hi,hv'⟩:=hv'
     rename_i esz els
     have hdd:els[k]?=some els[k]:=by simp[hi]
     obtain⟨g,he,_,hm⟩:=mem_row hr (by rw[hn];rfl) hdd rx
     exact fin g _ j _ he hm (hv' _ hdd)
   ·rename_i d j
    obtain⟨g,o',he,hm⟩:=M9 rx
    exact fin g o' j _ he hm hv'
  ·cases hc
theorem MJ {c:Ctx}{w:World}{nt:Nat}{e:LEnv}{a:Act}(hp:c.hp=w.heap) (hr:av c) (hs:ot c nt e.get a):∀(rs:List ResultVar) (rvs:List RV),rs.mapM (cRes P)=some rvs->∀{K:List D->Prop},vcRess P rvs e c.h K ->
  ∃(vs:List Value) (ds:List D),(rs.mapM (GW a.tmps)).run P w=.ok vs w/\vs.length=ds.length/\ds.length=rs.length/\(∀(i:Nat) (d:D),ds[i]?=some d->aB c d (vs.getD i Go.undef))/\K ds:=by
 intro rs
 induction rs with
 | nil =>
  intro rvs hm K hv
  simp at hm;subst hm
  exact⟨[],[],by simp,rfl,rfl,by simp,hv⟩
 | cons r s ih =>
  intro rvs hm K hv
  rw[List.mapM_cons]at hm
  cases h1:cRes P r with
  | none=>simp[h1]at hm
  | some rv =>
   cases h2:s.mapM (cRes P) with
   | none=>simp[h1,h2]at hm
   | some rvs' =>
    simp[h1,h2]at hm
    subst hm
    simp only[vcRess]at hv
    obtain⟨v,d,g1,g2,g3⟩:=JC (P:=P) hp hr hs h1 hv
    obtain⟨vs,ds,k1,k2,k5,k3,k4⟩:=ih rvs' h2 g3
    refine⟨v::vs,d::ds,?_,by simp[k2],by simp[k5],fun i x hx=>?_,k4⟩
    ·rw[List.mapM_cons]
     simp only[Sem.run_bind,g1,Result.andThen_ok,k1,Sem.run_pure]
    ·cases i with
     | zero=>simp at hx;subst hx;simpa using g2
     | succ i=>simp at hx;simpa using k3 i x hx
theorem C7 (fn:Func) (tmps:Array Value):results fn tmps=(do let vs <- fn.results.mapM (GW tmps);pure (if h:vs.size=1 then vs[0] else .tuple vs)):=by
 unfold results
 congr 1
theorem GV {c:Ctx}{w:World}{nt:Nat}{e:LEnv}{a:Act}(hp:c.hp=w.heap) (hr:av c) (hs:ot c nt e.get a){fn:Func}{rvs:List RV}(hm:fn.results.toList.mapM (cRes P)=some rvs){K:HKq}
  (hv:ER P rvs K e c.h):∃v d,(results fn a.tmps).run P w=.ok v w/\aB c d v/\K d c.h:=by
 have one:∀r rv,fn.results.toList=[r]->rvs=[rv]->∃v d,(results fn a.tmps).run P w=.ok v w/\aB c d v/\K d c.h:=by
  rintro r rv hfr rfl
  rw[hfr]at hm
  have hc:cRes P r=some rv:=by
   rw[List.mapM_cons]at hm
   cases h1:cRes P r with
   | none=>simp[h1]at hm
   | some x=>simp[h1]at hm;rw[hm]
  obtain⟨v,d,g1,g2,g3⟩:=JC (P:=P) (K:=fun d=>K d c.h) hp hr hs hc hv
  have harr:fn.results = #[r]:=by apply Array.ext';simpa using hfr
  refine⟨v,d,?_,g2,g3⟩
  rw[C7,harr]
  simp[g1]
 have many:fn.results.toList.length≠1->vcRess P rvs e c.h (fun ds=>K (.tup ds) c.h)->∃v d,(results fn a.tmps).run P w=.ok v w/\aB c d v/\K d c.h:=by
  intro hne hv'
  obtain⟨vs,ds,k1,k2,k5,k3,k4⟩:=MJ (P:=P) hp hr hs _ _ hm hv'
  refine⟨.tuple vs.toArray,.tup ds,?_,.tup _ _ (by simpa using k2) (fun i d hd=>by rw[<- aH];exact k3 i d hd),k4⟩
  rw[C7,Array.mapM_eq_mapM_toList]
  have hvs:vs.length≠1:=by rw[k2,k5];exact hne
  simp[k1,hvs]
 cases hfr:fn.results.toList with
 | nil =>
  rw[hfr]at hm;simp at hm;subst hm
  exact many (by simp[hfr]) hv
 | cons r s =>
  cases s with
  | nil =>
   have hm':=hm
   rw[hfr,List.mapM_cons]at hm'
   cases h1:cRes P r with
   | none=>simp[h1]at hm'
   | some x=>simp[h1]at hm';exact one r x hfr hm'.symm
  | cons r' s' =>
   have hm':=hm
   rw[hfr,List.mapM_cons]at hm'
   cases h1:cRes P r with
   | none=>simp[h1]at hm'
   | some x =>
    rw[List.mapM_cons]at hm'
    cases h2:cRes P r' with
    | none=>simp[h1,h2]at hm'
    | some x' =>
     cases h3:s'.mapM (cRes P) with
     | none=>simp[h1,h2,h3]at hm'
     | some x''=>simp[h1,h2,h3]at hm';subst hm';exact many (by simp[hfr]) hv
structure so (c c':Ctx):Prop where
 ρ:c'.ρ=c.ρ
 h:c'.h=c.h
 X:∀g,c'.X g↔c.X g
 size:c'.hp.size=c.hp.size
 cells:∀(g:Nat) (cur:Array Value) (ty:TypeId) (fr:Nat×Nat),c.hp[g]?=some (Obj.cells cur ty fr)->c'.hp[g]?=some (Obj.cells cur ty fr)
 loops:∀(g:Nat) (r:Loop),c.hp[g]?=some (Obj.loop r)->c'.hp[g]?=some (Obj.loop r)
 maps:∀(g:Nat) (es:Array MapEntry) (k:Nat),c.hp[g]?=some (Obj.map es k)->c'.hp[g]?=some (Obj.map es k)
theorem so.own {c c':Ctx}(s:so c c') (g:Nat):c'.own g↔c.own g:=by
 unfold Ctx.own
 rw[s.ρ,s.h,s.X g]
theorem so.cell {c c':Ctx}(s:so c c'){b o:Nat}{v:Value}(h:cellOf c.hp b o=some v):cellOf c'.hp b o=some v:=by
 unfold cellOf at h ⊢
 split at h
 ·rename_i cur ty fr hb
  rw[s.cells b cur ty fr hb]
  exact h
 ·cases h
theorem aB.cc {c c':Ctx}(s:so c c'){d:D}{v:Value}(h:aB c d v):aB c' d v:=by
 have hown:∀{g},¬c.own g->¬c'.own g:=fun hn h=>hn ((s.own _).1 h)
 induction h with
 | undef v=>exact .undef v
 | nil=>exact .nil
 | nilfn=>exact .nilfn
 | nilmap=>exact .nilmap
 | nilp=>exact .nilp
 | int k n=>exact .int k n
 | bool b=>exact .bool b
 | str s=>exact .str s
 | lD p cap hm=>exact .lD p cap hm
 | sl xs b o cap esz f hne hc hm he hlen hone hcell ho _ ih=>exact .sl xs b o cap esz f hne hc hm he hlen hone (fun i j d hd=>s.cell (hcell i j d hd)) (hown ho) ih
 | msDead n off len p l k hd=>exact .msDead n off len p l k (by rw[s.h];exact hd)
 | msNil n esz els hrow hρ=>exact .msNil n esz els (by rw[s.h];exact hrow) (by rw[s.ρ];exact hρ)
 | ms n off len g esz cap els cur ty fr hrow hρ hl hg hs hc hm=>exact .ms n off len g esz cap els cur ty fr (by rw[s.h];exact hrow) (by rw[s.ρ];exact hρ) hl (s.cells _ _ _ _ hg) hs hc hm
 | msE n off esz p els hrow=>exact .msE n off esz p els (by rw[s.h];exact hrow)
 | ptrDead n i j b o hd=>exact .ptrDead n i j b o (by rw[s.h];exact hd)
 | ptrBox n j g v hb hρ=>exact .ptrBox n j g v (by rw[s.h];exact hb) (by rw[s.ρ];exact hρ)
 | ptrRow n i j g esz els hrow hρ hi=>exact .ptrRow n i j g esz els (by rw[s.h];exact hrow) (by rw[s.ρ];exact hρ) hi
 | vp e j b o f hone hcell ho hb _ ih=>exact .vp e j b o f hone (fun k d hd=>s.cell (hcell k d hd)) (hown ho) (by rw[s.size];exact hb) ih
 | agg cs vs hsz hone _ ih=>exact .agg cs vs hsz hone ih
 | tup ds vs hsz _ ih=>exact .tup ds vs hsz ih
 | fn f a b va vb hsa hsb _ _ iha ihb=>exact .fn f a b va vb hsa hsb iha ihb
 | yld n g st B hl hρ=>exact .yld n g st B (by rw[s.h];exact hl) (by rw[s.ρ];exact hρ)
 | yldDead n g hd=>exact .yldDead n g (by rw[s.h];exact hd)
 | mp n g kt l hl hρ=>exact .mp n g kt l (by rw[s.h];exact hl) (by rw[s.ρ];exact hρ)
 | mpDead n p hd=>exact .mpDead n p (by rw[s.h];exact hd)
theorem cM.cc {c c':Ctx}(s:so c c'){n:Nat}{x:Slot}(h:cM c n x):cM c' n x:=by
 cases x with
 | free=>trivial
 | dead=>trivial
 | box v =>
  obtain⟨g,cur,ty,h1,h2,h3,h4⟩:=h
  exact⟨g,cur,ty,by rw[s.ρ];exact h1,s.cells _ _ _ _ h2,h3,fun i d hd=>⟨(h4 i d hd).1,(h4 i d hd).2.cc s⟩⟩
 | arr e l =>
  obtain⟨h1,h2,h3,h4⟩:=h
  refine⟨h1,h2,h3,?_⟩
  rcases h4 with⟨q1,q2⟩|⟨g,cur,ty,q1,q2,q3,q4⟩
  ·exact Or.inl ⟨by rw[s.ρ];exact q1,q2⟩
  ·exact Or.inr ⟨g,cur,ty,by rw[s.ρ];exact q1,s.cells _ _ _ _ q2,q3,fun i j d hd=>(q4 i j d hd).cc s⟩
 | frz e l =>
  obtain⟨h1,h2,h3,h4⟩:=h
  refine⟨h1,h2,h3,?_⟩
  rcases h4 with⟨q1,q2⟩|⟨g,cur,ty,fr,q1,q2,q3,q4,q5⟩
  ·exact Or.inl ⟨by rw[s.ρ];exact q1,q2⟩
  ·exact Or.inr ⟨g,cur,ty,fr,by rw[s.ρ];exact q1,s.cells _ _ _ _ q2,q3,fun h=>q4 ((s.own g).1 h),fun i j d hd=>(q5 i j d hd).cc s⟩
 | lp st B =>
  obtain⟨g,tmps,dfs,h1,h2,h3,h4⟩:=h
  exact⟨g,tmps,dfs,by rw[s.ρ];exact h1,s.loops _ _ h2,h3,fun i=>(h4 i).cc s⟩
 | map kt l =>
  obtain⟨g,es,clock,h1,h2,h3,hst,h4⟩:=h
  refine⟨g,es,clock,by rw[s.ρ];exact h1,s.maps _ _ _ h2,h3,hst,fun i p hp=>?_⟩
  obtain⟨q1,q2,e,q3,q4,q5⟩:=h4 i p hp
  exact⟨q1,q2,e,q3,q4.cc s,q5.cc s⟩
theorem av.cc {c c':Ctx}(s:so c c') (hr:av c) (hg:iP c') (hl:c'.X.lo<=c'.hp.size):av c':=by
 refine⟨fun n=>?_,?_,?_,fun g hX=>?_,?_,hg,hl⟩
 ·rw[s.h];exact(hr.slot n).cc s
 ·rw[s.h,s.ρ];exact hr.inj
 ·rw[s.h,s.ρ];intro n g hm hρ hX;exact hr.apart n g hm hρ ((s.X g).1 hX)
 ·rw[s.size];exact hr.xlt g ((s.X g).1 hX)
 ·rw[s.h];exact hr.fin
theorem Ctx.le.SS {c c':Ctx}(h:c.le c') (X X':XT) (hX:X'=X):(⟨c.ρ,X,c.h,c.hp⟩:Ctx).le ⟨c'.ρ,X',c'.h,c'.hp⟩ :=
 ⟨h.size,hX,h.keep,h.shape,h.loop,h.names,h.tr,h.born⟩
theorem MT {c:Ctx}{ρ:Nat->Option Nat}{h:Heap}{w:World}(hglob:iP c) (hlo:c.X.lo=c.hp.size) (hle:c.le ⟨ρ,c.X,h,w.heap⟩) (hr:av ⟨ρ,c.X,h,w.heap⟩){d:Deferred}(hm:Mark ⟨ρ,c.X,h,w.heap⟩ d) :
  ∃k w',d.target=.collected k/\(Instr.takeDeferred k).run P w=.ok [] w'/\WS w w'/\c.le ⟨ρ,c.X,h,w'.heap⟩/\av ⟨ρ,c.X,h,w'.heap⟩/\so ⟨ρ,c.X,h,w.heap⟩ ⟨ρ,c.X,h,w'.heap⟩ /\
   ∀d',d'≠d->Mark ⟨ρ,c.X,h,w.heap⟩ d'->Mark ⟨ρ,c.X,h,w'.heap⟩ d':=by
 obtain⟨k,rfl,hk1,hk2,hk3⟩:=hm
 have hlt:k<w.heap.size:=(Array.getElem?_eq_some_iff.1 hk2).1
 have hkc:c.hp.size<=k:=by
  have h1:c.X.lo<=k:=hk1
  rw[hlo]at h1;exact h1
 have other:∀g,g≠k->(w.putObj k (.deferred none)).heap[g]?=w.heap[g]?:=fun g hg=>World.putObj_heap_other hg
 have same:so ⟨ρ,c.X,h,w.heap⟩ ⟨ρ,c.X,h,(w.putObj k (.deferred none)).heap⟩:=by
  refine⟨rfl,rfl,fun _=>Iff.rfl,World.putObj_size,fun g cur ty fr hg=>?_,fun g r hg=>?_,fun g es q hg=>?_⟩
  ·rw[<- hg]
   refine other g ?_
   rintro rfl
   have:=hk2.symm.trans hg
   cases this
  ·rw[<- hg]
   refine other g ?_
   rintro rfl
   have:=hk2.symm.trans hg
   cases this
  ·rw[<- hg]
   refine other g ?_
   rintro rfl
   have:=hk2.symm.trans hg
   cases this
 have hle':c.le ⟨ρ,c.X,h,(w.putObj k (.deferred none)).heap⟩:=by
  refine⟨by rw[World.putObj_size];exact hle.size,rfl,fun g hg hn=>?_,fun g cur ty fr hg=>?_,fun g r hg=>?_,hle.names,hle.tr,hle.born⟩
  ·exact(other g (by omega)).trans (hle.keep g hg hn)
  ·obtain⟨cur',h1,h2⟩:=hle.shape g cur ty fr hg
   exact⟨cur',same.cells _ _ _ _ h1,h2⟩
  ·obtain⟨r',h1,h2⟩:=hle.loop g r hg
   exact⟨r',same.loops _ _ h1,h2⟩
 have hg':iP ⟨ρ,c.X,h,(w.putObj k (.deferred none)).heap⟩:=hglob.mono hle'
 refine⟨k,w.putObj k (.deferred none),rfl,run_takeDeferred hk2,⟨rfl,rfl,rfl⟩,hle',hr.cc same hg' (by rw[World.putObj_size];exact hr.lo),same,?_⟩
 rintro d' hne ⟨k',rfl,u1,u2,u3⟩
 have hne:k'≠k:=by
  rintro rfl
  exact hne rfl
 exact⟨k',rfl,u1,(other k' hne).trans u2,fun ho=>u3 ((same.own k').1 ho)⟩
theorem ot.pop {c:Ctx}{ρ:Nat->Option Nat}{h:Heap}{w w':World}{nt:Nat}{e:LEnv}{tmps:Array Value}{d:Deferred}{ds:List Deferred}(hs:ot ⟨ρ,c.X,h,w.heap⟩ nt e.get { tmps:=tmps,defers:=d::ds }) (hd:xf d=true) (hr:av ⟨ρ,c.X,h,w'.heap⟩)
  (same:so ⟨ρ,c.X,h,w.heap⟩ ⟨ρ,c.X,h,w'.heap⟩) (hmk:∀d',d'≠d->Mark ⟨ρ,c.X,h,w.heap⟩ d'->Mark ⟨ρ,c.X,h,w'.heap⟩ d'):ot ⟨ρ,c.X,h,w'.heap⟩ nt e.get { tmps:=tmps,defers:=ds }:=by
 obtain⟨⟨m1,m2⟩,hrest⟩:=hs.defers
 simp only at m1 m2 hrest
 rw[List.filter_cons_of_pos hd]at m1 m2
 rw[List.filter_cons_of_neg (by simp[hd])]at hrest
 rw[List.pairwise_cons]at m2
 exact⟨hr.glob,hr.lo,⟨⟨fun d' hd'=>hmk d' (fun e=>m2.1 d' hd' e.symm) (m1 d' (by simp only[List.mem_cons];exact Or.inr hd')),m2.2⟩,hrest⟩,hs.size,fun i=>(hs.rel i).cc same⟩
theorem G3 {fn:Func}{R:Ending->World->Prop}{c:Ctx}{nt:Nat}{e:LEnv}(hglob:iP c) (hdf:c.X.dfs=[]){u:FrameMode}(hu:u≠.run):∀(ds:List Deferred) (ρ:Nat->Option Nat) (h:Heap) (w:World) (tmps:Array Value),c.X.lo=c.hp.size->c.le ⟨ρ,c.X,h,w.heap⟩ ->
  av ⟨ρ,c.X,h,w.heap⟩->ot ⟨ρ,c.X,h,w.heap⟩ nt e.get { tmps:=tmps,defers:=ds } ->
  (∀w',c.le ⟨ρ,c.X,h,w'.heap⟩->av ⟨ρ,c.X,h,w'.heap⟩->WS w w'->ot ⟨ρ,c.X,h,w'.heap⟩ nt e.get { tmps:=tmps,defers:=[] }->LeavesIn Fence.wide 0 P fn tmps R [] u w') ->
  LeavesInM Fence.wide 0 P fn tmps R ds u w:=by
 intro ds
 induction ds with
 | nil =>
  intro ρ h w tmps hlo hle hr hs hk
  exact hk w hle hr (WS.refl w) hs
 | cons d ds ih =>
  intro ρ h w tmps hlo hle hr hs hk
  have hcoll:xf d=true:=by
   cases hc:xf d with
   | true=>rfl
   | false =>
    have:=hs.defers.rest
    simp only at this
    rw[List.filter_cons_of_pos (by simp[hc]),hdf]at this
    cases this
  have hm:Mark ⟨ρ,c.X,h,w.heap⟩ d:=hs.defers.marks.all d (by simp only;rw[List.filter_cons_of_pos hcoll];simp)
  obtain⟨k,w1,htar,hrun,ws1,hle',hr',same,hmk⟩:=MT (P:=P) hglob hlo hle hr hm
  refine⟨hu,Or.inl ⟨k,w1,htar,hrun,?_⟩⟩
  exact ih ρ h _ tmps hlo hle' hr' (ot.pop hs hcoll hr' same hmk) (fun w' l1 r1 ws2 s1=>hk w' l1 r1 (ws1.trans ws2) s1)
theorem H5 {fz:Bool}{f:FuncId}{loops:TLq}{dr:Nat->Array Oper->Option ACode}{F:aQ}(hc:cFn P fz f loops dr=some F) (hdr:Eo P F.nt dr)
  {ds:List D}{K:HKq}{h:Heap}(hv:Q6 P F ds K h):ai P f ds h K:=by
 unfold cFn at hc
 cases hf:P.funcs[f]? with
 | none=>simp[hf]at hc
 | some fn =>
  cases hb:fn.body with
  | none=>simp[hf,hb]at hc
  | some body =>
   simp only[hf,hb]at hc
   split at hc
   ·rename_i code res hcode hres
    simp at hc;subst hc
    obtain⟨hlen,hv⟩:=hv
    intro c0 w vals hh hp hr0 hs hrel0
    subst hh
    obtain⟨c,hcdef⟩:∃c:Ctx,c=⟨c0.ρ,⟨c0.X.p,c0.hp.size,[]⟩,c0.h,c0.hp⟩:=⟨_,rfl⟩
    have hsame:so c0 c:=by subst hcdef;exact⟨rfl,rfl,fun _=>Iff.rfl,rfl,fun _ _ _ _ h=>h,fun _ _ h=>h,fun _ _ _ h=>h⟩
    have hlo:c.X.lo=c.hp.size:=by subst hcdef;rfl
    have hg0:iP c:=fun g o hg=>⟨by subst hcdef;exact(hr0.glob g o hg).1,fun ho=>(hr0.glob g o hg).2 ((hsame.own g).1 ho),by subst hcdef;exact(hr0.glob g o hg).3⟩
    have hr:av c:=hr0.cc hsame hg0 (by rw[hlo];exact Nat.le_refl _)
    have hp':c.hp=w.heap:=by subst hcdef;exact hp
    refine(callsIn_wide (n:=0)).1 (callsIn_of_wp_marks hf hb trivial ?_)
    let a:Act:={ tmps:=vals++Array.replicate (fn.ntmps-vals.size) Go.undef,defers:=[] }
    have hsim:ot c fn.ntmps (params ds 0).get a:=by
     refine⟨hg0,hr.lo,fO.nil (by subst hcdef;rfl),by simp[a];simp only at hlen;omega,fun i=>?_⟩
     simp only[a]
     rw[K6,Db]
     split
     ·rename_i hi
      rw[Nat.sub_zero]
      have hil:i<ds.length:=by omega
      have:ds.getD i .undef=ds[i]:=by simp[List.getD,hil]
      rw[this]
      exact(hrel0 i _ (by simp[hil])).cc hsame
     ·exact .undef _
    have hch:c.h=c0.h:=by subst hcdef;rfl
    have hcX:∀g,c.X g↔c0.X g:=hsame.X
    have:=HM hdr body code hcode _ _ _ hv none c w a hch hp' hr hsim mz.none
    refine wpIn_mono (show body.wpIn Fence.wide 0 P _ a w from this) ?_
    intro e a' w' hfin
    have done:∀x,(∀id,x≠Ex.exit id)->Fin c w fn.ntmps (up (fun e h'=>ER P res K e h')) a' w'->LeavesInM Fence.wide 0 P fn a'.tmps (fun e w'=>∃(v:Value) (r:D) (ρ:Nat->Option Nat) (h':Heap),e=.returned v/\c0.le ⟨ρ,c0.X,h',w'.heap⟩ /\
      av ⟨ρ,c0.X,h',w'.heap⟩/\WS w w'/\aB ⟨ρ,c0.X,h',w'.heap⟩ r v/\K r h') a'.defers .returning w':=by
     rintro x _ ⟨ρ,t,h',r1,r2,r3,r4,e',rfl,hk⟩
     refine G3 (c:=c) hg0 (by subst hcdef;rfl) (by simp) a'.defers ρ h' w' a'.tmps hlo r1 r2 r4 (fun w2 l2 hr2 ws2 s2=>?_)
     obtain⟨v,d,g1,g2,g3⟩:=GV (P:=P) (c:=⟨ρ,c.X,h',w2.heap⟩) (a:={ tmps:=a'.tmps,defers:=[] }) rfl hr2 s2 hres hk
     have hsm:so ⟨ρ,c.X,h',w2.heap⟩ ⟨ρ,c0.X,h',w2.heap⟩:=⟨rfl,rfl,fun g=>(hcX g).symm,rfl,fun _ _ _ _ h=>h,fun _ _ h=>h,fun _ _ _ h=>h⟩
     have hle0:c0.le ⟨ρ,c0.X,h',w2.heap⟩:=by
      have:=l2.SS c0.X c0.X rfl
      subst hcdef
      exact this
     refine⟨v,g1,v,d,ρ,h',rfl,hle0,hr2.cc hsm (hr0.glob.mono hle0) (Nat.le_trans hr0.lo hle0.size),r3.trans ws2,g2.cc hsm,g3⟩
    cases e with
    | normal=>exact done .normal (by simp) hfin
    | ret=>exact done .ret (by simp) hfin
    | exit id =>
     obtain⟨ρ,t,h',r1,r2,r3,r4,e',rfl,hk⟩:=hfin
     exact hk.elim
    | goto l =>
     obtain⟨ρ,t,h',r1,r2,r3,r4,e',rfl,hk⟩:=hfin
     exact hk.elim
    | panic ch =>
     obtain⟨_,ρ,t,h',r1,r2,r3,r4,e',rfl,hk⟩:=hfin
     exact hk.elim
    | outgrown=>exact hfin.elim
   ·cases hc
end Go.Am
namespace Go.Am
open Go
variable [bW]
variable {P:Program}
structure Wa where
 nt:Nat
 pre:List ACode
 g:FuncId
 xs:List Arg
 ys:List Arg
 t:Nat
 rest:ACode
 res:List RV
def FinD (c:Ctx) (w:World) (nt:Nat) (Q:LPost) (d:FuncId×List Arg×List Arg×Nat) (Qd:List D->LPost) (x:Exit) (a':Act) (w':World):Prop :=
 (x≠.normal/\FinX c w nt (fun x=>up (Q x)) x a' w') \/
 ∃(ρ1:Nat->Option Nat) (h1:Heap) (w1:World) (ds:List D) (va vb:Array Value),c.le ⟨ρ1,c.X,h1,w1.heap⟩/\WS w w1/\(va++vb).size=ds.length /\
  (∀(i:Nat) (d:D),ds[i]?=some d->aB ⟨ρ1,c.X,h1,w1.heap⟩ d ((va++vb).getD i Go.undef))/\ds.length=(d.2.1++d.2.2.1).length /\
  FinX ⟨ρ1,⟨c.X.p,c.X.lo,{ target:=.fn (.func d.1) vb,args:=va }::c.X.dfs⟩,h1,w1.heap⟩ w1 nt (fun x=>up (Qd ds x)) x a' w'
theorem FinD.from {c c1:Ctx}{w w1:World}{nt:Nat}{Q:LPost}{d:FuncId×List Arg×List Arg×Nat}{Qd:List D->LPost}{x:Exit}{a':Act}{w':World}(hle:c.le c1) (hw:WS w w1) (h:FinD c1 w1 nt Q d Qd x a' w'):FinD c w nt Q d Qd x a' w':=by
 rcases h with⟨h0,h⟩|⟨ρ1,h1,w2,ds,va,vb,r1,r2,r4,r5,r6,r7⟩
 ·exact Or.inl ⟨h0,FinX.from hle hw _ _ _ h⟩
 ·have hX:=hle.X
  rw[hX]at r1 r5 r7
  exact Or.inr ⟨ρ1,h1,w2,ds,va,vb,hle.trans r1,hw.trans r2,r4,r5,r6,r7⟩
theorem so.trans {a b c:Ctx}(h:so a b) (k:so b c):so a c :=
 ⟨k.ρ.trans h.ρ,k.h.trans h.h,fun g=>(k.X g).trans (h.X g),k.size.trans h.size,fun g cur ty fr x=>k.cells _ _ _ _ (h.cells _ _ _ _ x),fun g r x=>k.loops _ _ (h.loops _ _ x),fun g es n x=>k.maps _ _ _ (h.maps _ _ _ x)⟩
end Go.Am
namespace Go.Am
open Go
variable [bW]
variable {P:Program}
def roundEnd (x:Ex) (n:Nat) (B:cV) (K:HKq) (h:Heap):Prop :=
 match x with
 | .normal=>K (.bool true) (aD h n (.lp .ready B))
 | .pan=>False
 | .jump _=>False
 | x=>K (.bool false) (aD h n (.lp (.done x) B))
theorem Hl {c:Ctx}:∀(ps:List Nat) (ds:List D) (vals:List Value) (tmps:Array Value) (e:LEnv),ps.Nodup->(∀p∈ps,p<tmps.size)->ds.length=ps.length->vals.length=ps.length ->
  (∀(i:Nat) (d:D),ds[i]?=some d->aB c d (vals.getD i Go.undef))->(∀i,aB c (e.get i) (tmps.getD i Go.undef)) ->
  ((ps.zip vals).foldl (fun t (p:Nat×Value)=>t.setIfInBounds p.1 p.2) tmps).size=tmps.size /\
   ∀i,aB c (LEnv.get (ps.zip ds++e) i) (((ps.zip vals).foldl (fun t (p:Nat×Value)=>t.setIfInBounds p.1 p.2) tmps).getD i Go.undef)
 | [],_,_,tmps,e,_,_,_,_,_,he=>by simpa using he
 | p::r,[],_,_,_,_,_,hd,_,_,_=>by simp at hd
 | p::r,d::ds,[],_,_,_,_,_,hv,_,_=>by simp at hv
 | p::r,d::ds,v::vals,tmps,e,hnd,hlt,hd,hv,hrel,he=>by
  rw[List.nodup_cons]at hnd
  have h1:=hrel 0 d rfl
  have hps:=hlt p (by simp)
  have hbase:∀i,aB c (LEnv.get ((p,d)::e) i) ((tmps.setIfInBounds p v).getD i Go.undef):=by
   intro i
   simp only[LEnv.get]
   by_cases hi:i=p
   ·subst hi
    rw[if_pos rfl]
    have:(tmps.setIfInBounds i v).getD i Go.undef=v:=by simp[hps]
    rw[this];simpa using h1
   ·rw[if_neg hi]
    have hip:p≠i:=fun e=>hi e.symm
    have:(tmps.setIfInBounds p v).getD i Go.undef=tmps.getD i Go.undef:=by simp[hip]
    rw[this];exact he i
  obtain⟨k1,k2⟩:=Hl r ds vals (tmps.setIfInBounds p v) ((p,d)::e) hnd.2 (fun q hq=>by rw[Array.size_setIfInBounds];exact hlt q (by simp[hq])) (by simpa using hd) (by simpa using hv)
   (fun i x hx=>by simpa using hrel (i+1) x (by simpa using hx)) hbase
  refine⟨by simp only[List.zip_cons_cons,List.foldl_cons];rw[k1];simp,fun i=>?_⟩
  simp only[List.zip_cons_cons,List.foldl_cons,List.cons_append]
  have:=k2 i
  have eq:LEnv.get (r.zip ds++(p,d)::e) i=LEnv.get ((p,d)::(r.zip ds++e)) i:=by
   have key:∀(l:List (Nat×D)),(∀q∈l,q.1≠p)->LEnv.get (l++(p,d)::e) i=LEnv.get ((p,d)::(l++e)) i:=by
    intro l
    induction l with
    | nil=>intro _;rfl
    | cons q s ih =>
     intro hq
     have ih':=ih (fun x hx=>hq x (by simp[hx]))
     simp only[List.cons_append,LEnv.get]at ih' ⊢
     by_cases h2:i=p
     ·have:i≠q.1:=fun e=>hq q (by simp) (e.symm.trans h2)
      rw[if_neg this,if_pos h2,ih',if_pos h2]
     ·rw[if_neg h2]
      rw[if_neg h2]at ih'
      rw[ih']
   refine key _ (fun q hq=>?_)
   have hm:=(List.of_mem_zip hq).1
   intro hqp
   rw[hqp]at hm
   exact hnd.1 hm
  rw[eq]at this
  exact this
theorem Lz {n:Nat}{B:cV}{ds:List D}{h:Heap}{K:HKq}{a b:ACode}(hn:h n=.lp .ready B)
  (hA:∀(Q:LPost) (e:LEnv) (h:Heap),vcC P a Q e h->o9 P B.nt B.assign (fun x=>up (Q x)) e.get h)
  (hB:∀(Q:LPost) (e:LEnv) (h:Heap),vcC P b Q e h->o9 P B.nt B.body (fun x=>up (Q x)) e.get h)
  (hnd:B.ps.Nodup) (hlt:∀p∈B.ps,p<B.nt) (hlen:ds.length=B.ps.length) {e:LEnv}(he:B.env=e.get)
  (hv:vcC P a (fun x e1 h1=>x=.normal/\h1 n=.lp .ready B/\vcC P b (fun x e2 h2=>h2 n=.lp .busy B/\roundEnd x n B K h2) e1 (aD h1 n (.lp .busy B))) (B.ps.zip ds++e) h):o7 P n ds h K:=by
 intro c0 w vals g hh hp0 hr0 hsz hrel0 hρ0
 subst hh
 obtain⟨c,hcdef⟩:∃c:Ctx,c=⟨c0.ρ,⟨c0.X.p,c0.X.lo,[]⟩,c0.h,c0.hp⟩:=⟨_,rfl⟩
 have hsame:so c0 c:=by subst hcdef;exact⟨rfl,rfl,fun _=>Iff.rfl,rfl,fun _ _ _ _ h=>h,fun _ _ h=>h,fun _ _ _ h=>h⟩
 have hdf:c.X.dfs=[]:=by subst hcdef;rfl
 have hg0:iP c:=fun g o hg=>⟨by subst hcdef;exact(hr0.glob g o hg).1,fun ho=>(hr0.glob g o hg).2 ((hsame.own g).1 ho),by subst hcdef;exact(hr0.glob g o hg).3⟩
 have hr:av c:=hr0.cc hsame hg0 (by subst hcdef;exact hr0.lo)
 have hp:c.hp=w.heap:=by subst hcdef;exact hp0
 have hρ:c.ρ n=some g:=by subst hcdef;exact hρ0
 have hrel:∀(i:Nat) (d:D),ds[i]?=some d->aB c d (vals.getD i Go.undef):=fun i d hd=>(hrel0 i d hd).cc hsame
 have hch:c.h=c0.h:=by subst hcdef;rfl
 rw[<- hch]at hn hv
 suffices H:∃(fn:FuncId) (tmps:Array Value) (assign body:Code),(Instr.yield g vals).run P w=.ok (.round g fn tmps assign body) w /\
   RoundIn Fence.wide 0 P g fn tmps assign body w fun e w'=>∃(v:Value) (r:D) (ρ:Nat->Option Nat) (h':Heap),e=.returned v/\c.le ⟨ρ,c.X,h',w'.heap⟩ /\
    av ⟨ρ,c.X,h',w'.heap⟩/\WS w w'/\aB ⟨ρ,c.X,h',w'.heap⟩ r v/\K r h' by
  obtain⟨fn,tmps,assign,body,h1,h2⟩:=H
  refine⟨fn,tmps,assign,body,h1,h2.mono ?_⟩
  rintro e w' ⟨v,r,ρ,h',r1,r2,r3,r4,r5,r6⟩
  have hsm:so ⟨ρ,c.X,h',w'.heap⟩ ⟨ρ,c0.X,h',w'.heap⟩:=⟨rfl,rfl,fun g=>(hsame.X g).symm,rfl,fun _ _ _ _ h=>h,fun _ _ h=>h,fun _ _ _ h=>h⟩
  have hle0:c0.le ⟨ρ,c0.X,h',w'.heap⟩:=by
   have:=r2.SS c0.X c0.X rfl
   subst hcdef
   exact this
  exact⟨v,r,ρ,h',r1,hle0,r3.cc hsm (hr0.glob.mono hle0) (Nat.le_trans hr0.lo hle0.size),r4,r5.cc hsm,r6⟩
 clear hrel0 hρ0 hr0 hp0
 obtain⟨tmps,dfs,q1,q2,q3⟩:=Cv hp hr hn hρ
 have hy:=run_yield (P:=P) (args:=vals) q1 (by simp[dW,hsz,hlen])
 refine⟨_,_,_,_,hy,?_⟩
 refine roundIn_of_wpIn (F:=Fence.wide) trivial ?_
 have hfold:((dW .ready B tmps dfs).params.zip vals).foldl (fun tmps (t,a)=>tmps.setIfInBounds t a) tmps=(B.ps.zip vals.toList).foldl (fun t (p:Nat×Value)=>t.setIfInBounds p.1 p.2) tmps:=by
  rw[<- Array.foldl_toList]
  simp[dW,Array.toList_zip]
 have hfr:=Hl B.ps ds vals.toList tmps e hnd (fun p hp=>by rw[q2];exact hlt p hp) hlen (by rw[Array.length_toList,hsz,hlen]) (fun i d hd=>by rw[aH];exact hrel i d hd) (fun i=>by have:=q3 i;rw[he]at this;exact this)
 have hs1:ot c B.nt (LEnv.get (B.ps.zip ds++e)) { tmps:=((dW .ready B tmps dfs).params.zip vals).foldl (fun tmps (t,a)=>tmps.setIfInBounds t a) (dW .ready B tmps dfs).tmps,defers:=[] }:=by
  refine⟨hr.glob,hr.lo,fO.nil hdf,?_,fun i=>?_⟩
  ·show(Array.foldl _ tmps _).size=_
   rw[hfold,hfr.1,q2]
  ·show aB c _ ((Array.foldl _ tmps _).getD i Go.undef)
   rw[hfold];exact hfr.2 i
 refine wpIn_mono (show B.assign.wpIn (rF (some g)) 0 P _ _ w from hA _ _ _ hv (some g) c w _ rfl hp hr hs1 (fun l hl=>by cases hl;exact⟨_,by rw[hp];exact q1⟩)) ?_
 intro x a1 w1 hf
 cases x with
 | normal =>
  obtain⟨ρ1,t1,h1,le1,hr1,ws1,sim1,e1,rfl,_,hn1,hb⟩:=hf
  obtain⟨_,hρ1⟩:=yf le1 hn hρ hn1
  obtain⟨tmps1,dfs1,p1,p2,p3⟩:=Cv (c:=⟨ρ1,c.X,h1,w1.heap⟩) (w:=w1) rfl hr1 hn1 hρ1
  refine⟨_,run_beginRound p1 rfl,?_⟩
  obtain⟨le2,hr2⟩:=Dn (c:=⟨ρ1,c.X,h1,w1.heap⟩) rfl hr1 hn1 hρ1 p1 p2 p3 .busy
  have hrec:(.loop { dW .ready B tmps1 dfs1 with state:=.busy }:Obj)=.loop (dW .busy B tmps1 dfs1):=rfl
  rw[hrec]
  refine wpIn_mono (show B.body.wpIn (rF (some g)) 0 P _ a1 _ from hB _ _ _ hb (some g) _ (w1.putObj g (.loop (dW .busy B tmps1 dfs1))) a1 rfl rfl hr2 (sim1.mono le2) (fun l hl=>by
   cases hl;exact⟨_,World.putObj_heap_same (Array.getElem?_eq_some_iff.1 p1).1⟩)) ?_
  have fin:∀(y:Ex) (jump:Option Code) (st':LSt),st'.st=(if jump.isNone then LoopState.ready else .done)->st'.pend=jump->∀(a2:Act) (w2:World),Fin ⟨ρ1,c.X,aD h1 n (.lp .busy B),(w1.putObj g (.loop (dW .busy B tmps1 dfs1))).heap⟩ (w1.putObj g (.loop (dW .busy B tmps1 dfs1))) B.nt (up fun e2 h2=>h2 n=.lp .busy B/\roundEnd y n B K h2) a2 w2 ->
    (∀h2,roundEnd y n B K h2->K (.bool jump.isNone) (aD h2 n (.lp st' B))) ->
    ∃v w',(Instr.endRound g jump).run P w2=.ok v w'/\∃(v':Value) (r:D) (ρ:Nat->Option Nat) (h':Heap),Ending.returned v=.returned v'/\c.le ⟨ρ,c.X,h',w'.heap⟩/\av ⟨ρ,c.X,h',w'.heap⟩/\WS w w'/\aB ⟨ρ,c.X,h',w'.heap⟩ r v'/\K r h':=by
   rintro y jump st' e1 e2 a2 w2 ⟨ρ2,t2,h2,le3,hr3,ws3,sim3,e2',rfl,hn3,hend⟩ hk
   have hn2:(⟨ρ1,c.X,aD h1 n (.lp .busy B),(w1.putObj g (.loop (dW .busy B tmps1 dfs1))).heap⟩:Ctx).h n=.lp .busy B:=by simp[aD]
   obtain⟨_,hρ3⟩:=yf le3 hn2 hρ1 hn3
   obtain⟨tmps3,dfs3,u1,u2,u3⟩:=Cv (c:=⟨ρ2,c.X,h2,w2.heap⟩) (w:=w2) rfl hr3 hn3 hρ3
   have hrun:=run_endRound (P:=P) jump u1
   have hrec3:(.loop { dW .busy B tmps3 dfs3 with state:=if jump.isNone then .ready else .done,pending:=jump }:Obj)=.loop (dW st' B tmps3 dfs3):=by simp[dW,e1,e2]
   rw[hrec3]at hrun
   obtain⟨le4,hr4⟩:=Dn (c:=⟨ρ2,c.X,h2,w2.heap⟩) rfl hr3 hn3 hρ3 u1 u2 u3 st'
   refine⟨_,_,hrun,_,.bool jump.isNone,ρ2,aD h2 n (.lp st' B),rfl,((le1.trans le2).trans le3).trans le4,hr4,⟨?_,?_,?_⟩,.bool _,hk h2 hend⟩
   ·exact ws3.os.trans ws1.os
   ·exact ws3.tape.trans ws1.tape
   ·exact ws3.output.trans ws1.output
  intro y a2 w2 hf2
  cases y with
  | normal=>exact fin .normal none .ready rfl rfl a2 w2 hf2 (fun h2 hk=>hk)
  | exit id=>exact fin (.exit id) (some (.exit id)) (.done (.exit id)) rfl rfl a2 w2 hf2 (fun h2 hk=>hk)
  | ret=>exact fin .ret (some .ret) (.done .ret) rfl rfl a2 w2 hf2 (fun h2 hk=>hk)
  | goto t=>obtain⟨ρ2,t2,h2,_,_,_,_,_,_,_,hend⟩:=hf2;exact hend.elim
  | panic ch=>obtain⟨_,ρ2,t2,h2,_,_,_,_,_,_,_,hend⟩:=hf2;exact hend.elim
  | outgrown=>exact hf2.elim
 | exit id=>obtain⟨ρ1,t1,h1,le1,hr1,ws1,sim1,e1,rfl,hx,_⟩:=hf;cases hx
 | ret=>obtain⟨ρ1,t1,h1,le1,hr1,ws1,sim1,e1,rfl,hx,_⟩:=hf;cases hx
 | goto t=>obtain⟨ρ1,t1,h1,le1,hr1,ws1,sim1,e1,rfl,hx,_⟩:=hf;cases hx
 | panic ch=>obtain⟨_,ρ1,t1,h1,le1,hr1,ws1,sim1,e1,rfl,hx,_⟩:=hf;cases hx
 | outgrown=>exact hf.elim
end Go.Am
namespace Go.Am
open Go
variable [bW]
variable {P:Program}
theorem CH {d:D}(h:d.vd=true):d.vone=true\/∃cs,d=.agg cs/\∀x∈cs,x.vone=true:=by
 cases d with
 | agg cs=>exact Or.inr ⟨cs,rfl,by simpa[D.vd] using h⟩
 | _=>exact Or.inl h
theorem aB.FJ {c c':Ctx}(hp:c'.hp=c.hp) (ho:∀g,¬c.own g->¬c'.own g){d:D}{v:Value}(h:aB c d v):(d.vd=true->aB c' d v):=by
 induction h with
 | undef v=>intro hv;simp[D.vd,D.vone]at hv
 | nil=>intro _;exact .nil
 | nilfn=>intro _;exact .nilfn
 | nilmap=>intro _;exact .nilmap
 | nilp=>intro _;exact .nilp
 | int k n=>intro _;exact .int k n
 | bool b=>intro _;exact .bool b
 | str s=>intro _;exact .str s
 | lD p cap hm=>intro _;exact .lD p cap hm
 | sl xs b o cap esz f hne hc hm he hlen hone hcell hown _ ih =>
  intro _
  refine .sl xs b o cap esz f hne hc hm he hlen hone (fun i j d hd=>by rw[hp];exact hcell i j d hd) (ho b hown) (fun i j d hd=>ih i j d hd ?_)
  have:=hone i j d hd
  cases d<;>simp_all [D.vd,D.vone]
 | agg cs vs hsz hone _ ih =>
  intro hv
  refine .agg cs vs hsz hone (fun i d hd=>ih i d hd ?_)
  have:d.vone=true:=by
   simp only[D.vd,List.all_eq_true]at hv
   exact hv d (ak hd)
  cases d<;>simp_all [D.vd,D.vone]
 | _=>intro hv;simp[D.vd,D.vone]at hv
theorem aB.Cs {c c':Ctx}(hp:c'.hp=c.hp) (ho:∀g,¬c.own g->¬c'.own g){d:D}{v:Value}(h:aB c d v) (hv:d.Il=true):aB c' d v:=by
 cases h with
 | tup ds vs hsz hrel =>
  refine .tup ds vs hsz (fun i d hd=>(hrel i d hd).FJ hp ho ?_)
  simp only[D.Il,List.all_eq_true]at hv
  exact hv d (ak hd)
 | agg cs vs hsz hone hrel=>exact aB.FJ hp ho (.agg cs vs hsz hone hrel) hv
 | sl xs b o cap esz f hne hc hm he hlen hone hcell hown hrel=>exact aB.FJ hp ho (.sl xs b o cap esz f hne hc hm he hlen hone hcell hown hrel) rfl
 | lD p cap hm=>exact .lD p cap hm
 | nil=>exact .nil
 | nilfn=>exact .nilfn
 | nilmap=>exact .nilmap
 | nilp=>exact .nilp
 | int k n=>exact .int k n
 | bool b=>exact .bool b
 | str s=>exact .str s
 | _=>simp[D.Il,D.vd,D.vone]at hv
theorem aB.OX {c c':Ctx}{d:D}{v:Value}(h:aB c d v) (hv:d.flat=true):aB c' d v:=by
 have cell:∀{d:D}{v:Value},aB c d v->d.flatc=true->aB c' d v:=by
  intro d v h hf
  cases h with
  | nil=>exact .nil
  | nilfn=>exact .nilfn
  | nilmap=>exact .nilmap
  | nilp=>exact .nilp
  | int k n=>exact .int k n
  | bool b=>exact .bool b
  | str s=>exact .str s
  | _=>simp[D.flatc]at hf
 have one:∀{d:D}{v:Value},aB c d v->d.E8=true->aB c' d v:=by
  intro d v h hf
  cases h with
  | agg cs vs hsz hone hrel =>
   refine .agg cs vs hsz hone (fun i d hd=>cell (hrel i d hd) ?_)
   simp only[D.E8,List.all_eq_true]at hf
   exact hf d (ak hd)
  | nil=>exact .nil
  | nilfn=>exact .nilfn
  | nilmap=>exact .nilmap
  | nilp=>exact .nilp
  | int k n=>exact .int k n
  | bool b=>exact .bool b
  | str s=>exact .str s
  | _=>simp[D.E8,D.flatc]at hf
 cases h with
 | tup ds vs hsz hrel =>
  refine .tup ds vs hsz (fun i d hd=>one (hrel i d hd) ?_)
  simp only[D.flat,List.all_eq_true]at hv
  exact hv d (ak hd)
 | agg cs vs hsz hone hrel=>exact one (.agg cs vs hsz hone hrel) hv
 | nil=>exact .nil
 | nilfn=>exact .nilfn
 | nilmap=>exact .nilmap
 | nilp=>exact .nilp
 | int k n=>exact .int k n
 | bool b=>exact .bool b
 | str s=>exact .str s
 | _=>simp[D.flat,D.E8,D.flatc]at hv
def D.nmt:D->List Nat
 | .tup ds=>ds.flatMap D.nm
 | d=>d.nm
def kS:D->Prop
 | .tup ds=>∀x∈ds,aN x
 | d=>aN d
def v8 (h:Heap):D->Prop
 | .tup ds=>∀x∈ds,mB h x
 | d=>mB h d
theorem Ka {c c':Ctx}(hle:c.le c') (hr':av c'){d:D}{v:Value}(h:aB c d v) (h1:kS d) (hok:v8 c.h d) (hfr:∀n esz els,n∈d.nmt->(c.h n).row=some (esz,els)->c'.h n=.frz esz els) :
  aB c' (d.fzt c.h) v:=by
 by_cases ht:∃ds,d=.tup ds
 ·obtain⟨ds,rfl⟩:=ht
  cases h with
  | tup _ vs hsz hrel =>
   refine .tup _ vs (by simpa using hsz) (fun i x hx=>?_)
   rw[List.getElem?_map]at hx
   cases hi:ds[i]? with
   | none=>simp[hi]at hx
   | some y =>
    simp[hi]at hx
    subst hx
    have hm:=ak hi
    exact(DA hle hr' (hrel i y hi) (h1 y hm) (hok y hm) (fun n esz els hn hrow=>hfr n esz els (by simp only[D.nmt,List.mem_flatMap];exact⟨y,hm,hn⟩) hrow)).1
 ·have e1:D.fzt c.h d=D.fz c.h d:=by cases d<;>simp_all [D.fzt]
  have e2:d.nmt=d.nm:=by cases d<;>simp_all [D.nmt]
  have e3:aN d:=by cases d<;>simp_all [kS]
  have e4:mB c.h d:=by cases d<;>simp_all [v8]
  rw[e1]
  exact(DA hle hr' h e3 e4 (by rw[<- e2];exact hfr)).1
def iG:Heap:=fun _=>.free
theorem Mf {fz:Bool}{f:FuncId}{loops:TLq}{dr:Nat->Array Oper->Option ACode}{F:aQ}(hc:cFn P fz f loops dr=some F) (hdr:Eo P F.nt dr)
  {ds:List D}{K:D->Prop}(hv:Q6 P F ds (fun r h=>kS r/\v8 h r/\(r.fzt h).Il=true/\K (r.fzt h)) iG):aY P f ds K:=by
 intro c w vals hh hp hr hs hrel
 have gM:c.h=iG:=funext hh
 have:=H5 hc hdr hv c w vals gM hp hr hs hrel
 refine this.mono ?_
 rintro e w' ⟨v,r,ρ,h',rfl,h1,h2,h3,h4,h5,h6,h7,h8⟩
 obtain⟨g1,g2⟩:=fq h2 r.nmt
 have hz:=Ka g1 g2 h4 h5 h6 (fun n esz els hn hrow=>fX _ hrow hn)
 have hown:∀g,¬(⟨ρ,c.X,h'.freezeAll r.nmt,w'.heap⟩:Ctx).own g->¬(⟨c.ρ,c.X,c.h,w'.heap⟩:Ctx).own g:=by
  rintro g hn (hX|⟨n,hm,_⟩)
  ·exact hn (Or.inl hX)
  ·simp only[hh n]at hm;cases hm
 refine⟨v,r.fzt h',rfl,?_,h3,aB.Cs (c:=⟨ρ,c.X,h'.freezeAll r.nmt,w'.heap⟩) (c':=⟨c.ρ,c.X,c.h,w'.heap⟩) rfl hown hz h7,h7,h8⟩
 refine⟨h1.size,rfl,h1.keep,h1.shape,h1.loop,fun _ _=>rfl,fun _=>Trans.refl _,fun n g hm hρ _=>⟨n,hm,hρ⟩⟩
theorem gw {f:FuncId}{ds:List D}{h:Heap}{K:D->Prop}(hv:aY P f (ds.map (D.fz h)) K) (h1:∀d∈ds,aN d/\mB h d/\(d.fz h).vd=true) :
  ai P f ds h fun r h'=>K r/\((r.flat=true\/ds.flatMap D.nm=[])->h'=h)/\(¬(r.flat=true\/ds.flatMap D.nm=[])->h'=h.freezeAll (ds.flatMap D.nm)):=by
 intro c w vals hh hp hr hs hrel
 subst hh
 let ns:=ds.flatMap D.nm
 let h1':Heap:=c.h.freezeAll ns
 let c1:Ctx:=⟨c.ρ,c.X,h1',c.hp⟩
 obtain⟨g1,g2⟩:=fq hr ns
 let c0:Ctx:=⟨fun _=>none,⟨c1.own,0,[]⟩,iG,c.hp⟩
 have hr0:av c0:=by
  refine⟨fun n=>trivial,fun n m g hm=>(by cases hm),fun n g hm=>(by cases hm),fun g hX=>?_,⟨0,fun n _=>rfl⟩,fun g o hg=>⟨(g2.glob g o hg).1,fun ho=>(g2.glob g o hg).2 ?_,(g2.glob g o hg).3⟩,Nat.zero_le _⟩
  rotate_left
  ·rcases ho with hX|⟨n,hm,_⟩
   ·exact hX
   ·cases hm
  have hX:c1.own g:=hX
  rcases hX with hX|⟨n,hm,hρ⟩
  ·exact hr.xlt g hX
  ·exact kO g2 hm hρ
 have hown:∀g,¬c1.own g->¬c0.own g:=by
  rintro g hn (hX|⟨n,hm,_⟩)
  ·exact hn hX
  ·cases hm
 have hargs:∀(i:Nat) (d:D),(ds.map (D.fz c.h))[i]?=some d->aB c0 d (vals.getD i Go.undef):=by
  intro i d hd
  rw[List.getElem?_map]at hd
  cases hi:ds[i]? with
  | none=>simp[hi]at hd
  | some x =>
   simp[hi]at hd
   subst hd
   have hm:=ak hi
   obtain⟨q1,q2,q3⟩:=h1 x hm
   have:=(DA (c':=c1) g1 g2 (hrel i x hi) q1 q2 (fun n esz els hn hrow=>fX ns hrow (by simp only[ns,List.mem_flatMap];exact⟨x,hm,hn⟩))).1
   exact aB.FJ (c:=c1) (c':=c0) rfl hown this q3
 refine(hv c0 w vals (fun _=>rfl) hp hr0 (by simpa using hs) hargs).mono ?_
 rintro e w' ⟨v,r,rfl,k1,k2,k3,hvd,k4⟩
 have hsame:∀g,g<c.hp.size->w'.heap[g]?=c.hp[g]?:=fun g hg=>k1.keep g hg (fun n hm=>by cases hm)
 have lift:∀h2:Heap,av ⟨c.ρ,c.X,h2,c.hp⟩->(⟨c.ρ,c.X,h2,c.hp⟩:Ctx).le ⟨c.ρ,c.X,h2,w'.heap⟩/\av ⟨c.ρ,c.X,h2,w'.heap⟩:=by
  intro h2 hr2
  have hle:(⟨c.ρ,c.X,h2,c.hp⟩:Ctx).le ⟨c.ρ,c.X,h2,w'.heap⟩ :=
   ⟨k1.size,rfl,fun g hg _=>hsame g hg,fun g cur ty fr hg=>⟨cur,(hsame g (Array.getElem?_eq_some_iff.1 hg).1).trans hg,rfl⟩,fun g r hg=>⟨r,(hsame g (Array.getElem?_eq_some_iff.1 hg).1).trans hg,rfl⟩,fun _ _=>rfl,fun _=>Trans.refl _,fun n g hm hρ _=>⟨n,hm,hρ⟩⟩
  refine⟨hle,fun n=>iW hle (hr2.slot n) (fun _ _=>rfl) (fun g hm hρ=>hsame g (kO hr2 hm hρ)),hr2.inj,hr2.apart,fun g hX=>Nat.lt_of_lt_of_le (hr2.xlt g hX) k1.size,hr2.fin,hr2.glob.mono hle,Nat.le_trans hr2.lo hle.size⟩
 by_cases hf:r.flat=true\/ds.flatMap D.nm=[]
 ·obtain⟨l1,l2⟩:=lift c.h hr
  have hrelr:aB ⟨c.ρ,c.X,c.h,w'.heap⟩ r v:=by
   by_cases hr1:r.flat=true
   ·exact k3.OX hr1
   ·have hns:ns=[]:=by rcases hf with h|h;exact absurd h hr1;exact h
    have hc1:c1.h=c.h:=by simp only[c1,h1',hns];rfl
    refine aB.Cs (c:=⟨c0.ρ,c0.X,c0.h,w'.heap⟩) (c':=⟨c.ρ,c.X,c.h,w'.heap⟩) rfl ?_ k3 hvd
    rintro g hn ho
    refine hn (Or.inl ?_)
    show c1.own g
    rcases ho with hX|⟨n,hm,hρ⟩
    ·exact Or.inl hX
    ·exact Or.inr ⟨n,by rw[hc1];exact hm,hρ⟩
  exact⟨v,r,c.ρ,c.h,rfl,l1,l2,k2,hrelr,k4,fun _=>rfl,fun h=>absurd hf h⟩
 ·obtain⟨l1,l2⟩:=lift h1' g2
  have hrelr:aB ⟨c.ρ,c.X,h1',w'.heap⟩ r v:=by
   refine aB.Cs (c:=⟨c0.ρ,c0.X,c0.h,w'.heap⟩) (c':=⟨c.ρ,c.X,h1',w'.heap⟩) rfl ?_ k3 hvd
   rintro g hn ho
   exact hn (Or.inl ho)
  exact⟨v,r,c.ρ,h1',rfl,g1.trans l1,l2,k2,hrelr,k4,fun h=>absurd h hf,fun _=>rfl⟩
end Go.Am
namespace Go.Am
open Go
variable [bW]
variable {P:Program}{nt:Nat}
def Arg.reads:Arg->List Nat
 | .t i=>[i]
 | .c _=>[]
def pn:Option Arg->List Nat
 | some a=>a.reads
 | none=>[]
def kA (l:List Arg):List Nat:=l.flatMap Arg.reads
def AOp.reads:AOp->List Nat
 | .mov x=>x.reads
 | .un _ x=>x.reads
 | .conv _ x=>x.reads
 | .ext x _=>x.reads
 | .fld x _ _ _=>x.reads
 | .len x=>x.reads
 | .slen x=>x.reads
 | .fadd x _=>x.reads
 | .ld x _ _=>x.reads
 | .box x=>x.reads
 | .pick a b c=>a.reads++b.reads++c.reads
 | .mn3 a b c=>a.reads++b.reads++c.reads
 | .mx3 a b c=>a.reads++b.reads++c.reads
 | .dead=>[]
 | .Ix _=>[]
 | .look _ x k _ _=>x.reads++k.reads
 | .mupd _ x k v=>x.reads++k.reads++v.reads
 | .bin _ x y=>x.reads++y.reads
 | .eqv _ _ _ x y=>x.reads++y.reads
 | .iadd x y _=>x.reads++y.reads
 | .iadda x y _ _=>x.reads++y.reads
 | .sidx x y _ _ _=>x.reads++y.reads
 | .st x y _=>x.reads++y.reads
 | .mk _ _ _ x y=>x.reads++y.reads
 | .app x y _ _ _=>x.reads++y.reads
 | .Fi x y _=>x.reads++y.reads
 | .mn x y=>x.reads++y.reads
 | .mx x y=>x.reads++y.reads
 | .bld _ ps=>ps.flatMap fun p=>p.2.2.reads
 | .bldS _ _ _ _ ps=>ps.flatMap fun p=>p.2.reads
 | .alloc _=>[]
 | .slz x _=>x.reads
 | .L0 x _=>x.reads
 | .b2s x=>x.reads
 | .mkc _ x y=>x.reads++y.reads
 | .nilq _ x=>x.reads
 | .zB x a b c _=>x.reads++pn a++pn b++pn c
 | .sslc x a b=>x.reads++pn a++pn b
 | .call _ as=>kA as
 | .callv x as=>x.reads++kA as
 | .mkf _ a b=>kA a++kA b
theorem Arg.get_congr {e e':LEnv}{x:Arg}(h:∀i∈x.reads,e.get i=e'.get i):x.get e=x.get e':=by
 cases x with
 | t i=>exact h i (by simp[Arg.reads])
 | c d=>rfl
theorem qL {e e':LEnv}{l:List Arg}(h:∀i,i∈kA l->e.get i=e'.get i):l.map (·.get e)=l.map (·.get e'):=by
 apply List.map_congr_left
 intro x hx
 exact Arg.get_congr fun i hi=>h i (by simp only[kA,List.mem_flatMap];exact⟨x,hx,hi⟩)
theorem pj {e e':LEnv}{x:Option Arg}(h:∀i,i∈pn x->e.get i=e'.get i) (d:Nat) (K:Int->Prop):vopt e x d K=vopt e' x d K:=by
 cases x with
 | none=>rfl
 | some a=>simp only[vopt];rw[Arg.get_congr h]
theorem wI {op:AOp}{e e':LEnv}(h:∀i∈op.reads,e.get i=e'.get i) (K:HKq) (hp:Heap):vcOp P op K e hp->vcOp P op K e' hp:=by
 cases op
 case bld zero ps =>
  simp only[AOp.reads,List.mem_flatMap]at h
  have hg:∀p∈ps,p.2.2.get e=p.2.2.get e':=fun p hpm=>Arg.get_congr fun i hi=>h i ⟨p,hpm,hi⟩
  simp only[vcOp,A4,IK]
  rintro⟨h1,h2⟩
  refine⟨fun p hpm=>by rw[<- hg p hpm];exact h1 p hpm,?_⟩
  have:(ps.map fun p=>(p.1,p.2.1,(p.2.2.get e').cells))=ps.map fun p=>(p.1,p.2.1,(p.2.2.get e).cells):=List.map_congr_left fun p hpm=>by rw[hg p hpm]
  rw[this];exact h2
 case bldS fz esz len zero ps =>
  simp only[AOp.reads,List.mem_flatMap]at h
  have hg:∀p∈ps,p.2.get e=p.2.get e':=fun p hpm=>Arg.get_congr fun i hi=>h i ⟨p,hpm,hi⟩
  simp only[vcOp,uz,Fo]
  rintro⟨h1,h2,h3⟩
  refine⟨fun p hpm=>by rw[<- hg p hpm];exact h1 p hpm,fun hf p hpm=>by rw[<- hg p hpm];exact h2 hf p hpm,fun n hn=>?_⟩
  have e1:(ps.map fun p=>(p.1,if fz then(p.2.get e').fz hp else p.2.get e'))=ps.map fun p=>(p.1,if fz then(p.2.get e).fz hp else p.2.get e):=List.map_congr_left fun p hpm=>by rw[hg p hpm]
  have e2:(ps.flatMap fun p=>(p.2.get e').nm)=ps.flatMap fun p=>(p.2.get e).nm:=by
   exact congrArg List.flatten (List.map_congr_left (fun p hpm=>by rw[hg p hpm]))
  rw[e1,e2];exact h3 n hn
 case zB x a b c n =>
  simp only[AOp.reads,List.mem_append]at h
  have hx:x.get e=x.get e':=Arg.get_congr fun i hi=>h i (Or.inl (Or.inl (Or.inl hi)))
  have ha:=fun d K=>pj (x:=a) (fun i hi=>h i (Or.inl (Or.inl (Or.inr hi)))) d K
  have hb:=fun d K=>pj (x:=b) (fun i hi=>h i (Or.inl (Or.inr hi))) d K
  have hc:=fun d K=>pj (x:=c) (fun i hi=>h i (Or.inr hi)) d K
  simp only[vcOp,hx,ha,hb,hc]
  exact id
 case sslc x a b =>
  simp only[AOp.reads,List.mem_append]at h
  have hx:x.get e=x.get e':=Arg.get_congr fun i hi=>h i (Or.inl (Or.inl hi))
  have ha:=fun d K=>pj (x:=a) (fun i hi=>h i (Or.inl (Or.inr hi))) d K
  have hb:=fun d K=>pj (x:=b) (fun i hi=>h i (Or.inr hi)) d K
  simp only[vcOp,hx,ha,hb]
  exact id
 case call f as =>
  simp only[AOp.reads]at h
  simp only[vcOp,qL h]
  exact id
 case callv x as =>
  simp only[AOp.reads,List.mem_append]at h
  have hx:x.get e=x.get e':=Arg.get_congr fun i hi=>h i (Or.inl hi)
  have ha:=qL (l:=as) fun i hi=>h i (Or.inr hi)
  simp only[vcOp,hx,ha]
  exact id
 case mkf f a b =>
  simp only[AOp.reads,List.mem_append]at h
  have ha:=qL (l:=a) fun i hi=>h i (Or.inl hi)
  have hb:=qL (l:=b) fun i hi=>h i (Or.inr hi)
  simp only[vcOp,ha,hb]
  exact id
 case alloc z=>exact id
 case pick x y z =>
  simp only[AOp.reads,List.mem_append]at h
  have hx:x.get e=x.get e':=Arg.get_congr fun i hi=>h i (Or.inl (Or.inl hi))
  have hy:y.get e=y.get e':=Arg.get_congr fun i hi=>h i (Or.inl (Or.inr hi))
  have hz:z.get e=z.get e':=Arg.get_congr fun i hi=>h i (Or.inr hi)
  simp only[vcOp,hx,hy,hz]
  exact id
 case mn3 x y z =>
  simp only[AOp.reads,List.mem_append]at h
  have hx:x.get e=x.get e':=Arg.get_congr fun i hi=>h i (Or.inl (Or.inl hi))
  have hy:y.get e=y.get e':=Arg.get_congr fun i hi=>h i (Or.inl (Or.inr hi))
  have hz:z.get e=z.get e':=Arg.get_congr fun i hi=>h i (Or.inr hi)
  simp only[vcOp,hx,hy,hz]
  exact id
 case mx3 x y z =>
  simp only[AOp.reads,List.mem_append]at h
  have hx:x.get e=x.get e':=Arg.get_congr fun i hi=>h i (Or.inl (Or.inl hi))
  have hy:y.get e=y.get e':=Arg.get_congr fun i hi=>h i (Or.inl (Or.inr hi))
  have hz:z.get e=z.get e':=Arg.get_congr fun i hi=>h i (Or.inr hi)
  simp only[vcOp,hx,hy,hz]
  exact id
 case dead=>exact id
 case Ix kt=>exact id
 case look kt x k z ok =>
  simp only[AOp.reads,List.mem_append]at h
  have hx:x.get e=x.get e':=Arg.get_congr fun i hi=>h i (Or.inl hi)
  have hk:k.get e=k.get e':=Arg.get_congr fun i hi=>h i (Or.inr hi)
  simp only[vcOp,hx,hk]
  exact id
 case mupd kt x k v =>
  simp only[AOp.reads,List.mem_append]at h
  have hx:x.get e=x.get e':=Arg.get_congr fun i hi=>h i (Or.inl (Or.inl hi))
  have hk:k.get e=k.get e':=Arg.get_congr fun i hi=>h i (Or.inl (Or.inr hi))
  have hv:v.get e=v.get e':=Arg.get_congr fun i hi=>h i (Or.inr hi)
  simp only[vcOp,hx,hk,hv]
  exact id
 all_goals
  simp only[AOp.reads,List.mem_append]at h
  first
   | (rename_i x y;have hx:x.get e=x.get e':=Arg.get_congr fun i hi=>h i (Or.inl hi);have hy:y.get e=y.get e':=Arg.get_congr fun i hi=>h i (Or.inr hi);simp only[vcOp,hx,hy];exact id)
   | (rename_i x y _;have hx:x.get e=x.get e':=Arg.get_congr fun i hi=>h i (Or.inl hi);have hy:y.get e=y.get e':=Arg.get_congr fun i hi=>h i (Or.inr hi);simp only[vcOp,hx,hy];exact id)
   | (rename_i x y _ _;have hx:x.get e=x.get e':=Arg.get_congr fun i hi=>h i (Or.inl hi);have hy:y.get e=y.get e':=Arg.get_congr fun i hi=>h i (Or.inr hi);simp only[vcOp,hx,hy];exact id)
   | (rename_i x y _ _ _;have hx:x.get e=x.get e':=Arg.get_congr fun i hi=>h i (Or.inl hi);have hy:y.get e=y.get e':=Arg.get_congr fun i hi=>h i (Or.inr hi);simp only[vcOp,hx,hy];exact id)
   | (rename_i x;have hx:x.get e=x.get e':=Arg.get_congr h;simp only[vcOp,hx];exact id)
   | (rename_i x _;have hx:x.get e=x.get e':=Arg.get_congr h;simp only[vcOp,hx];exact id)
   | (rename_i x _ _;have hx:x.get e=x.get e':=Arg.get_congr h;simp only[vcOp,hx];exact id)
   | (rename_i x _ _ _;have hx:x.get e=x.get e':=Arg.get_congr h;simp only[vcOp,hx];exact id)
theorem gj {op:AOp}{e e':LEnv}(h:∀i∈op.reads,e.get i=e'.get i) (K:D->Prop) (hp:Heap):vcdOp P op K e hp->vcdOp P op K e' hp:=by
 cases op
 case bldS fz esz len zero ps =>
  simp only[AOp.reads,List.mem_flatMap]at h
  have hg:∀p∈ps,p.2.get e=p.2.get e':=fun p hpm=>Arg.get_congr fun i hi=>h i ⟨p,hpm,hi⟩
  simp only[vcdOp,uz,HP]
  rintro⟨h1,h2,h3,h4⟩
  refine⟨fun p hpm=>by rw[<- hg p hpm];exact h1 p hpm,fun p hpm=>by rw[<- hg p hpm];exact h2 p hpm,h3,?_⟩
  have e1:(ps.map fun p=>(p.1,p.2.get e'))=ps.map fun p=>(p.1,p.2.get e):=List.map_congr_left fun p hpm=>by rw[hg p hpm]
  rw[e1];exact h4
 case call f as =>
  simp only[AOp.reads]at h
  have hg:∀x∈as,x.get e=x.get e':=fun x hx=>Arg.get_congr fun i hi=>h i (by simp only[kA,List.mem_flatMap];exact⟨x,hx,hi⟩)
  simp only[vcdOp,xo]
  rintro⟨r,h1,h2,h3,h4⟩
  have e1:(as.map fun x=>(x.get e').fz hp)=as.map fun x=>(x.get e).fz hp:=List.map_congr_left fun x hx=>by rw[hg x hx]
  have e2:(as.flatMap fun x=>(x.get e').nm)=as.flatMap fun x=>(x.get e).nm:=congrArg List.flatten (List.map_congr_left (fun x hx=>by rw[hg x hx]))
  refine⟨r,by rw[e1];exact h1,fun x hx=>by rw[<- hg x hx];exact h2 x hx,by rw[e2];exact h3,h4⟩
 case fadd x off =>
  have hx:x.get e=x.get e':=Arg.get_congr h
  simp only[vcdOp,hx]
  exact id
 case mk esz b z l c =>
  simp only[AOp.reads,List.mem_append]at h
  have hx:l.get e=l.get e':=Arg.get_congr fun i hi=>h i (Or.inl hi)
  have hy:c.get e=c.get e':=Arg.get_congr fun i hi=>h i (Or.inr hi)
  simp only[vcdOp,hx,hy]
  exact id
 case nilq neg x =>
  have hx:x.get e=x.get e':=Arg.get_congr h
  simp only[vcdOp,hx]
  exact id
 all_goals exact wI (P:=P) h (fun d _=>K d) hp
def AOp.isVal:AOp->Bool
 | .alloc _=>false
 | .slz _ _=>false
 | .L0 _ _=>false
 | .b2s _=>false
 | .mkc _ _ _=>false
 | .box _=>false
 | .Ix _=>false
 | .mupd _ _ _ _=>false
 | .st _ _ _=>false
 | .app _ _ _ _ _=>false
 | .Fi _ _ _=>false
 | .callv _ _=>false
 | _=>true
def AOp.stable:AOp->Bool
 | .len _=>false
 | .iadd _ _ _=>false
 | .iadda _ _ _ _=>false
 | .ld _ _ _=>false
 | .zB _ _ _ _ _=>false
 | .call _ _=>false
 | .look _ _ _ _ _=>false
 | _=>true
def Ext (h h':Heap):Prop:=∀n,h n≠.free->h' n=h n
def cD (h h':Heap):Prop:=∀n,h n≠.free->h' n≠.free
theorem Ext.box {h h':Heap}(x:Ext h h'):cD h h':=fun n hn=>by rw[x n hn];exact hn
theorem cD.zQ {h:Heap}:cD h h:=fun _ hn=>hn
theorem cD.aD {h h':Heap}(x:cD h h'){n:Nat}{s:Slot}(hs:s≠.free):cD h (Go.Am.aD h' n s):=fun k hk=>by
 by_cases e:k=n
 ·subst e;rw[ar];exact hs
 ·rw[an _ _ e];exact x k hk
theorem Ext.row {h h':Heap}(x:Ext h h'){n:Nat}{r:Nat×List D}(hr:(h n).row=some r):(h' n).row=some r:=by rw[x n (Slot.fx hr)];exact hr
theorem Ext.live {h h':Heap}(x:Ext h h'){n:Nat}(hl:(h n).live=true):(h' n).live=true:=by
 rw[x n (by intro hf;rw[hf]at hl;cases hl)];exact hl
theorem jk {x:D}{K:Int->Prop}(hv:vint x K):∃i,K i/\∀K':Int->Prop,K' i->vint x K':=by
 cases x<;>first|exact⟨_,hv,fun _ h=>h⟩|exact hv.elim
theorem gh {e:LEnv}{x:Option Arg}{n:Nat}{K:Int->Prop}(hv:vopt e x n K):∃i,K i/\∀K':Int->Prop,K' i->vopt e x n K':=by
 cases x with
 | none=>exact⟨_,hv,fun _ h=>h⟩
 | some a=>exact jk hv
theorem mD {cs:List D}{o n:Nat}{b:Bool}{K:D->Prop}(hv:vpart cs o n b K):∃d,K d/\∀K':D->Prop,K' d->vpart cs o n b K':=by
 unfold vpart at hv
 cases b with
 | true=>simp only[if_true]at hv;exact⟨_,hv.2,fun K' h=>by simp only[vpart,if_true];exact⟨hv.1,h⟩⟩
 | false =>
  simp only[aE,if_false]at hv
  cases hd:cs[o]? with
  | none=>simp[hd]at hv
  | some d=>simp only[hd]at hv;exact⟨d,hv,fun K' h=>by simp only[vpart,aE,if_false,hd];exact h⟩
theorem GL {op:BinOp}{x y:D}{K:D->Prop}(hv:vbin op x y K):∃d,K d/\∀K':D->Prop,K' d->vbin op x y K':=by
 unfold vbin at hv ⊢
 cases x<;>try exact hv.elim
 ·cases y<;>try exact hv.elim
  cases op<;>simp only at hv ⊢<;>first
   | exact⟨_,hv.2,fun _ h=>⟨hv.1,h⟩⟩
   | exact⟨_,hv.2.2,fun _ h=>⟨hv.1,hv.2.1,h⟩⟩
 ·cases y<;>try exact hv.elim
  cases op<;>simp only at hv ⊢<;>first
   | exact⟨_,hv,fun _ h=>h⟩
   | exact⟨_,hv.2,fun _ h=>⟨hv.1,h⟩⟩
   | exact hv.elim
theorem Js {op:UnOp}{x:D}{K:D->Prop}(hv:vun op x K):∃d,K d/\∀K':D->Prop,K' d->vun op x K':=by
 unfold vun at hv ⊢
 cases op<;>cases x<;>simp only at hv ⊢<;>first|exact⟨_,hv,fun _ h=>h⟩|exact hv.elim
theorem IG {h h':Heap}(x:Ext h h'){d:D}(hok:mB h d):d.fz h'=d.fz h/\mB h' d:=by
 have cell:∀c:D,oE h c->c.fzc h'=c.fzc h/\oE h' c:=by
  intro c hc
  cases c with
  | ms n off len =>
   obtain⟨esz,els,hr,h1,h2⟩:=hc
   exact⟨by simp[D.fzc,hr,x.row hr],esz,els,x.row hr,h1,h2⟩
  | _=>exact⟨rfl,trivial⟩
 constructor
 ·cases d with
  | agg cs =>
   simp only[D.fz]
   congr 1
   exact List.map_congr_left fun c hc=>(cell c (hok c hc)).1
  | ms n off len=>exact(cell (.ms n off len) (hok (.ms n off len) (List.mem_singleton.2 rfl))).1
  | _=>rfl
 ·exact fun c hc=>(cell c (hok c hc)).2
theorem mE {op:AOp}(hval:op.isVal=true){K:D->Prop}{e:LEnv}{h:Heap}(hv:vcdOp P op K e h) :
  ∃d,K d/\∀h',(if op.stable then cD h h' else Ext h h')->∀K':D->Prop,K' d->vcdOp P op K' e h':=by
 cases op<;>simp only[AOp.isVal]at hval<;>try (cases hval;done)
 case mov x=>exact⟨_,hv,fun _ _ _ h=>h⟩
 case dead=>exact(show False from hv).elim
 case look kt x k z ok =>
  simp only[vcdOp,vcOp]at hv ⊢
  obtain⟨h1,h2⟩:=hv
  cases hx:x.get e<;>simp only[hx]at h2 ⊢<;>try exact h2.elim
  rename_i n
  cases hn:h n<;>simp only[hn]at h2<;>try exact h2.elim
  refine⟨_,h2.2,fun h' hx K' hk=>?_⟩
  have hx':Ext h h':=by simpa[AOp.stable] using hx
  rw[hx' n (by rw[hn];simp),hn]
  exact⟨h1,h2.1,hk⟩
 case pick c a b =>
  simp only[vcdOp,vcOp]at hv ⊢
  cases hc:c.get e<;>simp only[hc]at hv ⊢<;>try exact hv.elim
  exact⟨_,hv,fun _ _ _ h=>h⟩
 case bin op x y=>obtain⟨d,h1,h2⟩:=GL hv;exact⟨d,h1,fun _ _ K' h=>h2 K' h⟩
 case un op x=>obtain⟨d,h1,h2⟩:=Js hv;exact⟨d,h1,fun _ _ K' h=>h2 K' h⟩
 case eqv neg agg ks x y =>
  simp only[vcdOp,vcOp,veqv]at hv ⊢
  cases hc:eqCells ks (x.get e).cells (y.get e).cells<;>simp only[hc]at hv ⊢
  ·exact hv.2.2.elim
  ·exact⟨_,hv.2.2,fun _ _ _ h=>⟨hv.1,hv.2.1,h⟩⟩
 case conv k x=>obtain⟨i,h1,h2⟩:=jk hv;exact⟨_,h1,fun _ _ K' h=>h2 _ h⟩
 case ext x i =>
  simp only[vcdOp,vcOp]at hv ⊢
  cases hc:x.get e<;>simp only[hc]at hv ⊢<;>try exact hv.elim
  rename_i ds
  cases hd:ds[i]?<;>simp only[hd]at hv ⊢
  exact⟨_,hv,fun _ _ _ h=>h⟩
 case fld x off size agg =>
  simp only[vcdOp,vcOp]at hv ⊢
  cases hc:x.get e<;>simp only[hc]at hv ⊢<;>try exact hv.elim
  obtain⟨d,h1,h2⟩:=mD hv
  exact⟨d,h1,fun _ _ K' h=>h2 K' h⟩
 case bld zero ps=>exact⟨_,hv.2,fun _ _ _ h=>⟨hv.1,h⟩⟩
 case bldS fz esz len zero ps=>exact⟨_,hv.2.2.2,fun _ _ _ h=>⟨hv.1,hv.2.1,hv.2.2.1,h⟩⟩
 case mk esz b z l c =>
  obtain⟨i,h1,h2⟩:=jk (show vint (l.get e) _ from hv)
  obtain⟨j,g1,g2⟩:=jk h1
  exact⟨_,g1.2.2,fun h' _ K' hk=>h2 _ (g2 _ ⟨g1.1,g1.2.1,hk⟩)⟩
 case len x =>
  simp only[vcdOp,vcOp,aR]at hv ⊢
  cases hc:x.get e<;>simp only[hc]at hv ⊢<;>try exact hv.elim
  ·exact⟨_,hv,fun _ _ _ h=>h⟩
  ·exact⟨_,hv,fun _ _ _ h=>h⟩
  ·exact⟨_,hv.2,fun _ hx _ h=>⟨Ext.live (by simpa[AOp.stable] using hx) hv.1,h⟩⟩
 case slen x =>
  simp only[vcdOp,vcOp]at hv ⊢
  cases hc:x.get e<;>simp only[hc]at hv ⊢<;>try exact hv.elim
  exact⟨_,hv,fun _ _ _ h=>h⟩
 case fadd x off =>
  simp only[vcdOp]at hv ⊢
  cases hc:x.get e<;>simp only[hc]at hv ⊢<;>try exact hv.elim
  ·obtain⟨hb,hk⟩:=hv
   exact⟨_,hk,fun _ hx _ h=>⟨Slot.Jv ((show cD _ _ from by simpa[AOp.stable] using hx) _ (Slot.Pa hb)),h⟩⟩
  ·exact⟨_,hv,fun _ _ _ h=>h⟩
 case iadd x i esz =>
  obtain⟨n,h1,h2⟩:=jk (show vint (i.get e) _ from hv)
  cases hc:x.get e<;>simp only[hc]at h1<;>try exact h1.elim
  ·rename_i xs
   obtain⟨a1,a2,a3⟩:=h1
   have hd:xs[n.toNat]?=some (xs[n.toNat]'(by omega)):=by rw[aC]
   obtain⟨b1,b2⟩:=a3 _ hd
   refine⟨_,b2,fun h' _ K' hk=>h2 _ ?_⟩
   simp only[hc]
   refine⟨a1,a2,fun d hd'=>?_⟩
   rw[hd]at hd'
   cases hd'
   exact⟨b1,hk⟩
  ·obtain⟨a1,a2,⟨els,a3⟩,a4⟩:=h1
   refine⟨_,a4,fun h' hx K' hk=>h2 _ ?_⟩
   simp only[hc]
   exact⟨a1,a2,⟨els,Ext.row (by simpa[AOp.stable] using hx) a3⟩,hk⟩
 case iadda x i len esz =>
  obtain⟨n,h1,h2⟩:=jk (show vint (i.get e) _ from hv)
  cases hc:x.get e<;>simp only[hc]at h1<;>try exact h1.2.2.elim
  ·obtain⟨a1,a2,a3,a4⟩:=h1
   refine⟨_,a4,fun h' hx K' hk=>h2 _ ?_⟩
   simp only[hc]
   exact⟨a1,a2,Ext.live (by simpa[AOp.stable] using hx) a3,hk⟩
  ·obtain⟨a1,a2,a4⟩:=h1
   refine⟨_,a4,fun h' hx K' hk=>h2 _ ?_⟩
   simp only[hc]
   exact⟨a1,a2,hk⟩
 case sidx x i len size agg =>
  obtain⟨n,h1,h2⟩:=jk (show vint (i.get e) _ from hv)
  cases hc:x.get e<;>simp only[hc]at h1<;>try exact h1.elim
  ·rename_i s
   obtain⟨a0,a1,a2,a3⟩:=h1
   have hlt:n.toNat<s.size:=by omega
   have hb:s[n.toNat]?=some s[n.toNat]:=by rw[getElem?_pos s n.toNat hlt]
   refine⟨_,a3 _ hb,fun h' _ K' hk=>h2 _ ?_⟩
   simp only[hc]
   refine⟨a0,a1,a2,fun b hb'=>?_⟩
   rw[hb]at hb'
   cases hb'
   exact hk
  ·obtain⟨a0,a1,a2,a3⟩:=h1
   obtain⟨d,g1,g2⟩:=mD a3
   refine⟨_,g1,fun h' _ K' hk=>h2 _ ?_⟩
   simp only[hc]
   exact⟨a0,a1,a2,g2 K' hk⟩
 case ld x size agg =>
  simp only[vcdOp,vcOp]at hv ⊢
  cases hc:x.get e<;>simp only[hc]at hv ⊢<;>try exact hv.elim
  ·rename_i n i j
   cases hn:h n<;>simp only[hn]at hv<;>try exact hv.elim
   ·obtain⟨a1,a2⟩:=hv
    obtain⟨d,b1,b2⟩:=mD a2
    refine⟨d,b1,fun h' hx K' hk=>?_⟩
    have hx':Ext h h':=by simpa[AOp.stable] using hx
    rw[hx' n (by rw[hn];simp),hn]
    exact⟨a1,b2 K' hk⟩
   ·obtain⟨a1,a2⟩:=hv
    rename_i esz els
    have hd:els[i]?=some (els[i]'a1):=by rw[aC]
    obtain⟨d,b1,b2⟩:=mD (a2 _ hd)
    refine⟨d,b1,fun h' hx K' hk=>?_⟩
    have hx':Ext h h':=by simpa[AOp.stable] using hx
    rw[hx' n (by rw[hn];simp),hn]
    refine⟨a1,fun y hy=>?_⟩
    rw[hd]at hy
    cases hy
    exact b2 K' hk
   ·obtain⟨a1,a2⟩:=hv
    rename_i esz els
    have hd:els[i]?=some (els[i]'a1):=by rw[aC]
    obtain⟨d,b1,b2⟩:=mD (a2 _ hd)
    refine⟨d,b1,fun h' hx K' hk=>?_⟩
    have hx':Ext h h':=by simpa[AOp.stable] using hx
    rw[hx' n (by rw[hn];simp),hn]
    refine⟨a1,fun y hy=>?_⟩
    rw[hd]at hy
    cases hy
    exact b2 K' hk
  ·obtain⟨d,b1,b2⟩:=mD hv
   exact⟨d,b1,fun _ _ K' hk=>b2 K' hk⟩
 case zB x lo hi mx esz =>
  simp only[vcdOp,vcOp]at hv ⊢
  cases hc:x.get e<;>simp only[hc]at hv ⊢<;>try exact hv.elim
  ·obtain⟨l,h1,l2⟩:=gh hv
   obtain⟨r,h1,r2⟩:=gh h1
   obtain⟨m,h1,m2⟩:=gh h1
   obtain⟨a1,a2,a3,a4⟩:=h1
   exact⟨_,a4,fun h' _ K' hk=>l2 _ (r2 _ (m2 _ ⟨a1,a2,a3,hk⟩))⟩
  ·obtain⟨l,h1,l2⟩:=gh hv
   obtain⟨r,h1,r2⟩:=gh h1
   obtain⟨m,h1,m2⟩:=gh h1
   obtain⟨a1,a2,a3,a4,a5,a6⟩:=h1
   exact⟨_,a6,fun h' _ K' hk=>l2 _ (r2 _ (m2 _ ⟨a1,a2,a3,a4,a5,hk⟩))⟩
  ·obtain⟨l,h1,l2⟩:=gh hv
   obtain⟨r,h1,r2⟩:=gh h1
   obtain⟨m,h1,m2⟩:=gh h1
   obtain⟨a1,a2,a3,a4,⟨els,a5⟩,a6⟩:=h1
   exact⟨_,a6,fun h' hx K' hk=>l2 _ (r2 _ (m2 _ ⟨a1,a2,a3,a4,⟨els,Ext.row (by simpa[AOp.stable] using hx) a5⟩,hk⟩))⟩
 case nilq neg x =>
  simp only[vcdOp,vcOp]at hv ⊢
  cases hc:x.get e<;>simp only[hc]at hv ⊢<;>try exact hv.elim
  ·exact⟨_,hv,fun _ _ _ h=>h⟩
  ·rename_i xs
   cases xs with
   | nil=>exact hv.elim
   | cons d r=>exact⟨_,hv,fun _ _ _ h=>h⟩
 case sslc x lo hi =>
  simp only[vcdOp,vcOp]at hv ⊢
  cases hc:x.get e<;>simp only[hc]at hv ⊢<;>try exact hv.elim
  obtain⟨l,h1,l2⟩:=gh hv
  obtain⟨r,h1,r2⟩:=gh h1
  obtain⟨a1,a2,a3,a4⟩:=h1
  exact⟨_,a4,fun h' _ K' hk=>l2 _ (r2 _ ⟨a1,a2,a3,hk⟩)⟩
 case call f as =>
  simp only[vcdOp,xo]at hv ⊢
  obtain⟨r,h1,h2,h3,h4⟩:=hv
  refine⟨r,h4,fun h' hx K' hk=>?_⟩
  have hx':Ext h h':=by simpa[AOp.stable] using hx
  have e1:(as.map fun x=>(x.get e).fz h')=as.map fun x=>(x.get e).fz h:=List.map_congr_left fun x hm=>(IG hx' (h2 x hm).2.1).1
  refine⟨r,by rw[e1];exact h1,fun x hm=>⟨(h2 x hm).1,(IG hx' (h2 x hm).2.1).2,by rw[(IG hx' (h2 x hm).2.1).1];exact(h2 x hm).2.2⟩,h3.imp id (fun hz n hn=>by
   obtain⟨e1,e2,e3⟩:=hz n hn
   exact⟨e1,e2,by rw[hx' n (by rw[e3];simp)];exact e3⟩),hk⟩
 case mkf f a b=>exact⟨_,hv,fun _ _ _ h=>h⟩
 case mn x y =>
  simp only[vcdOp,vcOp]at hv ⊢
  cases hc:x.get e<;>simp only[hc]at hv ⊢<;>try exact hv.elim
  cases hd:y.get e<;>simp only[hd]at hv ⊢<;>try exact hv.elim
  exact⟨_,hv.2,fun _ _ _ h=>⟨hv.1,h⟩⟩
 case mx x y =>
  simp only[vcdOp,vcOp]at hv ⊢
  cases hc:x.get e<;>simp only[hc]at hv ⊢<;>try exact hv.elim
  cases hd:y.get e<;>simp only[hd]at hv ⊢<;>try exact hv.elim
  exact⟨_,hv.2,fun _ _ _ h=>⟨hv.1,h⟩⟩
 case mn3 x y z =>
  simp only[vcdOp,vcOp]at hv ⊢
  cases hc:x.get e<;>simp only[hc]at hv ⊢<;>try exact hv.elim
  cases hd:y.get e<;>simp only[hd]at hv ⊢<;>try exact hv.elim
  cases hz:z.get e<;>simp only[hz]at hv ⊢<;>try exact hv.elim
  exact⟨_,hv.2.2,fun _ _ _ h=>⟨hv.1,hv.2.1,h⟩⟩
 case mx3 x y z =>
  simp only[vcdOp,vcOp]at hv ⊢
  cases hc:x.get e<;>simp only[hc]at hv ⊢<;>try exact hv.elim
  cases hd:y.get e<;>simp only[hd]at hv ⊢<;>try exact hv.elim
  cases hz:z.get e<;>simp only[hz]at hv ⊢<;>try exact hv.elim
  exact⟨_,hv.2.2,fun _ _ _ h=>⟨hv.1,hv.2.1,h⟩⟩
end Go.Am
namespace Go.Am
open Go
variable [bW]
variable {P:Program}{nt:Nat}
theorem Rb {o:Oper}{t elem:TypeId}{len esz:Nat}{ps:Array (Nat×Operand)}{qs:List (Nat×Arg)}{zd:D}(ho:o.op=.buildSlice t len ps) (hu:P.underlying t=some (.slice elem))
  (ht:(P.info? elem).map (·.size)=some esz) (hpos:0<esz) (hz:dP P elem=some zd) (hsz:zd.cells.length=esz) (hq:cPartsS len ps.toList=some qs) (hmax:len*esz<=16777216)
  (hd:∀i,o.dst=some i->i<nt) {K:D->Prop}{e:LEnv}{h:Heap}{fz:Bool}(hv:vcdOp P (.bldS fz esz len zd qs) K e h) :
  Ft P nt o (fun t' h'=>∃d,t'=(e.put o.dst d).get/\K d/\h'=h) e.get h:=by
 obtain⟨z,hz1,hz2⟩:=fJ hz
 intro hnd r c w a Q hh hp hr hs
 subst hh
 simp only[vcdOp,uz,HP]at hv
 obtain⟨hparts,hvone,hzone,hk⟩:=hv
 obtain⟨hlen,hspec⟩:=qH hq
 have hpart:∀(k:Nat) (p:Nat×Operand) (q:Nat×Arg),ps.toList[k]?=some p->qs[k]?=some q->aB c (q.2.get e) (a.eval p.2)/\aN (q.2.get e)/\(q.2.get e).cells.length=esz:=by
  intro k p q hpk hqk
  obtain⟨_,s2,_⟩:=hspec k p q hpk hqk
  obtain⟨_,q2,q3⟩:=hparts q (ak hqk)
  exact⟨aG s2 hs,q3,q2⟩
 let els:=setEls (List.replicate len zd) (qs.map fun p=>(p.1,p.2.get e))
 have huni0:∀e,e∈List.replicate len zd->e.cells.length=esz:=fun e he=>by rw[List.eq_of_mem_replicate he];exact hsz
 have hDlen:∀p,p∈qs.map (fun p=>(p.1,p.2.get e))->p.2.cells.length=esz/\p.1<(List.replicate len zd).length:=by
  intro p hpm
  simp only[List.mem_map]at hpm
  obtain⟨q,hqm,rfl⟩:=hpm
  exact⟨(hparts q hqm).2.1,by simp;exact(hparts q hqm).1⟩
 have huni:∀e∈els,e.cells.length=esz:=wN _ huni0 (fun p hp=>(hDlen p hp).1)
 have hels:els.length=len:=by simp only[els];rw[wO];simp
 have hzr:=cW (gC hz2 c) (fG hz2)
 let vs0:=(Array.range (len*esz)).map (fun k=>z.cells[k % z.cells.size]!)
 let vals:List (Nat×Value):=ps.toList.map fun p=>(p.1,a.eval p.2)
 obtain⟨cells',g1,g2,g3⟩:=DB (c:=c) (fun i=>some (i*esz,esz)) vals ((qs.map fun p=>(p.1,p.2.get e)).map fun p=>(p.1*esz,esz,p.2.cells)) vs0 (flat (List.replicate len zd)) (EO hzr hsz hpos)
  (by simp[vals,hlen]) (by
   intro k p q hpk hqk
   simp only[vals,List.getElem?_map,Option.map_eq_some_iff]at hpk hqk
   obtain⟨p',hp',rfl⟩:=hpk
   obtain⟨q'',⟨q',hq',rfl⟩,rfl⟩:=hqk
   obtain⟨s1,s2,s3⟩:=hspec k p' q' hp' hq'
   obtain⟨f1,f2,f3⟩:=hpart k p' q' hp' hq'
   refine⟨by simp[s1],cW f1 f2,f3,?_⟩
   rw[bm huni0]
   simp only[List.length_replicate]
   have:=Nat.mul_le_mul_right esz (show q'.1+1<=len from s3)
   rw[Nat.add_mul]at this
   omega)
 rw[xk _ huni0 hDlen]at g2
 have hc':cells'.size=len*esz:=by
  have:=g2.len
  rw[bm huni,hels]at this
  simpa using this
 have hrun:(execOp a.eval o).run P w=.ok (.value (.slice (some ⟨w.heap.size,0,none⟩) len len)) (w.alloc (.cells cells' elem)):=by
  have hvs:ps.map (fun(i,x)=>(i,a.eval x))=vals.toArray:=by apply Array.ext';simp[vals]
  by_cases h0:len*esz=0
  ·have hv0:vs0 = #[]:=by apply Array.eq_empty_of_size_eq_zero;simp[vs0,h0]
   rw[hv0]at g1
   simp[execOp,ho,hvs,Instr.buildSlice,run_underlying hu,run_sizeOf ht,h0,Array.range_zero',g1,cf]
  ·simp[execOp,ho,hvs,Instr.buildSlice,run_underlying hu,run_sizeOf ht,h0,show ¬(16777216<len*esz) by omega,bG hz1,vs0]at g1 ⊢
   simp[g1,cf]
 have hgrow:=grow_step hr (.cells cells' elem)
 have heap:(w.alloc (.cells cells' elem)).heap=c.hp.push (.cells cells' elem):=by rw[hp];rfl
 have hvone':∀i j d,aM els i j=some d->d.vone=true:=by
  have mem:∀(l:List (Nat×D)) (e0:List D),(∀y∈e0,∀x∈y.cells,x.vone=true)->(∀p∈l,∀x∈p.2.cells,x.vone=true)->∀y,y∈setEls e0 l->∀x∈y.cells,x.vone=true:=by
   intro l
   induction l with
   | nil=>intro e0 h1 _;exact h1
   | cons p r ih =>
    intro e0 h1 h2
    obtain⟨i,d⟩:=p
    refine ih _ (fun y hy=>?_) (fun q hq=>h2 q (by simp[hq]))
    rcases List.mem_or_eq_of_mem_set hy with h|h
    ·exact h1 y h
    ·rw[h];exact h2 (i,d) (by simp)
  intro i j d hd
  unfold aM at hd
  cases hz:els[i]? with
  | none=>simp[hz]at hd
  | some y =>
   simp only[hz,Option.bind_some]at hd
   refine mem _ _ (fun y hy=>by rw[List.eq_of_mem_replicate hy];exact hzone) (fun p hpm=>?_) y (ak hz) d (ak hd)
   simp only[List.mem_map]at hpm
   obtain⟨q,hqm,rfl⟩:=hpm
   exact hvone q hqm
 have hrel:aB ⟨c.ρ,c.X,c.h,c.hp.push (.cells cells' elem)⟩ (.sl els) (.slice (some ⟨w.heap.size,0,none⟩) len len):=by
  have hml:len<=maxLen:=by unfold maxLen;have:=Nat.le_mul_of_pos_right len hpos;omega
  by_cases h0:len=0
  ·have:els=[]:=List.eq_nil_of_length_eq_zero (by omega)
   rw[this,h0]
   exact .lD _ _ (by simp[maxLen])
  ·have:=aB.sl (c:=⟨c.ρ,c.X,c.h,c.hp.push (.cells cells' elem)⟩) els w.heap.size 0 len esz (fun i j=>cells'.getD (i*esz+j) Go.undef) (by intro e0;rw[e0]at hels;simp at hels;omega) (by omega) hml hpos huni hvone'
    (fun i j d hd=>by
     rw[Nat.zero_add]
     refine fy (ty:=elem) (fr:=(0,0)) (by simp only;rw[<- hp];exact hQ _ _) ?_
     have:=(ah.1 (fR huni hd)).1
     rw[bm huni,hels]at this
     omega) ?_ (fun i j d hd=>by
     obtain⟨_,p2⟩:=g2.rel _ d (fR huni hd)
     rw[aH]at p2
     exact p2.mono hgrow.1)
   ·rw[hels]at this;exact this
   ·rintro (hX|⟨n,hm,hρ⟩)
    ·have:=hr.xlt _ hX;rw[hp]at this;omega
    ·have:=kO hr hm hρ;rw[hp]at this;omega
 refine iC hnd hrun ?_
 refine⟨c.ρ,(e.put o.dst (.sl els)).get,c.h,by rw[heap];exact hgrow.1,by rw[heap];exact hgrow.2,⟨rfl,rfl,rfl⟩,?_,.sl els,rfl,hk,rfl⟩
 rw[heap,LEnv.bf]
 exact(hs.mono hgrow.1).put hd hrel
theorem UP {o:Oper}{t elem:TypeId}{x y:Operand}{x' y':Arg}{i:TypeInfo}{zd:D}(ho:o.op=.makeSlice t x y) (hx:cArg x=some x') (hy:cArg y=some y') (hd:∀i,o.dst=some i->i<nt)
  (hu:P.underlying t=some (.slice elem)) (hi:P.info? elem=some i) (hz:dP P elem=some zd) (hsz:zd.cells.length=i.size) (hpos:0<i.size) {K:D->Prop}{e:LEnv}{h:Heap}(hv:vcdOp P (.mk i.size i.bytes zd x' y') K e h) :
  Ft P nt o (fun t' h'=>∃d,t'=(e.put o.dst d).get/\K d/\h'=h) e.get h:=by
 obtain⟨z,hz1,hz2⟩:=fJ hz
 intro hnd r c w a Q hh hp hr hs
 subst hh
 simp only[vcdOp]at hv
 have rx:=aG hx hs
 have ry:=aG hy hs
 generalize hgx:x'.get e=dx at hv rx
 generalize hgy:y'.get e=dy at hv ry
 unfold vint at hv
 split at hv
 case h_2=>exact hv.elim
 rename_i k l
 split at hv
 case h_2=>exact hv.elim
 rename_i k' m
 obtain⟨⟨h0,h1,h2,h3⟩,⟨_,hvone⟩,hk⟩:=hv
 have ex:=eY rx
 have ey:=eY ry
 have hzr:=cW (gC hz2 c) (fG hz2)
 have hzs:z.cells.size=i.size:=by rw[<- hsz, <- hzr.len];simp
 have wl:IntKind.i64.wrap l=l:=by unfold IntKind.wrap IntKind.bits IntKind.signed;simp;omega
 have wm:IntKind.i64.wrap m=m:=by unfold IntKind.wrap IntKind.bits IntKind.signed;simp;omega
 have hb0:¬(m<0):=by omega
 have hb1:¬((i.bytes:Int)*m>281474976710656):=by rw[Int.mul_comm];omega
 have hb2:¬(l<0):=by omega
 have hb3:¬(l>m):=by omega
 have hroom:¬(m.toNat*i.bytes>140737488355328):=by
  have:((m.toNat*i.bytes:Nat):Int)=m*i.bytes:=by simp[Int.toNat_of_nonneg (by omega:0<=m)]
  omega
 let vs:=(Array.range (m.toNat*i.size)).map (fun k=>z.cells[k % z.cells.size]!)
 have hvs:vs.size=m.toNat*i.size:=by simp[vs]
 have hle2:l.toNat*i.size<=m.toNat*i.size:=Nat.mul_le_mul_right _ (by omega)
 have hrun:(execOp a.eval o).run P w=.ok (.value (.slice (some ⟨w.heap.size,0,none⟩) l.toNat m.toNat)) (w.alloc (.cells vs elem)):=by
  have hs2:(P.info? elem).map (·.size)=some i.size:=by simp[hi]
  by_cases h:m.toNat*i.size=0
  ·have hv0:vs = #[]:=by apply Array.eq_empty_of_size_eq_zero;omega
   rw[hv0]
   simp[execOp,ho,ex,ey,Instr.makeSlice,run_underlying hu,asInt,asIntOf,run_typeInfo hi,wl,wm,hb0,hb1,hb2,hb3,askRoom,hroom,run_sizeOf hs2,h,cf,Array.range_zero']
  ·simp[execOp,ho,ex,ey,Instr.makeSlice,run_underlying hu,asInt,asIntOf,run_typeInfo hi,wl,wm,hb0,hb1,hb2,hb3,askRoom,hroom,run_sizeOf hs2,h,bG hz1,cf,vs]
 have hgrow:=grow_step hr (.cells vs elem)
 have heap:(w.alloc (.cells vs elem)).heap=c.hp.push (.cells vs elem):=by rw[hp];rfl
 have hrel:aB ⟨c.ρ,c.X,c.h,c.hp.push (.cells vs elem)⟩ (.sl (List.replicate l.toNat zd)) (.slice (some ⟨w.heap.size,0,none⟩) l.toNat m.toNat):=by
  have hml:m.toNat<=maxLen:=by unfold maxLen;omega
  by_cases hl0:l.toNat=0
  ·rw[hl0]
   exact .lD _ _ hml
  ·have hin:∀(a b:Nat) (d:D),aM (List.replicate l.toNat zd) a b=some d->a<l.toNat/\b<i.size/\zd.cells[b]?=some d/\a*i.size+b<m.toNat*i.size:=by
    intro a b d hd
    obtain⟨q1,q2⟩:=gG hd
    have hb:b<i.size:=by rw[<- hsz];exact(ah.1 q2).1
    have hal:a<l.toNat:=by
     unfold aM at hd
     cases hz:(List.replicate l.toNat zd)[a]? with
     | none=>simp[hz]at hd
     | some y=>simpa using (ah.1 hz).1
    have:(a+1)*i.size<=l.toNat*i.size:=Nat.mul_le_mul_right _ (by omega)
    rw[Nat.add_mul]at this
    exact⟨hal,hb,q2,by omega⟩
   have:=aB.sl (c:=⟨c.ρ,c.X,c.h,c.hp.push (.cells vs elem)⟩) (List.replicate l.toNat zd) w.heap.size 0 m.toNat i.size (fun a b=>vs.getD (a*i.size+b) Go.undef) (by intro e0;have:=congrArg List.length e0;simp at this;omega) (by simp;omega) hml hpos
    (fun e he=>by rw[List.eq_of_mem_replicate he];exact hsz) (fun a b d hd=>hvone d (ak (hin a b d hd).2.2.1))
    (fun a b d hd=>by
     rw[Nat.zero_add]
     refine fy (ty:=elem) (fr:=(0,0)) (by simp only;rw[<- hp];exact hQ _ _) ?_
     rw[hvs];exact(hin a b d hd).2.2.2) ?_ (fun a b d hd=>by
     obtain⟨q0,hb,q2,hlt⟩:=hin a b d hd
     obtain⟨p1,p2⟩:=hzr.rel b d q2
     rw[ye z.cells (by omega) _ _ hlt,hzs]
     have:(a*i.size+b) % i.size=b:=by
      rw[Nat.mul_comm,Nat.mul_add_mod]
      exact Nat.mod_eq_of_lt hb
     rw[this, <- aH]
     exact p2.mono hgrow.1)
   ·simpa using this
   ·rintro (hX|⟨n,hm,hρ⟩)
    ·have:=hr.xlt _ hX;rw[hp]at this;omega
    ·have:=kO hr hm hρ;rw[hp]at this;omega
 refine iC hnd hrun ?_
 refine⟨c.ρ,(e.put o.dst (.sl (List.replicate l.toNat zd))).get,c.h,by rw[heap];exact hgrow.1,by rw[heap];exact hgrow.2,⟨rfl,rfl,rfl⟩,?_,.sl (List.replicate l.toNat zd),rfl,hk,rfl⟩
 rw[heap,LEnv.bf]
 exact(hs.mono hgrow.1).put hd hrel
theorem Kz {op:AOp}(hval:op.isVal=true) (hb:∀a b c d e,op≠.bldS a b c d e) (hc:∀f as,op≠.call f as) (hmk:∀a b c d e,op≠.mk a b c d e){K:HKq}{e:LEnv}{h:Heap}(hv:vcOp P op (fun d _=>K d h) e h):vcOp P op K e h:=by
 cases op<;>simp only[AOp.isVal]at hval<;>first
  | (cases hval;done)
  | exact hv
  | exact absurd rfl (hb _ _ _ _ _)
  | exact absurd rfl (hc _ _)
  | exact absurd rfl (hmk _ _ _ _ _)
def AOp.plainVal:AOp->Bool
 | .bldS _ _ _ _ _=>false
 | .mk _ _ _ _ _=>false
 | .call _ _=>false
 | op=>op.isVal
def cdOp (P:Program) (o:Oper):Option AOp :=
 match o.op with
 | .buildSlice t len ps=>match P.underlying t with
  | some (.slice e)=>match (P.info? e).map (·.size),dP P e,cPartsS len ps.toList with
   | some n,some z,some qs=>if 0<n/\z.cells.length=n/\len*n<=16777216 then some (.bldS false n len z qs) else none
   | _,_,_=>none
  | _=>none
 | .call { callee:=.value (.func f),args:=args,argTypes:=_ }=>if fc P f then(args.toList.mapM cArg).map (.call f) else none
 | .makeSlice t x y=>match P.underlying t with
  | some (.slice e)=>match P.info? e,dP P e,cArg x,cArg y with
   | some i,some z,some x,some y=>if z.cells.length=i.size/\0<i.size then some (.mk i.size i.bytes z x y) else none
   | _,_,_,_=>none
  | _=>none
 | _=>match cOp P false o with
  | some op=>if op.plainVal then some op else none
  | none=>none
theorem OE {o:Oper}{op:AOp}(hcop:cOp P false o=some op) (hpl:op.plainVal=true) (hd:∀i,o.dst=some i->i<nt){K:D->Prop}{e:LEnv}{h:Heap}(hv:vcdOp P op K e h) :
  Ft P nt o (fun t' h'=>∃d,t'=(e.put o.dst d).get/\K d/\h'=h) e.get h:=by
 have hval:op.isVal=true:=by cases op<;>simp_all [AOp.plainVal,AOp.isVal]
 have plain:vcOp P op (fun d _=>K d/\h=h) e h->Ft P nt o (fun t' h'=>∃d,t'=(e.put o.dst d).get/\K d/\h'=h) e.get h:=by
  intro hv
  have:=pE (nt:=nt) hcop hd (fun d h'=>K d/\h'=h) e h (Kz hval (by rintro a b c d e rfl;simp[AOp.plainVal]at hpl) (by rintro f as rfl;simp[AOp.plainVal]at hpl) (by rintro a b c d e rfl;simp[AOp.plainVal]at hpl) hv)
  refine gu ?_ this
  rintro t' h' ⟨d,rfl,hk,rfl⟩
  exact⟨d,rfl,hk,rfl⟩
 obtain⟨d,hk,hdet⟩:=mE hval hv
 have again:=hdet h (by split;exact cD.zQ;exact fun n _=>rfl) (fun d=>K d/\h=h) ⟨hk,rfl⟩
 cases op<;>simp only[AOp.plainVal,AOp.isVal]at hpl<;>try (cases hpl;done)
 case fadd x off =>
  refine plain ?_
  simp only[vcdOp]at again
  simp only[vcOp]
  cases hx:x.get e<;>simp only[hx]at again ⊢<;>try exact again.elim
  ·exact again
  ·exact again
 case nilq neg x =>
  refine plain ?_
  simp only[vcdOp]at again
  simp only[vcOp]
  cases hx:x.get e<;>simp only[hx]at again ⊢<;>try exact again.elim
  ·exact again
  ·rename_i xs
   cases xs with
   | nil=>exact again.elim
   | cons d r=>exact again
 all_goals exact plain again
theorem sZ:∀(ns:List Nat){h:Heap},Ov h ns->h.freezeAll ns=h
 | [],_,_=>rfl
 | n::r,h,hz=>by
  obtain⟨e,l,hn⟩:=hz n (List.mem_cons_self)
  have:h.freeze n=h:=by unfold Heap.freeze;rw[hn]
  simp only[Heap.freezeAll,this]
  exact sZ r fun m hm=>hz m (List.mem_cons_of_mem _ hm)
theorem Ra {o:Oper}{f:FuncId}{args:Array Operand}{ats:Array TypeId}{args':List Arg}(ho:o.op=.call { callee:=.value (.func f),args:=args,argTypes:=ats }) (ha:args.toList.mapM cArg=some args')
  (hd:∀i,o.dst=some i->i<nt) (hf:fc P f=true) {K:D->Prop}{e:LEnv}{h:Heap}(hv:vcdOp P (.call f args') K e h) :
  Ft P nt o (fun t' h'=>∃d,t'=(e.put o.dst d).get/\K d/\h'=h) e.get h:=by
 simp only[vcdOp,xo]at hv
 obtain⟨r,h1,h2,h3,h4⟩:=hv
 have hac:ai P f (args'.map (·.get e)) h fun d h'=>K d/\h'=h:=by
  refine ai.mono ?_ (gw (ds:=args'.map (·.get e)) (K:=(· = r)) (by rw[List.map_map];exact h1) (fun d hd=>?_))
  ·rintro d h' ⟨rfl,k1,k2⟩
   refine⟨h4,?_⟩
   by_cases hc:d.flat=true\/(args'.map (·.get e)).flatMap D.nm=[]
   ·exact k1 hc
   ·rw[k2 hc]
    rcases h3 with h3|h3
    ·exact absurd (Or.inl h3) hc
    ·refine sZ _ fun n hn=>h3 n ?_
     rw[List.flatMap_map]at hn
     exact hn
  ·simp only[List.mem_map]at hd
   obtain⟨x,hx,rfl⟩:=hd
   exact h2 x hx
 have:=MG (nt:=nt) ho ha hd hf (fun d h'=>K d/\h'=h) e h hac
 refine gu ?_ this
 rintro t' h' ⟨d,rfl,hk,rfl⟩
 exact⟨d,rfl,hk,rfl⟩
theorem xn {o:Oper}{op:AOp}(hc:cdOp P o=some op) (hd:∀i,o.dst=some i->i<nt){K:D->Prop}{e:LEnv}{h:Heap}(hv:vcdOp P op K e h) :
  Ft P nt o (fun t' h'=>∃d,t'=(e.put o.dst d).get/\K d/\h'=h) e.get h:=by
 unfold cdOp at hc
 split at hc
 ·rename_i t len ps ho
  split at hc
  ·rename_i el hu
   split at hc
   ·rename_i h1 h2 h3
    split at hc
    ·rename_i hcc
     simp at hc;subst hc
     exact Rb ho hu h1 hcc.1 h2 hcc.2.1 h3 hcc.2.2 hd hv
    ·cases hc
   ·cases hc
  ·cases hc
 ·rename_i f args ats ho
  split at hc
  ·rename_i hf
   simp at hc;obtain⟨ys,hy,rfl⟩:=hc
   exact Ra ho hy hd hf hv
  ·cases hc
 ·rename_i t x y ho
  split at hc
  ·rename_i el hu
   split at hc
   ·rename_i i z x' y' h1 h2 h3 h4
    split at hc
    ·rename_i hcc
     simp at hc;subst hc
     exact UP ho h3 h4 hd hu h1 h2 hcc.1 hcc.2 hv
    ·cases hc
   ·cases hc
  ·cases hc
 ·split at hc
  ·rename_i op' hop
   split at hc
   ·rename_i hpl
    simp at hc;subst hc
    exact OE hop hpl hd hv
   ·cases hc
  ·cases hc
theorem qF {o:Oper}{op:AOp}(h:cdOp P o=some op):∀c,o.op≠.defer c:=by
 intro c hc
 simp[cdOp,cOp,cOp0,cOpM,deadOp,hc]at h
theorem gq {o:Oper}{op:AOp}(hc:cdOp P o=some op):op.isVal=true:=by
 unfold cdOp at hc
 split at hc
 ·split at hc
  ·split at hc
   ·split at hc
    ·simp at hc;subst hc;rfl
    ·cases hc
   ·cases hc
  ·cases hc
 ·split at hc
  ·simp at hc;obtain⟨ys,_,rfl⟩:=hc;rfl
  ·cases hc
 ·split at hc
  ·split at hc
   ·split at hc
    ·simp at hc;subst hc;rfl
    ·cases hc
   ·cases hc
  ·cases hc
 ·split at hc
  ·rename_i op' _
   split at hc
   ·rename_i hpl
    simp at hc;subst hc
    cases op'<;>simp_all [AOp.plainVal,AOp.isVal]
   ·cases hc
  ·cases hc
end Go.Am
namespace Go.Am
open Go
variable [bW]
variable {P:Program}{nt:Nat}
def AOper.rd (a:AOper):List Nat:=a.op.reads++(match a.guard with|some (g,_)=>[g]|none=>[])
def cr (P:Program) (a:AOper) (e:LEnv) (h:Heap):Prop :=
 ∃d,(∀s,a.dst=some s->e.get s=d)/\match a.guard with
  | none=>∀K':D->Prop,K' d->vcdOp P a.op K' e h
  | some (g,want)=>∃b,gv (e.get g)=some b/\(b=some want->∀K':D->Prop,K' d->vcdOp P a.op K' e h)/\(b≠some want->d=gU)
theorem cr.congr {a:AOper}{e e':LEnv}{h:Heap}(hrd:∀i∈a.rd,e.get i=e'.get i) (hd:∀s,a.dst=some s->e'.get s=e.get s) (hv:cr P a e h):cr P a e' h:=by
 obtain⟨d,h1,h2⟩:=hv
 refine⟨d,fun s hs=>(hd s hs).trans (h1 s hs),?_⟩
 have hop:∀i∈a.op.reads,e.get i=e'.get i:=fun i hi=>hrd i (by simp[AOper.rd,hi])
 cases hg:a.guard with
 | none=>rw[hg]at h2;exact fun K' hk=>gj hop K' h (h2 K' hk)
 | some p =>
  obtain⟨g,want⟩:=p
  rw[hg]at h2
  obtain⟨b,q1,q2,q3⟩:=h2
  exact⟨b,by rw[<- hrd g (by simp[AOper.rd,hg])];exact q1,fun hb K' hk=>gj hop K' h (q2 hb K' hk),q3⟩
theorem cr.ext {a:AOper}(hval:a.op.isVal=true){e:LEnv}{h h':Heap}(hx:if a.op.stable then cD h h' else Ext h h') (hv:cr P a e h):cr P a e h':=by
 obtain⟨d,h1,h2⟩:=hv
 have step:(∀K':D->Prop,K' d->vcdOp P a.op K' e h)->∀K':D->Prop,K' d->vcdOp P a.op K' e h':=by
  intro hk K' hk'
  obtain⟨d',rfl,hdet⟩:=mE hval (hk (· = d) rfl)
  exact hdet h' hx K' hk'
 refine⟨d,h1,?_⟩
 cases hg:a.guard with
 | none=>rw[hg]at h2;exact step h2
 | some p =>
  obtain⟨g,want⟩:=p
  rw[hg]at h2
  obtain⟨b,q1,q2,q3⟩:=h2
  exact⟨b,q1,fun hb=>step (q2 hb),q3⟩
theorem GM:∀(vals:List AOper),(∀a∈vals,a.op.isVal=true)->(∀a∈vals,∀s,a.dst=some s->s∉a.rd)->vals.Pairwise (fun a b=>∀s,b.dst=some s->a.dst≠some s/\s∉a.rd) ->
  ∀{K:LEnv->Heap->Prop}{e:LEnv}{h:Heap},vcVals P vals K e h->∃T:LEnv,K T h/\(∀s,(∀a∈vals,a.dst≠some s)->T.get s=e.get s)/\∀a∈vals,cr P a T h:=by
 intro vals
 induction vals with
 | nil=>intro _ _ _ K e h hv;exact⟨e,hv,fun _ _=>rfl,by simp⟩
 | cons a r ih =>
  intro hval hself hpw K e h hv
  rw[List.pairwise_cons]at hpw
  obtain⟨hpa,hpr⟩:=hpw
  have ih':=fun e'=>@ih (fun b hb=>hval b (by simp[hb])) (fun b hb=>hself b (by simp[hb])) hpr K e' h
  have fin:∀d,vcVals P r K (e.put a.dst d) h->(match a.guard with
    | none=>∀K':D->Prop,K' d->vcdOp P a.op K' e h
    | some (g,want)=>∃b,gv (e.get g)=some b/\(b=some want->∀K':D->Prop,K' d->vcdOp P a.op K' e h)/\(b≠some want->d=gU)) ->
    ∃T:LEnv,K T h/\(∀s,(∀b,b∈a::r->b.dst≠some s)->T.get s=e.get s)/\∀b,b∈a::r->cr P b T h:=by
   intro d hr hm
   obtain⟨T,t1,t2,t3⟩:=ih' _ hr
   have hput:∀s,a.dst≠some s->(e.put a.dst d).get s=e.get s:=by
    intro s hs
    rw[LEnv.bf]
    cases hd:a.dst with
    | none=>rfl
    | some j =>
     have:s≠j:=by rintro rfl;exact hs hd
     simp[Env.put,aD,this]
   have hrd:∀i∈a.rd,T.get i=e.get i:=by
    intro i hi
    rw[t2 i (fun b hb hbd=>(hpa b hb i hbd).2 hi),hput i (fun hd=>hself a (by simp) i hd hi)]
   refine⟨T,t1,fun s hs=>?_,fun b hb=>?_⟩
   ·rw[t2 s (fun b hb=>hs b (by simp[hb])),hput s (hs a (by simp))]
   ·rcases List.mem_cons.1 hb with rfl|hb
    ·refine cr.congr (e:=e.put b.dst d) (fun i hi=>?_) (fun s hs=>?_) ⟨d,fun s hs=>by rw[LEnv.bf,hs];simp[Env.put,aD],?_⟩
     ·rw[hrd i hi,hput i (fun hd=>hself b (by simp) i hd hi)]
     ·exact t2 s (fun c hc hcd=>(hpa c hc s hcd).1 hs)
     ·have hop:∀i∈b.rd,e.get i=(e.put b.dst d).get i:=fun i hi=>(hput i (fun hd=>hself b (by simp) i hd hi)).symm
      have hop':∀i∈b.op.reads,e.get i=(e.put b.dst d).get i:=fun i hi=>hop i (by simp[AOper.rd,hi])
      cases hg:b.guard with
      | none=>rw[hg]at hm;exact fun K' hk=>gj hop' K' h (hm K' hk)
      | some p =>
       obtain⟨g,want⟩:=p
       rw[hg]at hm
       obtain⟨x,q1,q2,q3⟩:=hm
       exact⟨x,by rw[<- hop g (by simp[AOper.rd,hg])];exact q1,fun hx K' hk=>gj hop' K' h (q2 hx K' hk),q3⟩
    ·exact t3 b hb
  simp only[vcVals,qb,aF]at hv
  cases hg:a.guard with
  | none =>
   simp only[hg]at hv fin
   obtain⟨d,k1,k2⟩:=mE (hval a (by simp)) hv
   exact fin d k1 (fun K' hk=>k2 h (by split;exact cD.zQ;exact fun n _=>rfl) K' hk)
  | some p =>
   obtain⟨g,want⟩:=p
   simp only[hg]at hv fin
   cases hb:gv (e.get g)<;>simp only[hb]at hv<;>try exact hv.elim
   rename_i b
   by_cases hbw:b=some want
   ·obtain⟨d,k1,k2⟩:=mE (hval a (by simp)) (hv.1 hbw)
    exact fin d k1 ⟨b,hb,fun _ K' hk=>k2 h (by split;exact cD.zQ;exact fun n _=>rfl) K' hk,fun hne=>absurd hbw hne⟩
   ·exact fin gU (hv.2 hbw) ⟨b,hb,fun h=>absurd h hbw,fun _=>rfl⟩
def AOp.isTail:AOp->Bool
 | .alloc _=>true
 | .box _=>true
 | .mk _ _ _ _ _=>true
 | .st _ _ _=>true
 | .app _ _ _ _ _=>true
 | .Fi _ _ _=>true
 | .Ix _=>true
 | .mupd _ _ _ _=>true
 | .mov _=>true
 | .fadd _ _=>false
 | op=>op.plainVal
def AOp.mut:AOp->Bool
 | .st _ _ _=>true
 | .app _ _ _ _ _=>true
 | .Fi _ _ _=>true
 | .mupd _ _ _ _=>true
 | _=>false
theorem nW {h:Heap}{n:Nat}(hn:h n=.free) (s:Slot):Ext h (aD h n s):=by
 intro k hk
 have:k≠n:=by rintro rfl;exact hk hn
 simp[aD,this]
theorem fh {x:D}{K K':Int->Prop}(hk:∀i,K i->K' i) (h:vint x K):vint x K':=by
 unfold vint at h ⊢
 split at h
 ·exact hk _ h
 ·exact h.elim
theorem fg {e:LEnv}{x:Option Arg}{n:Nat}{K K':Int->Prop}(hk:∀i,K i->K' i) (h:vopt e x n K):vopt e x n K':=by
 cases x with
 | none=>exact hk _ h
 | some a=>exact fh hk h
theorem ki {cs:List D}{o s:Nat}{g:Bool}{K K':D->Prop}(hk:∀i,K i->K' i) (h:vpart cs o s g K):vpart cs o s g K':=by
 unfold vpart at h ⊢
 cases g
 ·simp only[aE,if_false]at h ⊢
  cases hc:cs[o]?<;>simp only[hc]at h ⊢
  exact hk _ h
 ·simp only[if_true]at h ⊢
  exact⟨h.1,hk _ h.2⟩
theorem Kw {x:D}{h:Heap}{K K':D->Prop}(hk:∀i,K i->K' i) (hv:aR x h K):aR x h K':=by
 unfold aR at hv ⊢
 split at hv
 ·exact hk _ hv
 ·exact hk _ hv
 ·exact⟨hv.1,hk _ hv.2⟩
 ·exact hv.elim
theorem sC {n:Nat}{x:D}{h:Heap}{K K':List D->Prop}(hk:∀i,K i->K' i) (hv:velems n x h K):velems n x h K':=by
 unfold velems at hv ⊢
 split at hv
 ·exact hk _ hv
 ·exact⟨hv.1,hk _ hv.2⟩
 ·obtain⟨els,h1,h2,h3⟩:=hv
  exact⟨els,h1,h2,hk _ h3⟩
 ·exact hv.elim
theorem KA {op:BinOp}{x y:D}{K K':D->Prop}(hk:∀i,K i->K' i) (h:vbin op x y K):vbin op x y K':=by
 obtain⟨d,h1,h2⟩:=GL h
 exact h2 K' (hk d h1)
theorem L8 {op:UnOp}{x:D}{K K':D->Prop}(hk:∀i,K i->K' i) (h:vun op x K):vun op x K':=by
 obtain⟨d,h1,h2⟩:=Js h
 exact h2 K' (hk d h1)
theorem mF {op:AOp}{K K':HKq}(hk:∀d h',K d h'->K' d h'){e:LEnv}{h:Heap}(hv:vcOp P op K e h):vcOp P op K' e h:=by
 cases op<;>simp only[vcOp]at hv ⊢
 case mov x=>exact hk _ _ hv
 case pick c a b=>cases hc:c.get e<;>simp only[hc]at hv ⊢;exact hk _ _ hv
 case bin op x y=>exact KA (fun d hd=>hk d h hd) hv
 case eqv neg agg ks x y =>
  refine⟨hv.1,hv.2.1,?_⟩
  have hv:=hv.2.2
  unfold veqv at hv ⊢
  split at hv
  ·exact hk _ _ hv
  ·exact hv.elim
 case un op x=>exact L8 (fun d hd=>hk d h hd) hv
 case conv k x=>exact fh (fun i hi=>hk _ _ hi) hv
 case ext x i =>
  cases hc:x.get e<;>simp only[hc]at hv ⊢
  rename_i ds
  cases hd:ds[i]?<;>simp only[hd]at hv ⊢
  exact hk _ _ hv
 case fld x o s g=>cases hc:x.get e<;>simp only[hc]at hv ⊢;exact ki (fun d hd=>hk d h hd) hv
 case bld z ps=>exact⟨hv.1,hk _ _ hv.2⟩
 case bldS fz esz len z ps=>exact⟨hv.1,hv.2.1,fun n t=>hk _ _ (hv.2.2 n t)⟩
 case len x=>exact Kw (fun d hd=>hk d h hd) hv
 case slen x=>cases hc:x.get e<;>simp only[hc]at hv ⊢;exact hk _ _ hv
 case fadd x o =>
  cases hc:x.get e<;>simp only[hc]at hv ⊢
  ·exact⟨hv.1,hk _ _ hv.2⟩
  ·exact hk _ _ hv
 case iadd x i n =>
  refine fh (fun i hi=>?_) hv
  cases hc:x.get e<;>simp only[hc]at hi ⊢
  ·exact⟨hi.1,hi.2.1,fun d hd=>⟨(hi.2.2 d hd).1,hk _ _ (hi.2.2 d hd).2⟩⟩
  ·exact⟨hi.1,hi.2.1,hi.2.2.1,hk _ _ hi.2.2.2⟩
 case iadda x i l n =>
  refine fh (fun i hi=>⟨hi.1,hi.2.1,?_⟩) hv
  have hi:=hi.2.2
  cases hc:x.get e<;>simp only[hc]at hi ⊢
  ·exact⟨hi.1,hk _ _ hi.2⟩
  ·exact hk _ _ hi
 case sidx x i len size agg =>
  refine fh (fun i hi=>?_) hv
  cases hc:x.get e<;>simp only[hc]at hi ⊢
  ·exact⟨hi.1,hi.2.1,hi.2.2.1,fun b hb=>hk _ _ (hi.2.2.2 b hb)⟩
  ·exact⟨hi.1,hi.2.1,hi.2.2.1,ki (fun d hd=>hk d h hd) hi.2.2.2⟩
 case ld x s g =>
  cases hc:x.get e<;>simp only[hc]at hv ⊢
  ·rename_i n i j
   cases hn:h n<;>simp only[hn]at hv ⊢
   ·exact⟨hv.1,ki (fun d hd=>hk d h hd) hv.2⟩
   ·exact⟨hv.1,fun d hd=>ki (fun d hd=>hk d h hd) (hv.2 d hd)⟩
   ·exact⟨hv.1,fun d hd=>ki (fun d hd=>hk d h hd) (hv.2 d hd)⟩
  ·exact ki (fun d hd=>hk d h hd) hv
 case st x v s =>
  refine⟨hv.1,hv.2.1,?_⟩
  have hv:=hv.2.2
  cases hc:x.get e<;>simp only[hc]at hv ⊢
  rename_i n i j
  cases hn:h n<;>simp only[hn]at hv ⊢
  ·exact⟨hv.1,hv.2.1,hk _ _ hv.2.2⟩
  ·exact⟨hv.1,hv.2.1,fun d hd=>hk _ _ (hv.2.2 d hd)⟩
 case alloc z=>exact fun n t=>hk _ _ (hv n t)
 case box x=>exact⟨hv.1,fun n t=>hk _ _ (hv.2 n t)⟩
 case mk esz b z l c=>exact fh (fun i hi=>fh (fun j hj=>⟨hj.1,hj.2.1,hj.2.2.1,hj.2.2.2.1,fun n t=>hk _ _ (hj.2.2.2.2 n t)⟩) hi) hv
 case zB x lo hi mx n =>
  cases hc:x.get e<;>simp only[hc]at hv ⊢
  ·exact fg (fun _ h1=>fg (fun _ h2=>fg (fun _ h3=>⟨h3.1,h3.2.1,h3.2.2.1,hk _ _ h3.2.2.2⟩) h2) h1) hv
  ·exact fg (fun _ h1=>fg (fun _ h2=>fg (fun _ h3=>⟨h3.1,h3.2.1,h3.2.2.1,h3.2.2.2.1,h3.2.2.2.2.1,hk _ _ h3.2.2.2.2.2⟩) h2) h1) hv
  ·exact fg (fun _ h1=>fg (fun _ h2=>fg (fun _ h3=>⟨h3.1,h3.2.1,h3.2.2.1,h3.2.2.2.1,h3.2.2.2.2.1,hk _ _ h3.2.2.2.2.2⟩) h2) h1) hv
 case nilq neg x =>
  cases hc:x.get e<;>simp only[hc]at hv ⊢
  ·exact hk _ _ hv
  ·rename_i xs
   cases xs with
   | nil=>exact⟨hk _ _ hv.1,hk _ _ hv.2⟩
   | cons d r=>exact hk _ _ hv
 case slz x n =>
  cases hc:x.get e<;>simp only[hc]at hv ⊢
  ·exact fun n t=>hk _ _ (hv n t)
  ·exact fun n t=>hk _ _ (hv n t)
  ·exact⟨hv.1,fun n t=>hk _ _ (hv.2 n t)⟩
 case L0 x n =>
  cases hc:x.get e<;>simp only[hc]at hv ⊢
  rename_i m i j
  cases hn:h m<;>simp only[hn]at hv ⊢
  rename_i v
  cases v<;>simp only at hv ⊢
  exact⟨hv.1,hv.2.1,hv.2.2.1,hv.2.2.2.1,hv.2.2.2.2.1,hk _ _ hv.2.2.2.2.2⟩
 case mkc b l c=>exact fh (fun i hi=>fh (fun j hj=>⟨hj.1,hj.2.1,hj.2.2.1,hj.2.2.2.1,hk _ _ hj.2.2.2.2⟩) hi) hv
 case b2s x =>
  refine sC (fun ys hy=>⟨hy.1,?_⟩) hv
  have hy:=hy.2
  cases hc:u8L ys<;>simp only[hc]at hy ⊢
  exact hk _ _ hy
 case sslc x lo hi =>
  cases hc:x.get e<;>simp only[hc]at hv ⊢
  exact fg (fun _ h1=>fg (fun _ h2=>⟨h2.1,h2.2.1,h2.2.2.1,hk _ _ h2.2.2.2⟩) h1) hv
 case app s x esz b z =>
  refine sC (fun ys hy=>⟨hy.1,?_⟩) hv
  have hy:=hy.2
  cases hc:s.get e<;>simp only[hc]at hy ⊢
  ·exact⟨hy.1,fun n t=>hk _ _ (hy.2 n t)⟩
  ·obtain⟨els,q1,q2,q4,q5⟩:=hy
   exact⟨els,q1,q2,q4,fun n t=>⟨hk _ _ (q5 n t).1,fun h0=>hk _ _ ((q5 n t).2 h0)⟩⟩
 case Fi d s n =>
  refine sC (fun ys hy=>⟨hy.1,?_⟩) hv
  have hy:=hy.2
  cases hc:d.get e<;>simp only[hc]at hy ⊢
  obtain⟨els,q1,q2,q3⟩:=hy
  exact⟨els,q1,q2,hk _ _ q3⟩
 case call f as=>exact ai.mono hk hv
 case callv x as =>
  cases hc:x.get e<;>simp only[hc]at hv ⊢
  ·exact⟨hv.1,ai.mono hk hv.2⟩
  ·exact⟨hv.1,o7.mono hk hv.2⟩
 case mkf f a b=>exact hk _ _ hv
 case Ix kt=>exact fun n t=>hk _ _ (hv n t)
 case look kt x k z ok =>
  refine⟨hv.1,?_⟩
  have h2:=hv.2
  cases hx:x.get e<;>simp only[hx]at h2 ⊢
  rename_i n
  cases hn:h n<;>simp only[hn]at h2 ⊢
  exact⟨h2.1,hk _ _ h2.2⟩
 case mupd kt x k v =>
  refine⟨hv.1,hv.2.1,?_⟩
  have h2:=hv.2.2
  cases hx:x.get e<;>simp only[hx]at h2 ⊢
  rename_i n
  cases hn:h n<;>simp only[hn]at h2 ⊢
  exact⟨h2.1,hk _ _ h2.2⟩
 case mn x y =>
  cases hx:x.get e<;>simp only[hx]at hv ⊢
  cases hy:y.get e<;>simp only[hy]at hv ⊢
  exact⟨hv.1,hk _ _ hv.2⟩
 case mx x y =>
  cases hx:x.get e<;>simp only[hx]at hv ⊢
  cases hy:y.get e<;>simp only[hy]at hv ⊢
  exact⟨hv.1,hk _ _ hv.2⟩
 case mn3 x y z =>
  cases hx:x.get e<;>simp only[hx]at hv ⊢
  cases hy:y.get e<;>simp only[hy]at hv ⊢
  cases hz:z.get e<;>simp only[hz]at hv ⊢
  exact⟨hv.1,hv.2.1,hk _ _ hv.2.2⟩
 case mx3 x y z =>
  cases hx:x.get e<;>simp only[hx]at hv ⊢
  cases hy:y.get e<;>simp only[hy]at hv ⊢
  cases hz:z.get e<;>simp only[hz]at hv ⊢
  exact⟨hv.1,hv.2.1,hk _ _ hv.2.2⟩
theorem KC {neg:Bool}{x:Arg}{K:HKq}{e:LEnv}{h:Heap}(hv:vcOp P (.nilq neg x) K e h):vcOp P (.nilq neg x) (fun d h'=>K d h'/\h'=h) e h:=by
 simp only[vcOp]at hv ⊢
 split at hv
 ·exact⟨hv,trivial⟩
 ·exact⟨hv,trivial⟩
 ·exact⟨⟨hv.1,trivial⟩,hv.2,trivial⟩
 ·exact hv.elim
theorem Ip {op:AOp}(hp:op.plainVal=true) (hf:∀x o,op≠.fadd x o){K:HKq}{e:LEnv}{h:Heap}(hv:vcOp P op K e h):vcOp P op (fun d h'=>K d h'/\h'=h) e h:=by
 have hval:op.isVal=true:=by cases op<;>simp_all [AOp.plainVal,AOp.isVal]
 by_cases hq:∃b x,op=.nilq b x
 ·obtain⟨b,x,rfl⟩:=hq
  exact KC hv
 have hv':vcdOp P op (fun d=>K d h) e h:=by
  cases op<;>simp only[AOp.plainVal,AOp.isVal]at hp<;>first
   | (cases hp;done)
   | exact absurd rfl (hf _ _)
   | exact absurd ⟨_,_,rfl⟩ hq
   | exact hv
 obtain⟨d,h1,h2⟩:=mE hval hv'
 have r:=h2 h (by split;exact cD.zQ;exact fun n _=>rfl) (fun d=>K d h/\h=h) ⟨h1,rfl⟩
 cases op<;>simp only[AOp.plainVal,AOp.isVal]at hp<;>first
  | (cases hp;done)
  | exact absurd rfl (hf _ _)
  | exact absurd ⟨_,_,rfl⟩ hq
  | exact r
theorem KD {op:AOp}(ht:op.isTail=true){K:HKq}{e:LEnv}{h:Heap}(hv:vcOp P op K e h):vcOp P op (fun d h'=>K d h'/\if op.mut then cD h h' else Ext h h') e h:=by
 by_cases hp:op.plainVal=true/\∀x o,op≠.fadd x o
 ·refine mF ?_ (Ip hp.1 hp.2 hv)
  rintro d h' ⟨hk,rfl⟩
  refine⟨hk,?_⟩
  split
  ·exact cD.zQ
  ·exact fun n _=>rfl
 cases op<;>simp only[AOp.isTail]at ht<;>first|(cases ht;done)|(exfalso;apply hp;constructor;assumption;intro _ _ h;cases h;done)|skip
 case alloc z=>exact fun n hn=>⟨hv n hn,by simpa[AOp.mut] using nW hn.free _⟩
 case box x=>exact⟨hv.1,fun n hn=>⟨hv.2 n hn,by simpa[AOp.mut] using nW hn.free _⟩⟩
 case mov x=>exact⟨hv,by simp[AOp.mut,Ext]⟩
 case mk esz bytes zero l c =>
  simp only[vcOp]at hv ⊢
  obtain⟨i,h1,h2⟩:=jk hv
  refine h2 _ ?_
  obtain⟨j,g1,g2⟩:=jk h1
  refine g2 _ ?_
  obtain⟨a1,a2,a3,a4,a5⟩:=g1
  exact⟨a1,a2,a3,a4,fun n hn=>⟨a5 n hn,by simpa[AOp.mut] using nW hn.free _⟩⟩
 case Ix kt=>exact fun n hn=>⟨hv n hn,by simpa[AOp.mut] using nW hn.free _⟩
 case mupd kt x k v =>
  simp only[vcOp]at hv ⊢
  refine⟨hv.1,hv.2.1,?_⟩
  have h2:=hv.2.2
  cases hx:x.get e<;>simp only[hx]at h2 ⊢<;>try exact h2.elim
  rename_i n
  cases hn:h n<;>simp only[hn]at h2 ⊢<;>try exact h2.elim
  refine⟨h2.1,h2.2,?_⟩
  simp only[AOp.mut,if_true]
  exact cD.zQ.aD (by simp)
 case st x v size =>
  simp only[vcOp]at hv ⊢
  refine⟨hv.1,hv.2.1,?_⟩
  have hv:=hv.2.2
  cases hx:x.get e<;>simp only[hx]at hv ⊢<;>try exact hv.elim
  rename_i n i j
  cases hn:h n<;>simp only[hn]at hv ⊢<;>try exact hv.elim
  ·refine⟨hv.1,hv.2.1,hv.2.2,?_⟩
   simp only[AOp.mut,if_true]
   exact cD.zQ.aD (by simp)
  ·refine⟨hv.1,hv.2.1,fun d hd=>⟨hv.2.2 d hd,?_⟩⟩
   simp only[AOp.mut,if_true]
   exact cD.zQ.aD (by simp)
 case app s x esz bytes zero =>
  simp only[vcOp,velems]at hv ⊢
  have key:∀ys:List D,(match s.get e with
    | .nil=>(ys.length*bytes<=140737488355328/\ys.length<=9223372036854775807)/\∀n,pc h n->K (.ms n 0 ys.length) (aD h n (.arr esz ys))
    | .ms m off len=>∃els,AG h m esz els/\off+len=els.length/\((len+ys.length)*bytes<=140737488355328/\len+ys.length<=9223372036854775807) /\
      ∀n,pc h n->K (.ms n 0 (len+ys.length)) (aD (aD h m .dead) n (.arr esz (els.drop off++ys)))/\(off≠0->K (.ms n off (len+ys.length)) (aD (aD h m .dead) n (.arr esz (els++ys))))
    | _=>False)->(match s.get e with
    | .nil=>(ys.length*bytes<=140737488355328/\ys.length<=9223372036854775807)/\∀n,pc h n->(K (.ms n 0 ys.length) (aD h n (.arr esz ys))/\if(AOp.app s x esz bytes zero).mut then cD h (aD h n (.arr esz ys)) else Ext h (aD h n (.arr esz ys)))
    | .ms m off len=>∃els,AG h m esz els/\off+len=els.length/\((len+ys.length)*bytes<=140737488355328/\len+ys.length<=9223372036854775807) /\
      ∀n,pc h n->(K (.ms n 0 (len+ys.length)) (aD (aD h m .dead) n (.arr esz (els.drop off++ys)))/\if(AOp.app s x esz bytes zero).mut then cD h (aD (aD h m .dead) n (.arr esz (els.drop off++ys))) else Ext h (aD (aD h m .dead) n (.arr esz (els.drop off++ys)))) /\
       (off≠0->(K (.ms n off (len+ys.length)) (aD (aD h m .dead) n (.arr esz (els++ys)))/\if(AOp.app s x esz bytes zero).mut then cD h (aD (aD h m .dead) n (.arr esz (els++ys))) else Ext h (aD (aD h m .dead) n (.arr esz (els++ys)))))
    | _=>False):=by
   intro ys hv
   cases hs:s.get e<;>simp only[hs]at hv ⊢<;>try exact hv.elim
   ·exact⟨hv.1,fun n hn=>⟨hv.2 n hn,by simpa[AOp.mut] using (nW hn.free _).box⟩⟩
   ·rename_i m off len
    obtain⟨els,hm,a1,a3,a4⟩:=hv
    refine⟨els,hm,a1,a3,fun n hn=>⟨⟨(a4 n hn).1,?_⟩,fun h0=>⟨(a4 n hn).2 h0,?_⟩⟩⟩
    ·simp only[AOp.mut,if_true]
     exact(cD.zQ.aD (by simp)).aD (by simp)
    ·simp only[AOp.mut,if_true]
     exact(cD.zQ.aD (by simp)).aD (by simp)
  cases hx:x.get e<;>simp only[hx]at hv ⊢<;>try exact hv.elim
  ·exact⟨hv.1,key _ hv.2⟩
  ·exact⟨hv.1,hv.2.1,key _ hv.2.2⟩
  ·obtain⟨els,b1,b2,b3,b4⟩:=hv
   exact⟨els,b1,b2,b3,key _ b4⟩
 case Fi d s esz =>
  simp only[vcOp,velems]at hv ⊢
  have key:∀ys:List D,(match d.get e with
    | .ms m off len=>∃els,h m=.arr esz els/\off+len<=els.length/\K (.int .i64 (min ys.length len:Nat)) (aD h m (.arr esz (els.take off++ys.take len++els.drop (off+min ys.length len))))
    | _=>False)->(match d.get e with
    | .ms m off len=>∃els,h m=.arr esz els/\off+len<=els.length/\(K (.int .i64 (min ys.length len:Nat)) (aD h m (.arr esz (els.take off++ys.take len++els.drop (off+min ys.length len)))) /\
      if(AOp.Fi d s esz).mut then cD h (aD h m (.arr esz (els.take off++ys.take len++els.drop (off+min ys.length len)))) else Ext h (aD h m (.arr esz (els.take off++ys.take len++els.drop (off+min ys.length len)))))
    | _=>False):=by
   intro ys hv
   cases hs:d.get e<;>simp only[hs]at hv ⊢<;>try exact hv.elim
   rename_i m off len
   obtain⟨els,hm,a1,a2⟩:=hv
   refine⟨els,hm,a1,a2,?_⟩
   simp only[AOp.mut,if_true]
   exact cD.zQ.aD (by simp)
  cases hx:s.get e<;>simp only[hx]at hv ⊢<;>try exact hv.elim
  ·exact⟨hv.1,key _ hv.2⟩
  ·exact⟨hv.1,hv.2.1,key _ hv.2.2⟩
  ·obtain⟨els,b1,b2,b3,b4⟩:=hv
   exact⟨els,b1,b2,b3,key _ b4⟩
end Go.Am
namespace Go.Am
open Go
variable [bW]
variable {P:Program}{nt:Nat}
def cdOper (P:Program) (nt:Nat) (ops:Array Oper) (o:Oper):Option AOper :=
 if o.dst.all (· < nt) then
  match cdOp P o with
  | some op=>match o.guard with
   | none=>some ⟨o.dst,op,none⟩
   | some (j,want)=>match (ops[j]?).bind (·.dst) with
    | some s=>some ⟨o.dst,op,some (s,want)⟩
    | none=>none
  | none=>none
 else none
def IT (P:Program) (nt:Nat) (ops:Array Oper) (o:Oper):Option AOper :=
 match cOper P true nt ops o with
 | some a=>if a.op.isTail then some a else none
 | none=>none
structure Item (P:Program) (nt:Nat) (ops:Array Oper) (tail:Bool) (o:Oper) (a:AOper):Prop where
 dst:a.dst=o.dst
 dlt:∀j,o.dst=some j->j<nt
 op:if tail then cOp P true o=some a.op/\a.op.isTail=true else cdOp P o=some a.op
 gn:o.guard=none->a.guard=none
 gs:∀j want,o.guard=some (j,want)->∃s,(ops[j]?).bind (·.dst)=some s/\a.guard=some (s,want)
theorem ti {ops:Array Oper}{o:Oper}{a:AOper}(h:cdOper P nt ops o=some a):Item P nt ops false o a:=by
 unfold cdOper at h
 split at h
 case isFalse=>cases h
 rename_i hdst
 have hd:∀j,o.dst=some j->j<nt:=by intro j hj;rw[hj]at hdst;simpa using hdst
 cases hop:cdOp P o with
 | none=>simp[hop]at h
 | some op =>
  simp only[hop]at h
  cases hg:o.guard with
  | none=>simp[hg]at h;subst h;exact⟨rfl,hd,by simpa using hop,fun _=>rfl,fun j w hh=>by rw[hg]at hh;cases hh⟩
  | some p =>
   obtain⟨j,want⟩:=p
   simp only[hg]at h
   cases hj:(ops[j]?).bind (·.dst) with
   | none=>simp[hj]at h
   | some s=>simp[hj]at h;subst h;exact⟨rfl,hd,by simpa using hop,fun hh=>by rw[hg]at hh;(cases hh),fun j' w hh=>by rw[hg]at hh;cases hh;exact⟨s,hj,rfl⟩⟩
theorem Hz {ops:Array Oper}{o:Oper}{a:AOper}(h:IT P nt ops o=some a):Item P nt ops true o a:=by
 unfold IT at h
 cases hc:cOper P true nt ops o with
 | none=>simp[hc]at h
 | some a' =>
  simp only[hc]at h
  split at h
  case isFalse=>cases h
  rename_i ht
  simp at h;subst h
  unfold cOper at hc
  split at hc
  case isFalse=>cases hc
  rename_i hdst
  have hd:∀j,o.dst=some j->j<nt:=by intro j hj;rw[hj]at hdst;simpa using hdst
  cases hop:cOp P true o with
  | none=>simp[hop]at hc
  | some op =>
   simp only[hop]at hc
   cases hg:o.guard with
   | none=>simp[hg]at hc;subst hc;exact⟨rfl,hd,by simpa using ⟨hop,ht⟩,fun _=>rfl,fun j w hh=>by rw[hg]at hh;cases hh⟩
   | some p =>
    obtain⟨j,want⟩:=p
    simp only[hg]at hc
    cases hj:(ops[j]?).bind (·.dst) with
    | none=>simp[hj]at hc
    | some s=>simp[hj]at hc;subst hc;exact⟨rfl,hd,by simpa using ⟨hop,ht⟩,fun hh=>by rw[hg]at hh;(cases hh),fun j' w hh=>by rw[hg]at hh;cases hh;exact⟨s,hj,rfl⟩⟩
structure Cm (P:Program) (nt:Nat) (ops:Array Oper) (items:List AOper) (masks:List Nat) (tl:List Nat) (rev:List AOper) (tw:Bool):Prop where
 len:items.length=ops.size
 item:∀(i:Nat) (o:Oper) (a:AOper),ops[i]?=some o->items[i]?=some a->Item P nt ops (tl.contains i) o a
 edge:∀(i:Nat) (o:Oper),ops[i]?=some o->∀e∈o.after.toList,Region.binds .any e=true->e.on<i
 mask:∀(i:Nat) (o:Oper),ops[i]?=some o->∀k,(masks.getD i 0).testBit k=true->∃e,e∈o.after.toList/\Region.binds .any e=true/\(k=e.on\/(masks.getD e.on 0).testBit k=true)
 tlt:∀i∈tl,i<ops.size
 tord:∀l k i i':Nat,tl[l]?=some i->tl[k]?=some i'->l<k->(tw=true/\l=0/\k=1)\/(masks.getD i' 0).testBit i=true
 rdv:∀(i k:Nat) (a b:AOper),items[i]?=some a->items[k]?=some b->i∉tl->∀s,a.dst=some s->(i≠k->b.dst≠some s)/\(s∈b.rd->i<k/\(masks.getD k 0).testBit i=true)
 rdt:∀(i k:Nat) (a b:AOper),items[i]?=some a->items[k]?=some b->i∈tl->k∉tl->∀s,a.dst=some s->s∈b.rd->(masks.getD i 0).testBit k=true
 mt:∀(i k:Nat) (a b:AOper),items[i]?=some a->items[k]?=some b->i∈tl->k∉tl->a.op.mut=true->b.op.stable=false->(masks.getD i 0).testBit k=true\/b∈rev
 rev:∀b∈rev,b.guard=none/\b.op.isVal=true/\b.dst.isSome=true
def cA (listed:Array Bool) (i:Nat):Bool:=listed.getD i true
structure J (P:Program) (nt:Nat) (ops:Array Oper) (items:List AOper) (masks tl:List Nat) (rev:List AOper) (tw:Bool) (c₀:Ctx) (w₀:World) (K:LEnv->Heap->Prop) (listed:Array Bool) (a:Act) (w:World):Prop where
 size:listed.size=ops.size
 dc:∀i k,i<ops.size->cA listed i=true->(masks.getD i 0).testBit k=true->cA listed k=true
 st:∃(ρ:Nat->Option Nat) (h:Heap) (e:LEnv) (j:Nat),c₀.le ⟨ρ,c₀.X,h,w.heap⟩/\av ⟨ρ,c₀.X,h,w.heap⟩/\WS w₀ w/\fO ⟨ρ,c₀.X,h,w.heap⟩ a.defers/\a.tmps.size=nt /\
  (j<=tl.length/\(tw=true->2<=j))/\eW P rev ((tl.drop j).filterMap (fun i=>items[i]?)) K e h /\
  (∀l i,tl[l]?=some i->(cA listed i=true↔l<j)) /\
  (∀s,(∃i b,items[i]?=some b/\i∉tl/\cA listed i=false/\b.dst=some s)\/aB ⟨ρ,c₀.X,h,w.heap⟩ (e.get s) (a.tmps.getD s Go.undef)) /\
  (∀i b,items[i]?=some b->i∉tl->cA listed i=false->cr P b e h)
theorem Dy (l:List Nat) (f:Nat->D) (i:Nat):LEnv.get (l.map fun k=>(k,f k)) i=if i∈l then f i else .undef:=by
 induction l with
 | nil=>rfl
 | cons k r ih =>
  simp only[List.map_cons,LEnv.get,List.mem_cons]
  by_cases h:i=k
  ·subst h;simp
  ·rw[if_neg h,ih];simp[h]
theorem Ii {r:Option Nat}{ops:Array Oper}{Q Q':Exit->Act->World->Prop}(hq:∀e,e≠.normal->Q e=Q' e){i:Nat}{K:Act->World->Prop}{a:Act}{w:World}(h:wpOpIn (rF r) 0 P ops Q i K a w):wpOpIn (rF r) 0 P ops Q' i K a w:=by
  have hl:LetsOut Q=LetsOut Q':=by unfold LetsOut;rw[hq .outgrown (by simp)]
  unfold wpOpIn at h ⊢
  cases ho:ops[i]? with
  | none=>simpa[ho] using h
  | some o =>
    simp only[ho]at h ⊢
    split
    · rename_i hw
      rw[if_pos hw]at h
      unfold Oper.wpIn at h ⊢
      refine⟨h.1,?_⟩
      have h:=h.2
      generalize (o.semAt (rF r).round a.eval).run P w=res at h ⊢
      cases res with
      | ok n w' =>
        cases n<;>simp only[Oper.uponIn]at h ⊢<;>first
          | exact h
          | (refine⟨h.1,CallsIn.mono h.2 (fun e w'' he=>?_)⟩
             cases e
             · exact he
             · rename_i ch;show Q' (.panic ch) a w'';rw[<- hq (.panic ch) (by simp)];exact he
             · show LetsOut Q';rw[<- hl];exact he)
          | (refine⟨h.1,RoundIn.mono h.2 (fun e w'' he=>?_)⟩
             cases e
             · exact he
             · rename_i ch;show Q' (.panic ch) a w'';rw[<- hq (.panic ch) (by simp)];exact he
             · show LetsOut Q';rw[<- hl];exact he)
      | halt x w' =>
        cases x<;>simp only[Oper.uponIn]at h ⊢<;>first
          | exact h
          | (rw[<- hq (.panic _) (by simp)];exact h)
    · rename_i hw
      rw[if_neg hw]at h
      exact h
theorem Dc {ops:Array Oper}{i:Nat}{Kenv:Env->Heap->Prop}{t:Env}{c:Ctx}{w:World}{a:Act}{Q:Exit->Act->World->Prop}{K':Act->World->Prop}{r:Option Nat}
  (hx:pG P nt ops [i] Kenv t c.h) (hp:c.hp=w.heap) (hr:av c) (hs:ot c nt t a) (hk:∀a' w',Fin c w nt Kenv a' w'->K' a' w'):wpOpIn (rF r) 0 P ops Q i K' a w:=by
 let Q2:Exit->Act->World->Prop:=fun e=>match e with|.normal=>K'|e=>Q e
 have:=hx r c w a Q2 rfl hp hr hs hk
 rw[wpOpsIn_cons]at this
 refine Ii (Q:=Q2) (fun e he=>?_) this
 cases e<;>first|exact absurd rfl he|rfl
end Go.Am
namespace Go.Am
open Go
variable [bW]
variable {P:Program}{nt:Nat}
theorem dk {listed:Array Bool}{i k:Nat}(hi:i<listed.size):cA (listed.setIfInBounds i true) k=if k=i then true else cA listed k:=by
 unfold cA
 by_cases h:k=i
 ·subst h;simp[Array.getD,hi]
 ·rw[if_neg h]
  have:i≠k:=fun e=>h e.symm
  by_cases hk:k<listed.size
  ·simp[Array.getD,hk,this]
  ·simp[Array.getD,hk]
theorem JU {ops:Array Oper}{items:List AOper}{masks tl:List Nat}{rev:List AOper}{tw:Bool}(Dk:Cm P nt ops items masks tl rev tw):∀(i:Nat),i<ops.size->∀k,(masks.getD i 0).testBit k=true->k<i:=by
 intro i
 induction i using Nat.strongRecOn with
 | _ i ih =>
  intro hi k hk
  have ho:ops[i]?=some ops[i]:=by simp[hi]
  obtain⟨e,he,hb,hc⟩:=Dk.mask i _ ho k hk
  have hlt:=Dk.edge i _ ho e he hb
  rcases hc with h|h
  ·omega
  ·have:=ih e.on hlt (by omega) k h
   omega
structure SN (ops:Array Oper) (masks:List Nat) (listed:Array Bool) (i:Nat):Prop where
 lt:i<ops.size
 un:cA listed i=false
 anc:∀k,(masks.getD i 0).testBit k=true->cA listed k=true
theorem Da {ops:Array Oper}{listed:Array Bool}{i:Nat}(h:i∈Region.ready .any ops listed):i<ops.size/\cA listed i=false/\∀o,ops[i]?=some o->∀e∈o.after.toList,Region.binds .any e=true->listed.getD e.on false=true:=by
 unfold Region.ready at h
 simp only[List.mem_filter,List.mem_range,Bool.and_eq_true,Bool.not_eq_true']at h
 obtain⟨h1,h2,h3⟩:=h
 refine⟨h1,h2,fun o ho e he hb=>?_⟩
 rw[ho]at h3
 simp only[Option.map_some,Option.getD_some,Array.all_eq_true']at h3
 have:=h3 e (by simpa using he)
 simpa[hb] using this
theorem Ct {ops:Array Oper}{items:List AOper}{masks tl:List Nat}{rev:List AOper}{tw:Bool}(Dk:Cm P nt ops items masks tl rev tw){listed:Array Bool}
  (hsz:listed.size=ops.size) (hdc:∀i k,i<ops.size->cA listed i=true->(masks.getD i 0).testBit k=true->cA listed k=true) {i:Nat}(hi:i∈Region.ready .any ops listed):SN ops masks listed i:=by
 obtain⟨h1,h2,h3⟩:=Da hi
 refine⟨h1,h2,fun k hk=>?_⟩
 have ho:ops[i]?=some ops[i]:=by simp[h1]
 obtain⟨e,he,hb,hc⟩:=Dk.mask i _ ho k hk
 have hon:=Dk.edge i _ ho e he hb
 have hl:cA listed e.on=true:=by
  have:=h3 _ ho e he hb
  unfold cA
  have hsz:e.on<listed.size:=by rw[hsz];omega
  simpa[Array.getD,hsz] using this
 rcases hc with rfl|h
 ·exact hl
 ·exact hdc e.on k (by omega) hl h
theorem Rx {ops:Array Oper}{items:List AOper}{masks tl:List Nat}{rev:List AOper}{tw:Bool}(Dk:Cm P nt ops items masks tl rev tw){c₀:Ctx}{w₀:World}{K:LEnv->Heap->Prop}{listed:Array Bool}{a:Act}{w:World}
  (hJ:J P nt ops items masks tl rev tw c₀ w₀ K listed a w) {i:Nat}(hi:i∈Region.ready .any ops listed):SN ops masks listed i :=
 Ct Dk hJ.size hJ.dc hi
theorem uk:∀{rev:List AOper},(∀b∈rev,b.guard=none/\b.op.isVal=true)->∀{e:LEnv}{h:Heap},AR P rev e h->∀b∈rev,b.dst.isSome=true->cr P b e h
 | [],_,_,_,_,b,hb,_=>by simp at hb
 | x::r,hrev,e,h,hv,b,hb,hds=>by
  rcases List.mem_cons.1 hb with rfl|hb
  ·obtain⟨g1,g2⟩:=hrev b (by simp)
   have hv1:=hv.1
   cases hd:b.dst with
   | none=>rw[hd]at hds;cases hds
   | some s =>
    rw[hd]at hv1
    simp only[CI]at hv1
    obtain⟨d',hk,hdet⟩:=mE g2 hv1
    have hk':d'=e.get s:=by
     have:[d']=[e.get s]:=hk
     simpa using this
    refine⟨e.get s,fun s' hs'=>by rw[hd]at hs';cases hs';rfl,?_⟩
    rw[g1]
    intro K' hK
    exact hdet h (by split;exact cD.zQ;exact fun n _=>rfl) K' (hk' ▸ hK)
  ·exact uk (fun b hb=>hrev b (by simp[hb])) hv.2 b hb hds
open Classical in
theorem Ot {ops:Array Oper}{items:List AOper}{masks tl:List Nat}{rev:List AOper}{tw:Bool}(Dk:Cm P nt ops items masks tl rev tw){c₀:Ctx}{w₀:World}{K:LEnv->Heap->Prop}{listed:Array Bool}{a:Act}{w:World}{Q:Exit->Act->World->Prop}{r:Option Nat}
  (hJ:J P nt ops items masks tl rev tw c₀ w₀ K listed a w) {i:Nat}(hi:i∈Region.ready .any ops listed) :
  wpOpIn (rF r) 0 P ops Q i (J P nt ops items masks tl rev tw c₀ w₀ K (listed.setIfInBounds i true)) a w:=by
 have R:=Rx Dk hJ hi
 have hil:i<listed.size:=by rw[hJ.size];exact R.lt
 have hset:=fun k=>dk (k:=k) hil
 obtain⟨o,ho⟩:∃o,ops[i]?=some o:=⟨ops[i]'R.lt,by simp[R.lt]⟩
 have hitl:i<items.length:=by rw[Dk.len];exact R.lt
 obtain⟨a0,hai⟩:∃x,items[i]?=some x:=⟨items[i]'hitl,by simp[hitl]⟩
 have It:=Dk.item i o a0 ho hai
 obtain⟨ρ,h,e,j,hle,hr,hws,hdef,hsz,hj,htail,hprog,hrel,hval⟩:=hJ.st
 let c:Ctx:=⟨ρ,c₀.X,h,w.heap⟩
 let pend:Nat->Prop:=fun s=>∃k b,items[k]?=some b/\k∉tl/\cA listed k=false/\b.dst=some s
 let ef:LEnv:=(a0.rd++List.range nt).map fun s=>(s,if pend s then D.undef else e.get s)
 have efget:∀s,ef.get s=if s∈a0.rd++List.range nt then(if pend s then .undef else e.get s) else .undef:=fun s=>Dy _ _ s
 have hsim:ot c nt ef.get a:=by
  refine⟨hr.glob,hr.lo,hdef,hsz,fun s=>?_⟩
  rw[efget]
  split
  ·split
   ·exact .undef _
   ·rename_i hp
    exact(hrel s).resolve_left hp
  ·exact .undef _
 have hread:∀r∈a0.rd,ef.get r=e.get r:=by
  intro r hr'
  rw[efget,if_pos (by simp[hr']),if_neg]
  rintro⟨k,b,hb,hk,hun,hd⟩
  obtain⟨_,hm⟩:=(Dk.rdv k i b a0 hb hai hk r hd).2 hr'
  have:=R.anc k hm
  rw[hun]at this
  cases this
 have hread':∀r∈a0.op.reads,e.get r=ef.get r:=fun r hr'=>(hread r (by simp[AOper.rd,hr'])).symm
 have dc':∀i' k,i'<ops.size->cA (listed.setIfInBounds i true) i'=true->(masks.getD i' 0).testBit k=true->cA (listed.setIfInBounds i true) k=true:=by
  intro i' k hi' hl hm
  rw[hset]at hl ⊢
  split
  ·rfl
  ·by_cases h:i'=i
   ·subst h;exact R.anc k hm
   ·rw[if_neg h]at hl;exact hJ.dc i' k hi' hl hm
 have keep:∀{ρ':Nat->Option Nat}{h':Heap}{t':Env}{a':Act}{w':World}{d:D},c.le ⟨ρ',c.X,h',w'.heap⟩->ot ⟨ρ',c.X,h',w'.heap⟩ nt t' a'->t'=(ef.put o.dst d).get->∀s,o.dst≠some s->¬pend s->aB ⟨ρ',c.X,h',w'.heap⟩ (e.get s) (a'.tmps.getD s Go.undef):=by
  intro ρ' h' t' a' w' d hle' hs' ht s hs hp
  by_cases hsn:s<nt
  ·have:=hs'.rel s
   rw[ht,LEnv.bf]at this
   have e1:Env.put ef.get o.dst d s=e.get s:=by
    have:Env.put ef.get o.dst d s=ef.get s:=by
     cases hd:o.dst with
     | none=>rfl
     | some x =>
      have:s≠x:=by rintro rfl;exact hs hd
      simp[Env.put,aD,this]
    rw[this,efget,if_pos (by simp[hsn]),if_neg hp]
   rw[e1]at this
   exact this
  ·have h1:=(hrel s).resolve_left hp
   have e1:a.tmps.getD s Go.undef=Go.undef:=by simp[Array.getD,hsz,hsn]
   have e2:a'.tmps.getD s Go.undef=Go.undef:=by simp[Array.getD,hs'.size,hsn]
   rw[e1]at h1
   rw[e2]
   exact h1.mono hle'
 by_cases htl:i∈tl
 ·
  obtain⟨l,hl⟩:=aO htl
  have hlj:l=j:=by
   have h1:¬l<j:=by
    intro hlt
    have:=(hprog l i hl).2 hlt
    rw[R.un]at this
    cases this
   rcases Nat.lt_or_ge j l with hgt|hge
   ·have hjl:j<tl.length:=Nat.lt_trans hgt (ah.1 hl).1
    rcases Dk.tord j l tl[j] i (by simp[hjl]) hl hgt with⟨t1,t2,t3⟩|hpw
    ·have:=hj.2 t1;omega
    have:=(hprog j tl[j] (by simp[hjl])).1 (R.anc _ hpw)
    omega
   ·omega
  subst hlj
  have hlt:=(ah.1 hl).1
  have hli:tl[l]=i:=(ah.1 hl).2
  have hdrop:(tl.drop l).filterMap (fun k=>items[k]?)=a0::(tl.drop (l+1)).filterMap (fun k=>items[k]?):=by
   rw[List.drop_eq_getElem_cons hlt,hli,List.filterMap_cons,hai]
  rw[hdrop]at htail
  let rest:=(tl.drop (l+1)).filterMap (fun k=>items[k]?)
  let HR:Heap->Prop:=fun h'=>if a0.op.mut then cD h h' else Ext h h'
  have hrefl:HR h:=by
   simp only[HR]
   split
   ·exact cD.zQ
   ·exact fun n _=>rfl
  have hop:cOp P true o=some a0.op/\a0.op.isTail=true:=by have:=It.op;rw[if_pos (by simpa using htl)]at this;exact this
  have hnod:=nY hop.1
  let Kenv:Env->Heap->Prop:=fun t' h'=>∃d,t'=(ef.put o.dst d).get/\(AR P rev (e.put a0.dst d) h'/\eW P rev rest K (e.put a0.dst d) h')/\HR h'
  have run:vcOp P a0.op (fun d h'=>AR P rev (e.put a0.dst d) h'/\eW P rev rest K (e.put a0.dst d) h') e h->Ft P nt o (pG P nt ops [] Kenv) ef.get h:=by
   intro hv
   have:=pE (nt:=nt) hop.1 It.dlt _ ef h (wI hread' _ h (KD hop.2 hv))
   refine gu ?_ this
   rintro t' h' ⟨d,rfl,hk⟩
   exact fu ⟨d,rfl,hk.1,hk.2⟩
  have hx:pG P nt ops [i] Kenv ef.get h:=by
   refine gH ho hnod a0.guard (fun j' want hg=>by obtain⟨s,h1,h2⟩:=It.gs j' want hg;exact⟨s,h1,h2⟩) It.gn It.dlt ?_
   simp only[eW,fW,vguard]at htail
   cases hg:a0.guard with
   | none=>simp only[hg]at htail;exact run htail
   | some p =>
    obtain⟨g,want⟩:=p
    simp only[hg]at htail
    cases hb:gv (e.get g)<;>simp only[hb]at htail<;>try exact htail.elim
    rename_i b
    refine⟨b,by rw[hread g (by simp[AOper.rd,hg])];exact hb,fun hbw=>run (htail.1 hbw),fun hbw=>?_⟩
    exact fu ⟨gU,by rw[LEnv.bf],htail.2 hbw,hrefl⟩
  refine Dc (c:=c) hx rfl hr hsim ?_
  rintro a' w' ⟨ρ',t',h',k1,k2,k3,k4,d,ht,hk,hhr⟩
  have hput:∀s,a0.dst≠some s->(e.put a0.dst d).get s=e.get s:=by
   intro s hs
   rw[LEnv.bf]
   cases hd:a0.dst with
   | none=>rfl
   | some x =>
    have:s≠x:=by rintro rfl;exact hs hd
    simp[Env.put,aD,this]
  refine⟨by simp[hJ.size],dc',ρ',h',e.put a0.dst d,l+1,hle.trans k1,k2,hws.trans k3,k4.defers,k4.size,⟨by omega,fun t=>by have:=hj.2 t;omega⟩,hk.2,fun l' i' hl'=>?_,fun s=>?_,fun k b hb hk' hun=>?_⟩
  ·rw[hset]
   by_cases hii:i'=i
   ·subst hii
    rw[if_pos rfl]
    have hl'lt:=(ah.1 hl').1
    have hl'i:tl[l']=i':=(ah.1 hl').2
    have:l'=l:=by
     rcases Nat.lt_trichotomy l' l with h1|h1|h1
     ·rcases Dk.tord l' l i' i' hl' hl h1 with⟨t1,t2,t3⟩|hpw
      ·have:=hj.2 t1;omega
      have:=JU Dk i' R.lt i' hpw
      omega
     ·exact h1
     ·rcases Dk.tord l l' i' i' hl hl' h1 with⟨t1,t2,t3⟩|hpw
      ·have:=hj.2 t1;omega
      have:=JU Dk i' R.lt i' hpw
      omega
    simp[this]
   ·rw[if_neg hii,hprog l' i' hl']
    have:l'≠l:=by rintro rfl;rw[hl]at hl';cases hl';exact hii rfl
    omega
  ·by_cases hs:a0.dst=some s
   ·right
    have:=k4.rel s
    rw[ht,LEnv.bf, <- It.dst,hs]at this
    rw[LEnv.bf,hs]
    simpa[Env.put,aD] using this
   ·rw[hput s hs]
    by_cases hp:pend s
    ·left
     obtain⟨k,b,hb,hk',hun,hd⟩:=hp
     refine⟨k,b,hb,hk',?_,hd⟩
     rw[hset,if_neg (by rintro rfl;exact hk' htl)]
     exact hun
    ·right
     exact keep k1 k4 ht s (by rw[<- It.dst];exact hs) hp
  ·rw[hset]at hun
   split at hun
   ·cases hun
   ·rename_i hki
    have v0:=hval k b hb hk' hun
    have hnanc:(masks.getD i 0).testBit k≠true:=by
     intro hm
     have:=R.anc k hm
     rw[hun]at this
     cases this
    have ob:∃ok,ops[k]?=some ok:=by
     have:k<ops.size:=by rw[<- Dk.len];exact(ah.1 hb).1
     exact⟨ops[k],by simp[this]⟩
    obtain⟨ok,hok⟩:=ob
    have Ib:=Dk.item k ok b hok hb
    have hopb:cdOp P ok=some b.op:=by have:=Ib.op;rw[if_neg (by simpa using hk')]at this;exact this
    by_cases hrv:b∈rev
    ·exact uk (fun b hb=>⟨(Dk.rev b hb).1,(Dk.rev b hb).2.1⟩) hk.1 b hrv (Dk.rev b hrv).2.2
    refine cr.congr (e:=e) (fun r hr'=>?_) (fun s hs=>?_) (v0.ext (gq hopb) ?_)
    ·rw[hput r]
     intro hd
     exact hnanc (Dk.rdt i k a0 b hai hb htl hk' r hd hr')
    ·exact hput s ((Dk.rdv k i b a0 hb hai hk' s hs).1 hki)
    ·simp only[HR]at hhr
     by_cases hm:a0.op.mut=true
     ·rw[if_pos hm]at hhr
      by_cases hst:b.op.stable=true
      ·rw[if_pos hst];exact hhr
      ·exact absurd ((Dk.mt i k a0 b hai hb htl hk' hm (by simpa using hst)).resolve_right hrv) hnanc
     ·rw[if_neg hm]at hhr
      split
      ·exact hhr.box
      ·exact hhr
 ·
  obtain⟨d,hd1,hd2⟩:=hval i a0 hai htl R.un
  have hop:cdOp P o=some a0.op:=by have:=It.op;rw[if_neg (by simpa using htl)]at this;exact this
  have hnod:=qF hop
  let Kenv:Env->Heap->Prop:=fun t' h'=>t'=(ef.put o.dst d).get/\h'=h
  have run:(∀K':D->Prop,K' d->vcdOp P a0.op K' e h)->Ft P nt o (pG P nt ops [] Kenv) ef.get h:=by
   intro hv
   have:=xn (nt:=nt) hop It.dlt (gj hread' (· = d) h (hv (· = d) rfl))
   refine gu ?_ this
   rintro t' h' ⟨d',rfl,rfl,rfl⟩
   exact fu ⟨rfl,rfl⟩
  have hx:pG P nt ops [i] Kenv ef.get h:=by
   refine gH ho hnod a0.guard (fun j' want hg=>by obtain⟨s,h1,h2⟩:=It.gs j' want hg;exact⟨s,h1,h2⟩) It.gn It.dlt ?_
   cases hg:a0.guard with
   | none=>rw[hg]at hd2;exact run hd2
   | some p =>
    obtain⟨g,want⟩:=p
    rw[hg]at hd2
    obtain⟨b,q1,q2,q3⟩:=hd2
    refine⟨b,by rw[hread g (by simp[AOper.rd,hg])];exact q1,fun hbw=>run (q2 hbw),fun hbw=>?_⟩
    exact fu ⟨by rw[LEnv.bf,q3 hbw],rfl⟩
  refine Dc (c:=c) hx rfl hr hsim ?_
  rintro a' w' ⟨ρ',t',h',k1,k2,k3,k4,ht,rfl⟩
  refine⟨by simp[hJ.size],dc',ρ',h',e,j,hle.trans k1,k2,hws.trans k3,k4.defers,k4.size,hj,htail,fun l' i' hl'=>?_,fun s=>?_,fun k b hb hk' hun=>?_⟩
  ·rw[hset,if_neg (by rintro rfl;exact htl (ak hl'))]
   exact hprog l' i' hl'
  ·by_cases hs:a0.dst=some s
   ·right
    have:=k4.rel s
    rw[ht,LEnv.bf, <- It.dst,hs]at this
    rw[hd1 s hs]
    simpa[Env.put,aD] using this
   ·by_cases hp:pend s
    ·left
     obtain⟨k,b,hb,hk',hun,hd⟩:=hp
     refine⟨k,b,hb,hk',?_,hd⟩
     rw[hset,if_neg (by rintro rfl;rw[hai]at hb;cases hb;exact hs hd)]
     exact hun
    ·right
     exact keep k1 k4 ht s (by rw[<- It.dst];exact hs) hp
  ·rw[hset]at hun
   split at hun
   ·cases hun
   ·exact hval k b hb hk' hun
end Go.Am
namespace Go.Am
open Go
variable [bW]
variable {P:Program}{nt:Nat}
theorem H2 {o:Oper}{t:TypeId}{zd:D}(ho:o.op=.alloc t) (hz:dP P t=some zd) (hd:∀i,o.dst=some i->i<nt){n:Nat}{e:LEnv}{h:Heap}(hn:h n=.free) :
  Ft P nt o (fun t' h'=>t'=(e.put o.dst (.ptr n 0 0)).get/\h'=aD h n (.box zd)) e.get h:=by
 obtain⟨z,hz1,hz2⟩:=fJ hz
 have key:fv P nt o (.alloc zd)->True:=fun _=>trivial
 have gen:Ft P nt o (fun t' h'=>∃d,t'=(e.put o.dst d).get/\(d=.ptr n 0 0/\h'=aD h n (.box zd))) e.get h:=by
  intro hnd r c w a Q hh hp hr hs
  subst hh
  have hrun:(execOp a.eval o).run P w=.ok (.value (.pointer (some ⟨w.heap.size,0,none⟩))) (w.alloc (.cells z.cells t)):=by
   simp[execOp,ho,Instr.alloc,bG hz1,newVar,cf]
  have hst:=iu.new hn (s:=.box zd) trivial (.cells z.cells t) (hp':=(w.alloc (.cells z.cells t)).heap) (by rw[hp];rfl)
  have h1:cM ⟨aD c.ρ n (some c.hp.size),c.X,aD c.h n (.box zd),(w.alloc (.cells z.cells t)).heap⟩ n (.box zd) :=
   DL (hp:=w.heap) rfl (by rw[<- hp];simp[aD]) (cW (gC hz2 _) (fG hz2))
  have h2:aB ⟨aD c.ρ n (some c.hp.size),c.X,aD c.h n (.box zd),(w.alloc (.cells z.cells t)).heap⟩ (.ptr n 0 0) (.pointer (some ⟨w.heap.size,0,none⟩)) :=
   .ptrBox n 0 _ zd (by simp[aD]) (by rw[<- hp];simp[aD])
  refine iC hnd hrun ?_
  refine⟨_,(e.put o.dst (.ptr n 0 0)).get,_,hst.le,hst.heap hr (by simpa[aD] using h1),⟨rfl,rfl,rfl⟩,?_,.ptr n 0 0,rfl,rfl,rfl⟩
  rw[LEnv.bf]
  exact(hs.mono hst.le).put hd h2
 refine gu ?_ gen
 rintro t' h' ⟨d,rfl,rfl,rfl⟩
 exact⟨rfl,rfl⟩
open Classical in
theorem zV {ops:Array Oper}{items:List AOper}{masks tl:List Nat}{X:XT}{ρ:Nat->Option Nat}{h:Heap}{e:LEnv}{a:Act}{w:World}{Q:Exit->Act->World->Prop}{r:Option Nat}{K':Act->World->Prop}{pend:Nat->Prop}
  (hr:av ⟨ρ,X,h,w.heap⟩) (hdef:fO ⟨ρ,X,h,w.heap⟩ a.defers) (hsz:a.tmps.size=nt) (hrel:∀s,pend s\/aB ⟨ρ,X,h,w.heap⟩ (e.get s) (a.tmps.getD s Go.undef))
  {i:Nat}{o:Oper}(rd:List Nat) (hrd:∀s∈rd,¬pend s) {d:D}{h':Heap}(hdst:∀s,o.dst=some s->e.get s=d)
  (run:∀ef:LEnv,(∀s∈rd,ef.get s=e.get s)->pG P nt ops [i] (fun t' h''=>t'=(ef.put o.dst d).get/\h''=h') ef.get h)
  (hk:∀a' w' ρ',Ctx.le ⟨ρ,X,h,w.heap⟩ ⟨ρ',X,h',w'.heap⟩->av ⟨ρ',X,h',w'.heap⟩->WS w w'->fO ⟨ρ',X,h',w'.heap⟩ a'.defers->a'.tmps.size=nt ->
   (∀s,(pend s/\o.dst≠some s)\/aB ⟨ρ',X,h',w'.heap⟩ (e.get s) (a'.tmps.getD s Go.undef))->K' a' w'):wpOpIn (rF r) 0 P ops Q i K' a w:=by
 let c:Ctx:=⟨ρ,X,h,w.heap⟩
 let ef:LEnv:=(rd++List.range nt).map fun s=>(s,if pend s then D.undef else e.get s)
 have efget:∀s,ef.get s=if s∈rd++List.range nt then(if pend s then .undef else e.get s) else .undef:=fun s=>Dy _ _ s
 have hsim:ot c nt ef.get a:=by
  refine⟨hr.glob,hr.lo,hdef,hsz,fun s=>?_⟩
  rw[efget]
  split
  ·split
   ·exact .undef _
   ·rename_i hp
    exact(hrel s).resolve_left hp
  ·exact .undef _
 have hread:∀s∈rd,ef.get s=e.get s:=by
  intro s hs
  rw[efget,if_pos (by simp[hs]),if_neg (hrd s hs)]
 refine Dc (c:=c) (run ef hread) rfl hr hsim ?_
 rintro a' w' ⟨ρ',t',h2,k1,k2,k3,k4,ht,rfl⟩
 refine hk a' w' ρ' k1 k2 k3 k4.defers k4.size fun s=>?_
 by_cases hs:o.dst=some s
 ·right
  have:=k4.rel s
  rw[ht,LEnv.bf,hs]at this
  rw[hdst s hs]
  simpa[Env.put,aD] using this
 ·by_cases hp:pend s
  ·exact Or.inl ⟨hp,hs⟩
  ·right
   by_cases hsn:s<nt
   ·have:=k4.rel s
    rw[ht,LEnv.bf]at this
    have e1:Env.put ef.get o.dst d s=e.get s:=by
     have:Env.put ef.get o.dst d s=ef.get s:=by
      cases hd:o.dst with
      | none=>rfl
      | some x =>
       have:s≠x:=by rintro rfl;exact hs hd
       simp[Env.put,aD,this]
     rw[this,efget,if_pos (by simp[hsn]),if_neg hp]
    rw[e1]at this
    exact this
   ·have h1:=(hrel s).resolve_left hp
    have e1:a.tmps.getD s Go.undef=Go.undef:=by simp[Array.getD,hsz,hsn]
    have e2:a'.tmps.getD s Go.undef=Go.undef:=by simp[Array.getD,k4.size,hsn]
    rw[e1]at h1
    rw[e2]
    exact h1.mono k1
def hS (h0:Heap) (N:Nat) (za zb:D) (A B:Bool):Heap:=fun n=>if n=N then(if A then .box za else .free) else if n=N+1 then(if B then .box zb else .free) else h0 n
theorem RX {h0:Heap}{N:Nat}{za zb:D}{B:Bool}:aD (hS h0 N za zb false B) N (.box za)=hS h0 N za zb true B:=by
 funext n
 unfold aD hS
 by_cases h:n=N<;>simp[h]
theorem RW {h0:Heap}{N:Nat}{za zb:D}{A:Bool}:aD (hS h0 N za zb A false) (N+1) (.box zb)=hS h0 N za zb A true:=by
 funext n
 unfold aD hS
 by_cases h:n=N
 ·subst h;simp
 ·by_cases h1:n=N+1<;>simp[h,h1]
theorem TM {h0:Heap}{N:Nat}{za zb:D}(h1:h0 N=.free) (h2:h0 (N+1)=.free):hS h0 N za zb false false=h0:=by
 funext n
 unfold hS
 by_cases h:n=N
 ·subst h;simp[h1]
 ·by_cases h1:n=N+1
  ·subst h1;simp[h2]
  ·simp[h,h1]
theorem Vh {h0:Heap}{N:Nat}{za zb:D}(h1:h0 N=.free) (h2:h0 (N+1)=.free):hS h0 N za zb true true=aD (aD h0 N (.box za)) (N+1) (.box zb):=by
 rw[<- RW, <- RX,TM h1 h2]
structure VG (P:Program) (nt:Nat) (ops:Array Oper) (items:List AOper) (masks tl:List Nat) (ia ib:Nat) (r:List Nat) (sa sb:Nat) (za zb:D):Prop where
 etl:tl=ia::ib::r
 nd:ia≠ib/\ia∉r/\ib∉r
 oa:∃o t,ops[ia]?=some o/\o.op=.alloc t/\dP P t=some za/\o.dst=some sa/\o.guard=none
 ob:∃o t,ops[ib]?=some o/\o.op=.alloc t/\dP P t=some zb/\o.dst=some sb/\o.guard=none
 ne:sa≠sb
 anc:∀k∈r,(masks.getD k 0).testBit ia=true/\(masks.getD k 0).testBit ib=true
 vals:∀(k:Nat) (b:AOper),items[k]?=some b->k∉tl->sa∉b.rd/\sb∉b.rd/\b.dst≠some sa/\b.dst≠some sb
 lt:sa<nt/\sb<nt
structure J1 (P:Program) (nt:Nat) (ops:Array Oper) (items:List AOper) (masks tl:List Nat) (rev:List AOper) (ia ib:Nat) (r:List Nat) (sa sb:Nat) (za zb:D) (c₀:Ctx) (w₀:World) (K:LEnv->Heap->Prop) (listed:Array Bool) (a:Act) (w:World):Prop where
 size:listed.size=ops.size
 dc:∀i k,i<ops.size->cA listed i=true->(masks.getD i 0).testBit k=true->cA listed k=true
 st:∃(ρ:Nat->Option Nat) (h0:Heap) (N:Nat) (e:LEnv) (A B:Bool),(A&&B)=false/\cA listed ia=A/\cA listed ib=B/\(∀i∈r,cA listed i=false) /\
  c₀.le ⟨ρ,c₀.X,hS h0 N za zb A B,w.heap⟩/\av ⟨ρ,c₀.X,hS h0 N za zb A B,w.heap⟩/\WS w₀ w/\fO ⟨ρ,c₀.X,hS h0 N za zb A B,w.heap⟩ a.defers/\a.tmps.size=nt /\
  eW P rev (r.filterMap (fun i=>items[i]?)) K e (hS h0 N za zb true true) /\
  e.get sa=.ptr N 0 0/\e.get sb=.ptr (N+1) 0 0 /\
  (∀s,((s=sa/\A=false)\/(s=sb/\B=false)\/∃i b,items[i]?=some b/\i∉tl/\cA listed i=false/\b.dst=some s)\/aB ⟨ρ,c₀.X,hS h0 N za zb A B,w.heap⟩ (e.get s) (a.tmps.getD s Go.undef)) /\
  (∀i b,items[i]?=some b->i∉tl->cA listed i=false->cr P b e (hS h0 N za zb A B))
theorem NK {ops:Array Oper}{masks:List Nat}{listed:Array Bool}{i:Nat}(hil:i<listed.size) (R:SN ops masks listed i) (dc:∀i k,i<ops.size->cA listed i=true->(masks.getD i 0).testBit k=true->cA listed k=true) :
  ∀i' k,i'<ops.size->cA (listed.setIfInBounds i true) i'=true->(masks.getD i' 0).testBit k=true->cA (listed.setIfInBounds i true) k=true:=by
 intro i' k hi' hl hm
 rw[dk hil]at hl ⊢
 split
 ·rfl
 ·by_cases h:i'=i
  ·subst h;exact R.anc k hm
  ·rw[if_neg h]at hl;exact dc i' k hi' hl hm
theorem Hr {h:Heap}{n:Nat}(hn:h n=.free) (s:Slot){b:AOper}:if b.op.stable then cD h (aD h n s) else Ext h (aD h n s):=by
 split
 ·exact(nW hn s).box
 ·exact nW hn s
theorem Qn {ops:Array Oper}{items:List AOper}{masks tl:List Nat}{rev:List AOper}(Dk:Cm P nt ops items masks tl rev true){ia ib:Nat}{r:List Nat}{sa sb:Nat}{za zb:D}(T:VG P nt ops items masks tl ia ib r sa sb za zb)
  {c₀:Ctx}{w₀:World}{K:LEnv->Heap->Prop}{listed:Array Bool}{a:Act}{w:World}{Q:Exit->Act->World->Prop}{rr:Option Nat}
  (hJ:J1 P nt ops items masks tl rev ia ib r sa sb za zb c₀ w₀ K listed a w) {i:Nat}(hi:i∈Region.ready .any ops listed) :
  wpOpIn (rF rr) 0 P ops Q i (fun a w=>J1 P nt ops items masks tl rev ia ib r sa sb za zb c₀ w₀ K (listed.setIfInBounds i true) a w\/J P nt ops items masks tl rev true c₀ w₀ K (listed.setIfInBounds i true) a w) a w:=by
 have R:=Ct Dk hJ.size hJ.dc hi
 have hil:i<listed.size:=by rw[hJ.size];exact R.lt
 have hset:=fun k=>dk (k:=k) hil
 obtain⟨ρ,h0,N,e,A,B,hAB,hA,hB,hrun,hle,hr,hws,hdef,hsz,htail,esa,esb,hrel,hval⟩:=hJ.st
 have dc':=NK hil R hJ.dc
 have itl:∀k,k∈tl↔k=ia\/k=ib\/k∈r:=by intro k;rw[T.etl];simp
 by_cases hia:i=ia
 ·subst hia
  obtain⟨o,t,ho,hop,hz,hd,hg⟩:=T.oa
  have hAf:A=false:=by rw[<- hA];exact R.un
  subst hAf
  have gM:hS h0 N za zb false B N=.free:=by simp[hS]
  refine zV (items:=items) (masks:=masks) (tl:=tl) hr hdef hsz hrel (o:=o) [] (by simp) (d:=.ptr N 0 0) (h':=aD (hS h0 N za zb false B) N (.box za)) (fun s hs=>by rw[hd]at hs;cases hs;exact esa) (fun ef _=>?_) ?_
  ·refine gH ho (by rw[hop];intro c hc;cases hc) none (fun j w hh=>by rw[hg]at hh;cases hh) (fun _=>rfl) (fun j hj=>by rw[hd]at hj;cases hj;exact T.lt.1) ?_
   refine gu ?_ (H2 hop hz (fun j hj=>by rw[hd]at hj;cases hj;exact T.lt.1) gM)
   rintro t' h'' ⟨h1,h2⟩
   exact fu ⟨h1,h2⟩
  ·intro a' w' ρ' k1 k2 k3 k4 k5 k6
   rw[RX]at k1 k2 k4 k6
   have vals':∀k b,items[k]?=some b->k∉tl->cA (listed.setIfInBounds i true) k=false->cr P b e (hS h0 N za zb true B):=by
    intro k b hb hk hun
    rw[hset]at hun
    split at hun
    ·cases hun
    ·have hopb:b.op.isVal=true:=by
      have hkl:k<ops.size:=by rw[<- Dk.len];exact(ah.1 hb).1
      have:=(Dk.item k ops[k] b (by simp[hkl]) hb).op
      rw[if_neg (by simpa using hk)]at this
      exact gq this
     have:=(hval k b hb hk hun).ext hopb (Hr gM (.box za))
     rw[RX]at this
     exact this
   have rel':∀s,((s=sb/\B=false)\/∃i' b,items[i']?=some b/\i'∉tl/\cA (listed.setIfInBounds i true) i'=false/\b.dst=some s)\/aB ⟨ρ',c₀.X,hS h0 N za zb true B,w'.heap⟩ (e.get s) (a'.tmps.getD s Go.undef):=by
    intro s
    rcases k6 s with⟨hp,hne⟩|h
    ·left
     rcases hp with⟨rfl,_⟩|hp|⟨i',b,h1,h2,h3,h4⟩
     ·exact absurd hd hne
     ·exact Or.inl hp
     ·right
      refine⟨i',b,h1,h2,?_,h4⟩
      rw[hset,if_neg (by rintro rfl;exact h2 ((itl i').2 (Or.inl rfl)))]
      exact h3
    ·exact Or.inr h
   cases B with
   | false =>
    left
    refine⟨by simp[hJ.size],dc',ρ',h0,N,e,true,false,rfl,?_,?_,fun k hk=>?_,hle.trans k1,k2,hws.trans k3,k4,k5,htail,esa,esb,fun s=>?_,vals'⟩
    ·rw[hset,if_pos rfl]
    ·rw[hset,if_neg (fun h=>T.nd.1 h.symm)];exact hB
    ·rw[hset,if_neg (by rintro rfl;exact T.nd.2.1 hk)];exact hrun k hk
    ·rcases rel' s with h|h
     ·exact Or.inl (Or.inr h)
     ·exact Or.inr h
   | true =>
    right
    refine⟨by simp[hJ.size],dc',ρ',_,e,2,hle.trans k1,k2,hws.trans k3,k4,k5,⟨by rw[T.etl];simp,fun _=>Nat.le_refl 2⟩,?_,fun l i' hl=>?_,fun s=>?_,vals'⟩
    ·rw[T.etl];simpa using htail
    ·rw[hset]
     rw[T.etl]at hl
     match l,hl with
     | 0,hl=>simp at hl;subst hl;simp
     | 1,hl =>
      simp at hl;subst hl
      rw[if_neg (fun h=>T.nd.1 h.symm)]
      simp[hB]
     | l+2,hl =>
      have hm:i'∈r:=ak (by simpa using hl)
      rw[if_neg (by rintro rfl;exact T.nd.2.1 hm),hrun i' hm]
      simp
    ·rcases rel' s with(⟨_,h⟩|h)|h
     ·cases h
     ·exact Or.inl h
     ·exact Or.inr h
 by_cases hib:i=ib
 ·subst hib
  obtain⟨o,t,ho,hop,hz,hd,hg⟩:=T.ob
  have hBf:B=false:=by rw[<- hB];exact R.un
  subst hBf
  have gM:hS h0 N za zb A false (N+1)=.free:=by simp[hS]
  refine zV (items:=items) (masks:=masks) (tl:=tl) hr hdef hsz hrel (o:=o) [] (by simp) (d:=.ptr (N+1) 0 0) (h':=aD (hS h0 N za zb A false) (N+1) (.box zb)) (fun s hs=>by rw[hd]at hs;cases hs;exact esb) (fun ef _=>?_) ?_
  ·refine gH ho (by rw[hop];intro c hc;cases hc) none (fun j w hh=>by rw[hg]at hh;cases hh) (fun _=>rfl) (fun j hj=>by rw[hd]at hj;cases hj;exact T.lt.2) ?_
   refine gu ?_ (H2 hop hz (fun j hj=>by rw[hd]at hj;cases hj;exact T.lt.2) gM)
   rintro t' h'' ⟨h1,h2⟩
   exact fu ⟨h1,h2⟩
  ·intro a' w' ρ' k1 k2 k3 k4 k5 k6
   rw[RW]at k1 k2 k4 k6
   have vals':∀k b,items[k]?=some b->k∉tl->cA (listed.setIfInBounds i true) k=false->cr P b e (hS h0 N za zb A true):=by
    intro k b hb hk hun
    rw[hset]at hun
    split at hun
    ·cases hun
    ·have hopb:b.op.isVal=true:=by
      have hkl:k<ops.size:=by rw[<- Dk.len];exact(ah.1 hb).1
      have:=(Dk.item k ops[k] b (by simp[hkl]) hb).op
      rw[if_neg (by simpa using hk)]at this
      exact gq this
     have:=(hval k b hb hk hun).ext hopb (Hr gM (.box zb))
     rw[RW]at this
     exact this
   have rel':∀s,((s=sa/\A=false)\/∃i' b,items[i']?=some b/\i'∉tl/\cA (listed.setIfInBounds i true) i'=false/\b.dst=some s)\/aB ⟨ρ',c₀.X,hS h0 N za zb A true,w'.heap⟩ (e.get s) (a'.tmps.getD s Go.undef):=by
    intro s
    rcases k6 s with⟨hp,hne⟩|h
    ·left
     rcases hp with hp|⟨rfl,_⟩|⟨i',b,h1,h2,h3,h4⟩
     ·exact Or.inl hp
     ·exact absurd hd hne
     ·right
      refine⟨i',b,h1,h2,?_,h4⟩
      rw[hset,if_neg (by rintro rfl;exact h2 ((itl i').2 (Or.inr (Or.inl rfl))))]
      exact h3
    ·exact Or.inr h
   cases A with
   | false =>
    left
    refine⟨by simp[hJ.size],dc',ρ',h0,N,e,false,true,rfl,?_,?_,fun k hk=>?_,hle.trans k1,k2,hws.trans k3,k4,k5,htail,esa,esb,fun s=>?_,vals'⟩
    ·rw[hset,if_neg (fun h=>hia h.symm)];exact hA
    ·rw[hset,if_pos rfl]
    ·rw[hset,if_neg (by rintro rfl;exact T.nd.2.2 hk)];exact hrun k hk
    ·rcases rel' s with(h|h)|h
     ·exact Or.inl (Or.inl h)
     ·exact Or.inl (Or.inr (Or.inr h))
     ·exact Or.inr h
   | true =>
    right
    refine⟨by simp[hJ.size],dc',ρ',_,e,2,hle.trans k1,k2,hws.trans k3,k4,k5,⟨by rw[T.etl];simp,fun _=>Nat.le_refl 2⟩,?_,fun l i' hl=>?_,fun s=>?_,vals'⟩
    ·rw[T.etl];simpa using htail
    ·rw[hset]
     rw[T.etl]at hl
     match l,hl with
     | 0,hl =>
      simp at hl;subst hl
      rw[if_neg (fun h=>hia h.symm)]
      simp[hA]
     | 1,hl=>simp at hl;subst hl;simp
     | l+2,hl =>
      have hm:i'∈r:=ak (by simpa using hl)
      rw[if_neg (by rintro rfl;exact T.nd.2.2 hm),hrun i' hm]
      simp
    ·rcases rel' s with(⟨_,h⟩|h)|h
     ·cases h
     ·exact Or.inl h
     ·exact Or.inr h
 have hitl:i∉tl:=by
  intro hm
  rcases (itl i).1 hm with h|h|h
  ·exact hia h
  ·exact hib h
  ·obtain⟨h1,h2⟩:=T.anc i h
   have e1:=R.anc _ h1
   have e2:=R.anc _ h2
   rw[hA]at e1;rw[hB]at e2;rw[e1,e2]at hAB;cases hAB
 obtain⟨o,ho⟩:∃o,ops[i]?=some o:=⟨ops[i]'R.lt,by simp[R.lt]⟩
 have hilen:i<items.length:=by rw[Dk.len];exact R.lt
 obtain⟨a0,hai⟩:∃x,items[i]?=some x:=⟨items[i]'hilen,by simp[hilen]⟩
 have It:=Dk.item i o a0 ho hai
 obtain⟨nsa,nsb,dsa,dsb⟩:=T.vals i a0 hai hitl
 obtain⟨d,hd1,hd2⟩:=hval i a0 hai hitl R.un
 have hop:cdOp P o=some a0.op:=by have:=It.op;rw[if_neg (by simpa using hitl)]at this;exact this
 have hnod:=qF hop
 have hrd:∀s∈a0.rd,¬((s=sa/\A=false)\/(s=sb/\B=false)\/∃i b,items[i]?=some b/\i∉tl/\cA listed i=false/\b.dst=some s):=by
  rintro s hs (⟨rfl,_⟩|⟨rfl,_⟩|⟨k,b,hb,hk,hun,hd⟩)
  ·exact nsa hs
  ·exact nsb hs
  ·obtain⟨_,hm⟩:=(Dk.rdv k i b a0 hb hai hk s hd).2 hs
   have:=R.anc k hm
   rw[hun]at this
   cases this
 refine zV (items:=items) (masks:=masks) (tl:=tl) hr hdef hsz hrel (o:=o) a0.rd hrd (d:=d) (h':=hS h0 N za zb A B) (fun s hs=>hd1 s (by rw[It.dst];exact hs)) (fun ef hef=>?_) ?_
 ·have run:(∀K':D->Prop,K' d->vcdOp P a0.op K' e (hS h0 N za zb A B))->Ft P nt o (pG P nt ops [] (fun t' h''=>t'=(ef.put o.dst d).get/\h''=hS h0 N za zb A B)) ef.get (hS h0 N za zb A B):=by
   intro hv
   have:=xn (nt:=nt) hop It.dlt (gj (fun s hs=>(hef s (by simp[AOper.rd,hs])).symm) (· = d) (hS h0 N za zb A B) (hv (· = d) rfl))
   refine gu ?_ this
   rintro t' h' ⟨d',rfl,rfl,rfl⟩
   exact fu ⟨rfl,rfl⟩
  refine gH ho hnod a0.guard (fun j' want hg=>by obtain⟨s,h1,h2⟩:=It.gs j' want hg;exact⟨s,h1,h2⟩) It.gn It.dlt ?_
  cases hg:a0.guard with
  | none=>rw[hg]at hd2;exact run hd2
  | some p =>
   obtain⟨g,want⟩:=p
   rw[hg]at hd2
   obtain⟨b,q1,q2,q3⟩:=hd2
   refine⟨b,by rw[hef g (by simp[AOper.rd,hg])];exact q1,fun hbw=>run (q2 hbw),fun hbw=>?_⟩
   exact fu ⟨by rw[LEnv.bf,q3 hbw],rfl⟩
 ·intro a' w' ρ' k1 k2 k3 k4 k5 k6
  left
  refine⟨by simp[hJ.size],dc',ρ',h0,N,e,A,B,hAB,?_,?_,fun k hk=>?_,hle.trans k1,k2,hws.trans k3,k4,k5,htail,esa,esb,fun s=>?_,fun k b hb hk hun=>?_⟩
  ·rw[hset,if_neg (fun h=>hia h.symm)];exact hA
  ·rw[hset,if_neg (fun h=>hib h.symm)];exact hB
  ·rw[hset,if_neg (by rintro rfl;exact hitl ((itl k).2 (Or.inr (Or.inr hk))))];exact hrun k hk
  ·rcases k6 s with⟨hp,hne⟩|h
   ·left
    rcases hp with hp|hp|⟨k,b,hb,hk,hun,hd⟩
    ·exact Or.inl hp
    ·exact Or.inr (Or.inl hp)
    ·refine Or.inr (Or.inr ⟨k,b,hb,hk,?_,hd⟩)
     rw[hset,if_neg (by rintro rfl;rw[hai]at hb;cases hb;exact hne (by rw[<- It.dst];exact hd))]
     exact hun
   ·exact Or.inr h
  ·rw[hset]at hun
   split at hun
   ·cases hun
   ·exact hval k b hb hk hun
end Go.Am
namespace Go.Am
open Go
variable [bW]
variable {P:Program}{nt:Nat}
theorem F7 {p q:Nat->Bool}:∀{l:List Nat},(∀x∈l,q x=true->p x=true)->∀{i:Nat},i∈l->p i=true->q i=false->(l.filter q).length<(l.filter p).length
 | [],_,i,hi,_,_=>by simp at hi
 | x::r,hle,i,hi,hp,hq=>by
  have hmono:(r.filter q).length<=(r.filter p).length:=by
   have:∀(l:List Nat),(∀x∈l,q x=true->p x=true)->(l.filter q).length<=(l.filter p).length:=by
    intro l
    induction l with
    | nil=>intro _;simp
    | cons y s ih =>
     intro h
     have:=ih (fun x hx=>h x (by simp[hx]))
     by_cases hy:q y=true
     ·rw[List.filter_cons_of_pos hy,List.filter_cons_of_pos (h y (by simp) hy)];simpa using this
     ·rw[List.filter_cons_of_neg hy]
      by_cases hy2:p y=true
      ·rw[List.filter_cons_of_pos hy2];simp;omega
      ·rw[List.filter_cons_of_neg hy2];exact this
   exact this r (fun x hx=>hle x (by simp[hx]))
  rcases List.mem_cons.1 hi with rfl|hi
  ·rw[List.filter_cons_of_pos hp,List.filter_cons_of_neg (by simp[hq])]
   simp;omega
  ·have ih:=F7 (fun x hx=>hle x (by simp[hx])) hi hp hq
   by_cases hx:q x=true
   ·rw[List.filter_cons_of_pos hx,List.filter_cons_of_pos (hle x (by simp) hx)];simpa using ih
   ·rw[List.filter_cons_of_neg hx]
    by_cases hx2:p x=true
    ·rw[List.filter_cons_of_pos hx2];simp;omega
    ·rw[List.filter_cons_of_neg hx2];exact ih
def left (n:Nat) (listed:Array Bool):Nat:=((List.range n).filter fun i=> !cA listed i).length
theorem Jn {ops:Array Oper}{items:List AOper}{masks tl:List Nat}{rev:List AOper}{tw:Bool}(Dk:Cm P nt ops items masks tl rev tw){listed:Array Bool}(hsz:listed.size=ops.size) (hr:Region.ready .any ops listed=[]):∀i,i<ops.size->cA listed i=true:=by
 intro i
 induction i using Nat.strongRecOn with
 | _ i ih =>
  intro hi
  by_cases hl:cA listed i=true
  ·exact hl
  ·exfalso
   have hmem:i∈Region.ready .any ops listed:=by
    unfold Region.ready
    simp only[List.mem_filter,List.mem_range,Bool.and_eq_true,Bool.not_eq_true']
    refine⟨hi,by unfold cA at hl;simpa using hl,?_⟩
    have ho:ops[i]?=some ops[i]:=by simp[hi]
    rw[ho]
    simp only[Option.map_some,Option.getD_some,Array.all_eq_true']
    intro e he
    by_cases hb:Region.binds .any e=true
    ·have hlt:=Dk.edge i _ ho e (by simpa using he) hb
     have:=ih e.on hlt (by omega)
     unfold cA at this
     have hs:e.on<listed.size:=by omega
     simp[Array.getD,hs]at this ⊢
     simp[this]
    ·simp[hb]
   rw[hr]at hmem
   simp at hmem
theorem SD {ops:Array Oper}{items:List AOper}{masks tl:List Nat}{rev:List AOper}{tw:Bool}(Dk:Cm P nt ops items masks tl rev tw){JJ:Array Bool->Act->World->Prop}{Q:Exit->Act->World->Prop}{r:Option Nat}
  (hsz:∀listed a w,JJ listed a w->listed.size=ops.size) (hdc:∀listed a w,JJ listed a w->∀i k,i<ops.size->cA listed i=true->(masks.getD i 0).testBit k=true->cA listed k=true)
  (step:∀listed a w i,JJ listed a w->i∈Region.ready .any ops listed->wpOpIn (rF r) 0 P ops Q i (JJ (listed.setIfInBounds i true)) a w)
  (hq:∀listed a w,JJ listed a w->(∀i,i<ops.size->cA listed i=true)->Q .normal a w):∀(fuel:Nat) (listed:Array Bool) (a:Act) (w:World),left ops.size listed<=fuel->JJ listed a w->wpAnyIn (rF r) 0 P .any ops Q fuel listed a w:=by
 have done:∀(listed:Array Bool) (a:Act) (w:World),JJ listed a w->Region.ready .any ops listed=[]->Q .normal a w:=by
  intro listed a w hJ hr
  exact hq listed a w hJ (Jn Dk (hsz _ _ _ hJ) hr)
 intro fuel
 induction fuel with
 | zero =>
  intro listed a w hl hJ
  have hr:Region.ready .any ops listed=[]:=by
   cases hrd:Region.ready .any ops listed with
   | nil=>rfl
   | cons x r =>
    exfalso
    have hm:x∈Region.ready .any ops listed:=by rw[hrd];simp
    have R:=Ct Dk (hsz _ _ _ hJ) (hdc _ _ _ hJ) hm
    have:x∈(List.range ops.size).filter fun i=> !cA listed i:=by simp[R.lt,R.un]
    have h0:=List.length_pos_of_mem this
    unfold left at hl
    omega
  exact⟨hr,done listed a w hJ hr⟩
 | succ fuel ih =>
  intro listed a w hl hJ
  refine⟨done listed a w hJ,fun i hi=>?_⟩
  have R:=Ct Dk (hsz _ _ _ hJ) (hdc _ _ _ hJ) hi
  refine wpOpIn_mono (fun a' w' hJ'=>ih _ a' w' ?_ hJ') (step listed a w i hJ hi)
  have hil:i<listed.size:=by rw[hsz _ _ _ hJ];exact R.lt
  have:=F7 (l:=List.range ops.size) (p:=fun i=> !cA listed i) (q:=fun k=> !cA (listed.setIfInBounds i true) k) (fun x _ hx=>by
   rw[dk hil]at hx
   split at hx
   ·simp at hx
   ·exact hx) (i:=i) (by simpa using R.lt) (by simp[R.un]) (by simp[dk hil])
  unfold left at hl ⊢
  omega
theorem QT {ops:Array Oper}{items:List AOper}{masks tl:List Nat}{rev:List AOper}{tw:Bool}(Dk:Cm P nt ops items masks tl rev tw){c₀:Ctx}{w₀:World}{K:LEnv->Heap->Prop}{listed:Array Bool}{a:Act}{w:World}
  (hJ:J P nt ops items masks tl rev tw c₀ w₀ K listed a w) (hall:∀i,i<ops.size->cA listed i=true):Fin c₀ w₀ nt (up K) a w:=by
 obtain⟨ρ,h,e,j,hle,hrr,hws,hdef,hsz,hj,htail,hprog,hrel,hval⟩:=hJ.st
 have hjl:j=tl.length:=by
  rcases Nat.lt_or_ge j tl.length with hlt|hge
  ·have:=(hprog j tl[j] (by simp[hlt])).1 (hall _ (Dk.tlt _ (List.getElem_mem hlt)))
   omega
  ·have:=hj.1;omega
 subst hjl
 rw[List.drop_length]at htail
 refine⟨ρ,e.get,h,hle,hrr,hws,⟨hrr.glob,hrr.lo,hdef,hsz,fun s=>?_⟩,e,rfl,htail⟩
 rcases hrel s with⟨i,b,hb,_,hun,_⟩|h
 ·have:i<ops.size:=by rw[<- Dk.len];exact(ah.1 hb).1
  rw[hall i this]at hun
  cases hun
 ·exact h
theorem AQ:∀{l:List AOper}{K:LEnv->Heap->Prop}{e:LEnv}{h:Heap},ve P l K e h->eW P [] l K e h
 | [],_,_,_,hv=>hv
 | o::r,K,e,h,hv=>by
  have hk:∀e h,ve P r K e h->AR P [] e h/\eW P [] r K e h:=fun e h hv=>⟨trivial,AQ hv⟩
  simp only[ve,eW,fW,vguard]at hv ⊢
  cases hg:o.guard with
  | none=>simp only[hg]at hv ⊢;exact mF (fun d h' hh=>hk _ _ hh) hv
  | some q =>
   obtain⟨j,want⟩:=q
   simp only[hg]at hv ⊢
   cases hb:gv (e.get j)<;>simp only[hb]at hv ⊢
   exact⟨fun hb=>mF (fun d h' hh=>hk _ _ hh) (hv.1 hb),fun hb=>hk _ _ (hv.2 hb)⟩
theorem wH {rev l:List AOper}{K:LEnv->Heap->Prop}{e:LEnv}{h:Heap}(hv:vcTail P rev l K e h):eW P rev l K e h:=by
 cases rev with
 | nil=>exact AQ hv
 | cons b r=>exact hv
theorem AW {id:Nat}{ops:Array Oper}{items:List AOper}{masks tl:List Nat}{rev:List AOper}{tw:Bool}(Dk:Cm P nt ops items masks tl rev tw) (hm:P.follows .mixedOrders=true){K:LEnv->Heap->Prop}{Q:LPost}{e:LEnv}{h:Heap}
  (hq:∀e h,K e h->Q .normal e h)
  (hv:vcVals P (((List.range ops.size).filter (fun i=> !tl.contains i)).filterMap (fun i=>items[i]?)) (vcTail P rev (tl.filterMap (fun i=>items[i]?)) K) e h)
  (JJ:Ctx->World->Array Bool->Act->World->Prop)
  (hsz:∀c w₀ listed a w,JJ c w₀ listed a w->listed.size=ops.size) (hdc:∀c w₀ listed a w,JJ c w₀ listed a w->∀i k,i<ops.size->cA listed i=true->(masks.getD i 0).testBit k=true->cA listed k=true)
  (step:∀c w₀ r Q listed a w i,JJ c w₀ listed a w->i∈Region.ready .any ops listed->wpOpIn (rF r) 0 P ops Q i (JJ c w₀ (listed.setIfInBounds i true)) a w)
  (fin:∀c w₀ listed a w,JJ c w₀ listed a w->(∀i,i<ops.size->cA listed i=true)->Fin c w₀ nt (up K) a w)
  (init:∀c w a T,c.h=h->c.hp=w.heap->av c->fO c a.defers->a.tmps.size=nt->eW P rev (tl.filterMap (fun i=>items[i]?)) K T c.h->(∀i,i<ops.size->cA (Array.replicate ops.size false) i=false) ->
   (∀s,(∃i b,items[i]?=some b/\i∉tl/\cA (Array.replicate ops.size false) i=false/\b.dst=some s)\/aB c (T.get s) (a.tmps.getD s Go.undef))->(∀i b,items[i]?=some b->i∉tl->cr P b T c.h)->JJ c w (Array.replicate ops.size false) a { w with drawn:=w.drawn+1 }) :
  o9 P nt (.region id ops true) (fun x=>up (Q x)) e.get h:=by
 intro rd c w a hh hp hr hs _
 subst hh
 refine wpIn_region_any hm ?_
 let V:=(List.range ops.size).filter (fun i=> !tl.contains i)
 let vals:=V.filterMap (fun i=>items[i]?)
 have hV:∀b∈vals,∃i o,items[i]?=some b/\i∉tl/\ops[i]?=some o:=by
  intro b hb
  simp only[vals,V,List.mem_filterMap,List.mem_filter,List.mem_range]at hb
  obtain⟨i,⟨hi,hn⟩,hb⟩:=hb
  exact⟨i,ops[i],hb,by simpa using hn,by simp[hi]⟩
 have hVmem:∀i b,items[i]?=some b->i∉tl->b∈vals:=by
  intro i b hb hn
  have:i<ops.size:=by rw[<- Dk.len];exact(ah.1 hb).1
  simp only[vals,V,List.mem_filterMap,List.mem_filter,List.mem_range]
  exact⟨i,⟨this,by simpa using hn⟩,hb⟩
 obtain⟨T,t1,t2,t3⟩:=GM vals (fun b hb=>by
   obtain⟨i,o,h1,h2,h3⟩:=hV b hb
   have:=(Dk.item i o b h3 h1).op
   rw[if_neg (by simpa using h2)]at this
   exact gq this) (fun b hb s hs hrd=>by
   obtain⟨i,o,h1,h2,h3⟩:=hV b hb
   have:=((Dk.rdv i i b b h1 h1 h2 s hs).2 hrd).1
   omega) (by
   have hpw:V.Pairwise (· < ·):=List.Pairwise.filter _ List.pairwise_lt_range
   have hall:∀i∈V,i∉tl:=by intro i hi;simp only[V,List.mem_filter]at hi;simpa using hi.2
   have:∀(l:List Nat),(∀i∈l,i∉tl)->l.Pairwise (· < ·)->(l.filterMap (fun i=>items[i]?)).Pairwise (fun a b=>∀s,b.dst=some s->a.dst≠some s/\s∉a.rd):=by
    intro l
    induction l with
    | nil=>intro _ _;simp
    | cons x r ih =>
     intro hn hp'
     rw[List.pairwise_cons]at hp'
     have ih':=ih (fun i hi=>hn i (by simp[hi])) hp'.2
     cases hx:items[x]? with
     | none=>rw[List.filterMap_cons_none hx];exact ih'
     | some ax =>
      rw[List.filterMap_cons_some hx,List.pairwise_cons]
      refine⟨fun b hb s hs=>?_,ih'⟩
      simp only[List.mem_filterMap]at hb
      obtain⟨k,hk,hb⟩:=hb
      have hlt:=hp'.1 k hk
      have hkn:=hn k (by simp[hk])
      refine⟨(Dk.rdv k x b ax hb hx hkn s hs).1 (by omega),fun hrd=>?_⟩
      have:=((Dk.rdv k x b ax hb hx hkn s hs).2 hrd).1
      omega
   exact this V hall hpw) hv
 have hfalse:∀i,i<ops.size->cA (Array.replicate ops.size false) i=false:=by intro i hi;unfold cA;simp[Array.getD,hi]
 refine SD Dk (JJ:=JJ c w) (hsz c w) (hdc c w) (step c w _ _) (fun listed a' w' hJ hall=>Fin.mono (fun t h hk=>by obtain⟨e',rfl,hk⟩:=hk;exact⟨e',rfl,hq e' h hk⟩) (fin c w listed a' w' hJ hall)) ops.size _ a _ ?_ ?_
 ·unfold left
  exact Nat.le_trans (List.length_filter_le _ _) (by simp)
 ·refine init c w a T rfl hp hr hs.defers hs.size (wH t1) hfalse (fun s=>?_) (fun i b hb hn=>t3 b (hVmem i b hb hn))
  by_cases hex:∃i b,items[i]?=some b/\i∉tl/\b.dst=some s
  ·obtain⟨i,b,hb,hn,hd⟩:=hex
   left
   exact⟨i,b,hb,hn,hfalse i (by rw[<- Dk.len];exact(ah.1 hb).1),hd⟩
  ·right
   rw[t2 s (fun b hb hbd=>by
    obtain⟨i,o,h1,h2,h3⟩:=hV b hb
    exact hex ⟨i,b,h1,h2,hbd⟩)]
   exact hs.rel s
theorem KM {id:Nat}{ops:Array Oper}{items:List AOper}{masks tl:List Nat}{rev:List AOper}(Dk:Cm P nt ops items masks tl rev false) (hm:P.follows .mixedOrders=true){K:LEnv->Heap->Prop}{Q:LPost}{e:LEnv}{h:Heap}
  (hq:∀e h,K e h->Q .normal e h)
  (hv:vcVals P (((List.range ops.size).filter (fun i=> !tl.contains i)).filterMap (fun i=>items[i]?)) (vcTail P rev (tl.filterMap (fun i=>items[i]?)) K) e h):o9 P nt (.region id ops true) (fun x=>up (Q x)) e.get h:=by
 refine AW Dk hm hq hv (fun c w₀=>J P nt ops items masks tl rev false c w₀ K) (fun _ _ _ _ _ hJ=>hJ.size) (fun _ _ _ _ _ hJ=>hJ.dc) (fun _ _ _ _ _ _ _ _ hJ hi=>Ot Dk hJ hi) (fun _ _ _ _ _ hJ hall=>QT Dk hJ hall) ?_
 intro c w a T hh hp hr hdef hsz t1 hfalse hrel hval
 have hce:(⟨c.ρ,c.X,c.h,w.heap⟩:Ctx)=c:=by rw[<- hp]
 have hw:({ w with drawn:=w.drawn+1 }:World).heap=w.heap:=rfl
 refine⟨by simp,fun i k hi hl=>(by rw[hfalse i hi]at hl;cases hl),c.ρ,c.h,T,0,?_,?_,⟨rfl,rfl,rfl⟩,(by rw[hw,hce];exact hdef),hsz,⟨Nat.zero_le _,fun h=>by cases h⟩,by simpa using t1,fun l i hl=>?_,fun s=>?_,fun i b hb hn _=>hval i b hb hn⟩
 ·rw[hw,hce];exact Ctx.le.refl c
 ·rw[hw,hce];exact hr
 ·rw[hfalse i (Dk.tlt i (ak hl))];simp
 ·rw[hw,hce];exact hrel s
theorem Iu {id:Nat}{ops:Array Oper}{items:List AOper}{masks tl:List Nat}{rev:List AOper}(Dk:Cm P nt ops items masks tl rev true){ia ib:Nat}{r:List Nat}{sa sb:Nat}{za zb:D}(T:VG P nt ops items masks tl ia ib r sa sb za zb)
  (hm:P.follows .mixedOrders=true) {K:LEnv->Heap->Prop}{Q:LPost}{e:LEnv}{h:Heap}(hq:∀e h,K e h->Q .normal e h)
  (hv:vcVals P (((List.range ops.size).filter (fun i=> !tl.contains i)).filterMap (fun i=>items[i]?)) (vcTail P rev (tl.filterMap (fun i=>items[i]?)) K) e h):o9 P nt (.region id ops true) (fun x=>up (Q x)) e.get h:=by
 refine AW Dk hm hq hv (fun c w₀ listed a w=>J1 P nt ops items masks tl rev ia ib r sa sb za zb c w₀ K listed a w\/J P nt ops items masks tl rev true c w₀ K listed a w)
  (fun _ _ _ _ _ hJ=>hJ.elim (·.size) (·.size)) (fun _ _ _ _ _ hJ=>hJ.elim (·.dc) (·.dc)) (fun _ _ _ _ _ _ _ _ hJ hi=>hJ.elim (fun hJ=>Qn Dk T hJ hi) fun hJ=>wpOpIn_mono (fun _ _ h=>Or.inr h) (Ot Dk hJ hi)) (fun c w₀ listed a w hJ hall=>hJ.elim (fun hJ=>?_) fun hJ=>QT Dk hJ hall) ?_
 ·exfalso
  obtain⟨ρ,h0,N,e,A,B,hAB,hA,hB,_⟩:=hJ.st
  have h1:=hall ia (Dk.tlt ia (by rw[T.etl];simp))
  have h2:=hall ib (Dk.tlt ib (by rw[T.etl];simp))
  rw[hA]at h1;rw[hB]at h2;rw[h1,h2]at hAB;cases hAB
 ·intro c w a E hh hp hr hdef hsz t1 hfalse hrel hval
  left
  have hce:(⟨c.ρ,c.X,c.h,w.heap⟩:Ctx)=c:=by rw[<- hp]
  have hw:({ w with drawn:=w.drawn+1 }:World).heap=w.heap:=rfl
  obtain⟨N,ht⟩:=dL hr
  have item:∀(k s:Nat) (z:D),(∃o t,ops[k]?=some o/\o.op=.alloc t/\dP P t=some z/\o.dst=some s/\o.guard=none)->k∈tl->items[k]?=some ⟨some s,.alloc z,none⟩:=by
   rintro k s z ⟨o,t,ho,hop,hz,hd,hg⟩ hk
   have hlt:k<items.length:=by rw[Dk.len];exact Dk.tlt k hk
   have It:=Dk.item k o items[k] ho (by simp[hlt])
   have h1:=It.op
   rw[if_pos (by simpa using hk)]at h1
   have h2:items[k].op=.alloc z:=by
    have:=h1.1
    simp only[cOp,cOp0,hop,hz,Option.map_some]at this
    exact(Option.some.inj this).symm
   have h3:=It.dst
   have h4:=It.gn hg
   rw[hd]at h3
   rw[aC hlt]
   congr 1
   cases hx:items[k] with
   | mk dst op guard =>
    rw[hx]at h2 h3 h4
    simp only at h2 h3 h4
    rw[h2,h3,h4]
  have ita:=item ia sa za T.oa (by rw[T.etl];simp)
  have itb:=item ib sb zb T.ob (by rw[T.etl];simp)
  rw[T.etl,List.filterMap_cons_some ita,List.filterMap_cons_some itb]at t1
  have f1:c.h N=.free:=ht.free
  have f2:c.h (N+1)=.free:=ht.1 _ (by omega)
  have ht2:pc (aD c.h N (.box za)) (N+1):=⟨fun m hm=>by
    have:m≠N:=by omega
    simp[aD,this];exact ht.1 m (by omega),fun k hk=>by
    have:k=N:=by omega
    subst this;simp[aD]⟩
  have u1:=(t1 N ht).2
  have u2:=(u1 (N+1) ht2).2
  rw[<- Vh f1 f2]at u2
  have h00:hS c.h N za zb false false=c.h:=TM f1 f2
  have g1:∀s,s≠sa->s≠sb->(((E.put (some sa) (.ptr N 0 0)).put (some sb) (.ptr (N+1) 0 0)).get s)=E.get s:=by
   intro s h1 h2
   rw[LEnv.bf,Env.put,an _ _ h2,LEnv.bf,Env.put,an _ _ h1]
  refine⟨by simp,fun i k hi hl=>(by rw[hfalse i hi]at hl;cases hl),c.ρ,c.h,N,_,false,false,rfl,hfalse _ (Dk.tlt _ (by rw[T.etl];simp)),hfalse _ (Dk.tlt _ (by rw[T.etl];simp)),fun i hi=>hfalse _ (Dk.tlt _ (by rw[T.etl];simp[hi])),?_,?_,⟨rfl,rfl,rfl⟩,?_,hsz,u2,?_,?_,fun s=>?_,fun i b hb hn _=>?_⟩
  ·rw[h00,hw,hce];exact Ctx.le.refl c
  ·rw[h00,hw,hce];exact hr
  ·rw[h00,hw,hce];exact hdef
  ·rw[LEnv.bf,Env.put,an _ _ T.ne,LEnv.bf];simp[Env.put,aD]
  ·rw[LEnv.bf];simp[Env.put,aD]
  ·by_cases h1:s=sa
   ·exact Or.inl (Or.inl ⟨h1,rfl⟩)
   ·by_cases h2:s=sb
    ·exact Or.inl (Or.inr (Or.inl ⟨h2,rfl⟩))
    ·rcases hrel s with h|h
     ·exact Or.inl (Or.inr (Or.inr h))
     ·right
      rw[h00,hw,hce,g1 s h1 h2]
      exact h
  ·obtain⟨n1,n2,n3,n4⟩:=T.vals i b hb hn
   rw[h00]
   exact cr.congr (fun s hs=>(g1 s (by rintro rfl;exact n1 hs) (by rintro rfl;exact n2 hs)).symm) (fun s hs=>g1 s (by rintro rfl;exact n3 hs) (by rintro rfl;exact n4 hs)) (hval i b hb hn)
def pairOk (masks tl rv:List Nat) (i k:Nat) (a b:AOper):Bool :=
 (match a.dst with
  | none=>true
  | some s=>if tl.contains i then tl.contains k || !b.rd.contains s||(masks.getD i 0).testBit k
   else(i == k||b.dst != some s)&&(!b.rd.contains s||(decide (i<k)&&(masks.getD k 0).testBit i))) &&
 (!(tl.contains i && !tl.contains k&&a.op.mut && !b.op.stable)||(masks.getD i 0).testBit k||rv.contains k)
def zX (masks:List Nat) (l:List Edge):Nat:=l.foldl (fun s e=>if Region.binds .any e then s ||| 2 ^ e.on ||| masks.getD e.on 0 else s) 0
def ordOk (masks:List Nat):List Nat->Bool
 | []=>true
 | i::r=>r.all (fun k=>(masks.getD k 0).testBit i)&&ordOk masks r
def itemsOf (P:Program) (nt:Nat) (ops:Array Oper) (tl:List Nat):List Oper->Nat->Option (List AOper)
 | [],_=>some []
 | o::r,i=>match (if tl.contains i then IT P nt ops o else cdOper P nt ops o),itemsOf P nt ops tl r (i+1) with
  | some a,some s=>some (a::s)
  | _,_=>none
def ord2 (masks:List Nat):List Nat->Bool
 | a::b::r=>r.all (fun k=>(masks.getD k 0).testBit a&&(masks.getD k 0).testBit b)&&ordOk masks r
 | _=>false
def dchk (tw:Bool) (ops:Array Oper) (items:List AOper) (masks tl rv:List Nat):Bool :=
 (ops.toList.zipIdx.all fun p=>(p.1.after.toList.all fun e=> !Region.binds .any e||decide (e.on<p.2))&&(masks.getD p.2 0 == zX masks p.1.after.toList)) &&
 tl.all (fun i=>decide (i<ops.size))&&(if tw then ord2 masks tl else ordOk masks tl)&&(rv.all fun k=> !tl.contains k&&(match items[k]? with|some b=>b.guard.isNone&&b.dst.isSome|none=>false)) &&
 items.zipIdx.all fun p=>items.zipIdx.all fun q=>pairOk masks tl rv p.2 q.2 p.1 q.1
def cDr0 (P:Program) (nt:Nat) (tbl:TTq) (id:Nat) (ops:Array Oper):Option ACode :=
 if P.follows .mixedOrders then
  match tbl id with
  | some (masks,tl,rv)=>match itemsOf P nt ops tl ops.toList 0 with
   | some items=>if dchk false ops items masks tl rv then
     some (.dreg (((List.range ops.size).filter (fun i=> !tl.contains i)).filterMap (fun i=>items[i]?)) (tl.filterMap (fun i=>items[i]?)) (rv.filterMap (fun i=>items[i]?))) else none
   | none=>none
  | none=>none
 else none
theorem yq {ops:Array Oper}{tl:List Nat}:∀{l:List Oper}{i:Nat}{items:List AOper},itemsOf P nt ops tl l i=some items->items.length=l.length/\∀(k:Nat) (o:Oper) (a:AOper),l[k]?=some o->items[k]?=some a->Item P nt ops (tl.contains (i+k)) o a
 | [],i,items,h=>by simp[itemsOf]at h;subst h;simp
 | o::r,i,items,h=>by
  simp only[itemsOf]at h
  split at h
  ·rename_i a s h1 h2
   simp at h;subst h
   obtain⟨l1,l2⟩:=yq h2
   refine⟨by simp[l1],fun k o' a' ho ha=>?_⟩
   cases k with
   | zero =>
    simp at ho ha;subst ho ha
    rw[Nat.add_zero]
    by_cases ht:tl.contains i=true
    ·rw[if_pos ht]at h1;rw[ht];exact Hz h1
    ·rw[if_neg ht]at h1
     have:tl.contains i=false:=by simpa using ht
     rw[this];exact ti h1
   | succ k =>
    have:=l2 k o' a' (by simpa using ho) (by simpa using ha)
    rw[show i+(k+1)=i+1+k by omega]
    exact this
  ·cases h
theorem w7 {masks:List Nat}{k:Nat}:∀(l:List Edge) (s:Nat),(l.foldl (fun s e=>if Region.binds .any e then s ||| 2 ^ e.on ||| masks.getD e.on 0 else s) s).testBit k=true ->
  s.testBit k=true\/∃e,e∈l/\Region.binds .any e=true/\(k=e.on\/(masks.getD e.on 0).testBit k=true):=by
 intro l
 induction l with
 | nil=>intro s h;exact Or.inl h
 | cons e r ih =>
  intro s h
  rw[List.foldl_cons]at h
  rcases ih _ h with h|⟨e',he,hb,hc⟩
  ·split at h
   ·rename_i hb
    simp only[Nat.testBit_or,Bool.or_eq_true]at h
    rcases h with(h|h)|h
    ·exact Or.inl h
    ·rw[Nat.testBit_two_pow]at h
     exact Or.inr ⟨e,by simp,hb,Or.inl (by have:=of_decide_eq_true h;omega)⟩
    ·exact Or.inr ⟨e,by simp,hb,Or.inr h⟩
   ·exact Or.inl h
  ·exact Or.inr ⟨e',by simp[he],hb,hc⟩
theorem wY {masks:List Nat}:∀{l:List Nat},ordOk masks l=true->l.Pairwise (fun i k=>(masks.getD k 0).testBit i=true)
 | [],_=>by simp
 | i::r,h=>by
  simp only[ordOk,Bool.and_eq_true,List.all_eq_true]at h
  exact List.pairwise_cons.2 ⟨fun k hk=>h.1 k hk,wY h.2⟩
theorem mem_zipIdx {α:Type}{l:List α}{i:Nat}{x:α}(h:l[i]?=some x):(x,i)∈l.zipIdx:=by
 refine ak (i:=i) ?_
 rw[List.getElem?_zipIdx,h]
 simp
theorem OZ {tw:Bool}{masks tl:List Nat}(h:(if tw then ord2 masks tl else ordOk masks tl)=true):∀l k i i':Nat,tl[l]?=some i->tl[k]?=some i'->l<k->(tw=true/\l=0/\k=1)\/(masks.getD i' 0).testBit i=true:=by
 have one:∀{t:List Nat},ordOk masks t=true->∀l k i i':Nat,t[l]?=some i->t[k]?=some i'->l<k->(masks.getD i' 0).testBit i=true:=by
  intro t ht l k i i' hl hk hlt
  have hl1:=(ah.1 hl)
  have hk1:=(ah.1 hk)
  have:=List.pairwise_iff_getElem.1 (wY ht) l k hl1.1 hk1.1 hlt
  rw[hl1.2,hk1.2]at this
  exact this
 intro l k i i' hl hk hlt
 cases tw with
 | false=>exact Or.inr (one (by simpa using h) l k i i' hl hk hlt)
 | true =>
  rw[if_pos rfl]at h
  match tl,h with
  | a::b::r,h =>
   simp only[ord2,Bool.and_eq_true,List.all_eq_true]at h
   match l,k,hl,hk,hlt with
   | 0,1,_,_,_=>exact Or.inl ⟨rfl,rfl,rfl⟩
   | 0,k+2,hl,hk,_ =>
    simp at hl hk
    subst hl
    exact Or.inr (h.1 i' (ak hk)).1
   | 1,k+2,hl,hk,_ =>
    simp at hl hk
    subst hl
    exact Or.inr (h.1 i' (ak hk)).2
   | l+2,k+2,hl,hk,hlt =>
    simp at hl hk
    exact Or.inr (one h.2 l k i i' hl hk (by omega))
  | [],h=>simp[ord2]at h
  | [_],h=>simp[ord2]at h
theorem Kh {tw:Bool}{ops:Array Oper}{items:List AOper}{masks tl rv:List Nat}(hi:itemsOf P nt ops tl ops.toList 0=some items) (hc:dchk tw ops items masks tl rv=true):Cm P nt ops items masks tl (rv.filterMap (fun i=>items[i]?)) tw:=by
 obtain⟨l1,l2⟩:=yq hi
 simp only[dchk,Bool.and_eq_true,List.all_eq_true]at hc
 obtain⟨⟨⟨⟨c1,c2⟩,c3⟩,c5⟩,c4⟩:=hc
 have pair:∀(i k:Nat) (a b:AOper),items[i]?=some a->items[k]?=some b->pairOk masks tl rv i k a b=true:=fun i k a b ha hb=>c4 (a,i) (mem_zipIdx ha) (b,k) (mem_zipIdx hb)
 refine⟨by simpa using l1,fun i o a ho ha=>?_,fun i o ho ed he hb=>?_,fun i o ho k hk=>?_,fun i hi=>by simpa using c2 i hi,OZ c3,fun i k a b ha hb hn s hs=>?_,fun i k a b ha hb hn hk s hs hr=>?_,fun i k a b ha hb hn hk hmu hst=>?_,fun b hb=>?_⟩
 ·have:=l2 i o a (by simpa using ho) ha
  rw[Nat.zero_add]at this
  exact this
 ·have:=(c1 (o,i) (mem_zipIdx (by simpa using ho))).1 ed he
  simpa[hb] using this
 ·have:=(c1 (o,i) (mem_zipIdx (by simpa using ho))).2
  have hme:masks.getD i 0=zX masks o.after.toList:=by simpa using this
  rw[hme]at hk
  rcases w7 _ _ hk with h|h
  ·simp at h
  ·exact h
 ·have:=pair i k a b ha hb
  simp only[pairOk,hs,Bool.and_eq_true]at this
  have h1:=this.1
  rw[if_neg (by simpa using hn)]at h1
  simp only[Bool.and_eq_true,Bool.or_eq_true,beq_iff_eq,bne_iff_ne,ne_eq,Bool.not_eq_true',decide_eq_true_eq]at h1
  refine⟨fun hne=>h1.1.resolve_left hne,fun hr=>?_⟩
  have:=h1.2.resolve_left (by simp[hr])
  exact this
 ·have:=pair i k a b ha hb
  simp only[pairOk,hs,Bool.and_eq_true]at this
  have h1:=this.1
  rw[if_pos (by simpa using hn)]at h1
  simp only[Bool.or_eq_true,Bool.not_eq_true']at h1
  rcases h1 with(h1|h1)|h1
  ·exact absurd (by simpa using h1) hk
  ·exfalso
   rw[List.contains_eq_mem]at h1
   simp[hr]at h1
  ·exact h1
 ·have:=pair i k a b ha hb
  simp only[pairOk,Bool.and_eq_true]at this
  have h2:=this.2
  have hk':tl.contains k=false:=by simpa using hk
  have hn':tl.contains i=true:=by simpa using hn
  simp only[hn',hk',hmu,hst]at h2
  rcases (by simpa using h2:_\/_) with h3|h3
  ·exact Or.inl h3
  ·right
   simp only[List.mem_filterMap]
   exact⟨k,h3,hb⟩
 ·simp only[List.mem_filterMap]at hb
  obtain⟨k,hk,hb⟩:=hb
  have:=c5 k hk
  rw[hb]at this
  simp only[Bool.and_eq_true,Bool.not_eq_true',Option.isNone_iff_eq_none]at this
  have hkl:k<ops.size:=by
   have h1:=(ah.1 hb).1
   rw[l1]at h1
   simpa using h1
  have It:=l2 k ops[k] b (by simp[hkl]) hb
  rw[Nat.zero_add]at It
  have hop:=It.op
  rw[if_neg (by rw[this.1];simp)]at hop
  exact⟨this.2.1,gq hop,this.2.2⟩
theorem P3 (P:Program) (nt:Nat) (tbl:TTq):Eo P nt (cDr0 P nt tbl):=by
 intro id ops ac h Q e hp hv
 unfold cDr0 at h
 split at h
 case isFalse=>cases h
 rename_i hm
 cases ht:tbl id with
 | none=>simp[ht]at h
 | some p =>
  obtain⟨masks,tl,rv⟩:=p
  simp only[ht]at h
  cases hi:itemsOf P nt ops tl ops.toList 0 with
  | none=>simp[hi]at h
  | some items =>
   simp only[hi]at h
   split at h
   case isFalse=>cases h
   rename_i hc
   simp only[Option.some.injEq]at h
   subst h
   exact KM (K:=Q .normal) (Kh hi hc) hm (fun _ _ h=>h) hv
def twoOk (P:Program) (nt:Nat) (ops:Array Oper) (items:List AOper) (masks tl:List Nat):Bool :=
 match tl with
 | ia::ib::r=>match ops[ia]?,ops[ib]? with
  | some oa,some ob=>match oa.op,ob.op,oa.dst,ob.dst,oa.guard,ob.guard with
   | .alloc ta,.alloc tb,some sa,some sb,none,none=>(dP P ta).isSome&&(dP P tb).isSome&&ia != ib && !r.contains ia && !r.contains ib&&sa != sb&&decide (sa<nt)&&decide (sb<nt) &&
     r.all (fun k=>(masks.getD k 0).testBit ia&&(masks.getD k 0).testBit ib)&&items.zipIdx.all (fun q=>tl.contains q.2||(!q.1.rd.contains sa && !q.1.rd.contains sb&&q.1.dst != some sa&&q.1.dst != some sb))
   | _,_,_,_,_,_=>false
  | _,_=>false
 | _=>false
theorem Mm {ops:Array Oper}{items:List AOper}{masks tl:List Nat}(h:twoOk P nt ops items masks tl=true):∃ia ib r sa sb za zb,VG P nt ops items masks tl ia ib r sa sb za zb:=by
 unfold twoOk at h
 split at h
 case h_2=>cases h
 rename_i ia ib r
 split at h
 case h_2=>cases h
 rename_i oa ob hoa hob
 split at h
 case h_2=>cases h
 rename_i ta tb sa sb h1 h2 h3 h4 h5 h6
 simp only[Bool.and_eq_true,Bool.not_eq_true',bne_iff_ne,ne_eq,decide_eq_true_eq,List.all_eq_true,Option.isSome_iff_exists]at h
 obtain⟨⟨⟨⟨⟨⟨⟨⟨⟨⟨za,c1⟩,⟨zb,c2⟩⟩,c3⟩,c4⟩,c5⟩,c6⟩,c7⟩,c8⟩,c9⟩,c10⟩:=h
 refine⟨ia,ib,r,sa,sb,za,zb,rfl,⟨c3,by simpa using c4,by simpa using c5⟩,⟨oa,ta,hoa,h1,c1,h3,h5⟩,⟨ob,tb,hob,h2,c2,h4,h6⟩,c6,c9,fun k b hb hk=>?_,⟨c7,c8⟩⟩
 have:=c10 (b,k) (mem_zipIdx hb)
 have hk':(ia::ib::r).contains k=false:=by simpa using hk
 simp only[hk',Bool.false_or,Bool.and_eq_true,Bool.not_eq_true',bne_iff_ne,ne_eq]at this
 obtain⟨⟨⟨t1,t2⟩,t3⟩,t4⟩:=this
 exact⟨by simpa using t1,by simpa using t2,t3,t4⟩
def Sy (P:Program) (nt:Nat) (tbl:TTq) (id:Nat) (ops:Array Oper):Option ACode :=
 if P.follows .mixedOrders then
  match tbl id with
  | some (masks,tl,rv)=>match itemsOf P nt ops tl ops.toList 0 with
   | some items=>if dchk true ops items masks tl rv&&twoOk P nt ops items masks tl then
     some (.dreg (((List.range ops.size).filter (fun i=> !tl.contains i)).filterMap (fun i=>items[i]?)) (tl.filterMap (fun i=>items[i]?)) (rv.filterMap (fun i=>items[i]?))) else none
   | none=>none
  | none=>none
 else none
theorem P2 (P:Program) (nt:Nat) (tbl:TTq):Eo P nt (Sy P nt tbl):=by
 intro id ops ac h Q e hp hv
 unfold Sy at h
 split at h
 case isFalse=>cases h
 rename_i hm
 cases ht:tbl id with
 | none=>simp[ht]at h
 | some p =>
  obtain⟨masks,tl,rv⟩:=p
  simp only[ht]at h
  cases hi:itemsOf P nt ops tl ops.toList 0 with
  | none=>simp[hi]at h
  | some items =>
   simp only[hi]at h
   split at h
   case isFalse=>cases h
   rename_i hc
   simp only[Bool.and_eq_true]at hc
   simp only[Option.some.injEq]at h
   subst h
   obtain⟨_,_,_,_,_,_,_,T⟩:=Mm hc.2
   exact Iu (K:=Q .normal) (Kh hi hc.1) T hm (fun _ _ h=>h) hv
end Go.Am
namespace Go.Am
open Go
variable [bW]
variable {P:Program}{nt:Nat}
def AOp.gM:AOp->Bool
 | .mov _=>true
 | .pick _ _ _=>true
 | .bin _ _ _=>true
 | .eqv _ _ _ _ _=>true
 | .un _ _=>true
 | .conv _ _=>true
 | .ext _ _=>true
 | .fld _ _ _ _=>true
 | .bld _ _=>true
 | .bldS _ _ _ _ _=>true
 | .slen _=>true
 | .sidx _ _ _ _ _=>true
 | .sslc _ _ _=>true
 | .mkf _ _ _=>true
 | .mn _ _=>true
 | .mx _ _=>true
 | .mn3 _ _ _=>true
 | .mx3 _ _ _=>true
 | _=>false
theorem CM {op:AOp}(hf:op.gM=true){K:D->Prop}{e:LEnv}{h h':Heap}(hv:vcdOp P op K e h):vcdOp P op K e h':=by
 cases op<;>first|exact hv|cases hf
theorem cr.free {a:AOper}(hf:a.op.gM=true){e:LEnv}{h h':Heap}(hv:cr P a e h):cr P a e h':=by
 obtain⟨d,h1,h2⟩:=hv
 refine⟨d,h1,?_⟩
 cases hg:a.guard with
 | none=>rw[hg]at h2;exact fun K' hk=>CM hf (h2 K' hk)
 | some p =>
  obtain⟨g,want⟩:=p
  rw[hg]at h2
  obtain⟨b,q1,q2,q3⟩:=h2
  exact⟨b,q1,fun hb K' hk=>CM hf (q2 hb K' hk),q3⟩
def xZ (masks tl:List Nat) (k:Nat):Nat:=(tl.filter fun i=>(masks.getD k 0).testBit i).length
def iX (items:List AOper) (masks tl:List Nat) (j:Nat):List AOper:=((List.range items.length).filter fun k=> !tl.contains k&&xZ masks tl k == j).filterMap fun k=>items[k]?
def sRevI (items:List AOper) (masks tl:List Nat) (j i:Nat):List Nat :=
 (List.range items.length).filter fun k=> !tl.contains k&&decide (xZ masks tl k<j) && !(masks.getD i 0).testBit k&&(match items[k]? with|some b=> !b.op.gM|none=>false)
def wP (items:List AOper) (masks tl:List Nat) (j i:Nat):List AOper:=(sRevI items masks tl j i).filterMap fun k=>items[k]?
def sCode (items:List AOper) (masks tl:List Nat):List Nat->Nat->ACode
 | [],j=>.dreg (iX items masks tl j) [] []
 | i::r,j=>.seq (.dreg (iX items masks tl j) (match items[i]? with|some a=>[a]|none=>[⟨none,.dead,none⟩]) (wP items masks tl (j+1) i)) (sCode items masks tl r (j+1))
def sRest (P:Program) (items:List AOper) (masks tl:List Nat):List Nat->Nat->(LEnv->Heap->Prop)->LEnv->Heap->Prop
 | [],_,K=>K
 | i::r,j,K=>match items[i]? with
  | some a=>sD P a fun e h=>AR P (wP items masks tl (j+1) i) e h/\vcVals P (iX items masks tl (j+1)) (sRest P items masks tl r (j+1) K) e h
  | none=>fun _ _=>False
def QA:AOp->Bool
 | .bldS ..=>false
 | .mk ..=>false
 | .call ..=>false
 | .fadd ..=>false
 | .nilq ..=>false
 | _=>true
theorem Me {op:AOp}(hp:QA op=true){K:D->Prop}{e:LEnv}{h:Heap}:vcdOp P op K e h=vcOp P op (fun d _=>K d) e h:=by
 cases op<;>first|rfl|cases hp
theorem CJ {op:AOp}{K K':D->Prop}(hk:∀d,K d->K' d){e:LEnv}{h:Heap}(hv:vcdOp P op K e h):vcdOp P op K' e h:=by
 by_cases hp:QA op=true
 ·rw[Me hp]at hv ⊢
  exact mF (fun d _ hd=>hk d hd) hv
 cases op with
 | bldS a b c d f=>exact⟨hv.1,hv.2.1,hv.2.2.1,hk _ hv.2.2.2⟩
 | call f as =>
  obtain⟨r,h1,h2,h3,h4⟩:=hv
  exact⟨r,h1,h2,h3,hk _ h4⟩
 | mk a b z l c =>
  simp only[vcdOp]at hv ⊢
  exact fh (fun i hi=>fh (fun j hj=>⟨hj.1,hj.2.1,hk _ hj.2.2⟩) hi) hv
 | fadd x o =>
  simp only[vcdOp]at hv ⊢
  split at hv
  ·exact⟨hv.1,hk _ hv.2⟩
  ·exact hk _ hv
  ·exact hv
 | nilq neg x =>
  simp only[vcdOp]at hv ⊢
  split at hv
  ·exact hk _ hv
  ·exact hk _ hv
  ·exact hv
 | _=>exact absurd rfl hp
theorem nN:∀{l:List AOper}{K K':LEnv->Heap->Prop},(∀e h,K e h->K' e h)->∀{e:LEnv}{h:Heap},vcVals P l K e h->vcVals P l K' e h
 | [],_,_,hk,e,h,hv=>hk e h hv
 | o::r,K,K',hk,e,h,hv=>by
  simp only[vcVals,qb]at hv ⊢
  cases hg:o.guard with
  | none =>
   simp only[hg]at hv ⊢
   exact CJ (fun d hd=>nN hk hd) hv
  | some q =>
   obtain⟨j,want⟩:=q
   simp only[hg,aF]at hv ⊢
   cases hb:gv (e.get j)<;>simp only[hb]at hv ⊢<;>try exact hv
   exact⟨fun hb=>CJ (fun d hd=>nN hk hd) (hv.1 hb),fun hb=>nN hk (hv.2 hb)⟩
theorem xL {o:AOper}{K K':LEnv->Heap->Prop}(hk:∀e h,K e h->K' e h){e:LEnv}{h:Heap}(hv:sD P o K e h):sD P o K' e h:=by
 simp only[fW,vguard]at hv ⊢
 cases hg:o.guard with
 | none=>simp only[hg]at hv ⊢;exact mF (fun d h' hh=>hk _ _ hh) hv
 | some q =>
  obtain⟨j,want⟩:=q
  simp only[hg]at hv ⊢
  cases hb:gv (e.get j)<;>simp only[hb]at hv ⊢<;>try exact hv
  exact⟨fun hb=>mF (fun d h' hh=>hk _ _ hh) (hv.1 hb),fun hb=>hk _ _ (hv.2 hb)⟩
theorem wQ {items:List AOper}{masks tl:List Nat}:∀(l:List Nat) (j:Nat){Q:LPost}{e:LEnv}{h:Heap},vcC P (sCode items masks tl l j) Q e h->vcVals P (iX items masks tl j) (sRest P items masks tl l j (Q .normal)) e h
 | [],j,Q,e,h,hv=>hv
 | i::r,j,Q,e,h,hv=>by
  simp only[sCode,vcC]at hv
  refine nN (fun e h hv=>?_) hv
  simp only[sRest]
  have hv:=wH hv
  cases hi:items[i]? with
  | none=>simp only[hi,eW,fW,vcOp]at hv
  | some a =>
   simp only[hi,eW]at hv ⊢
   exact xL (fun e h hh=>⟨hh.1,wQ r (j+1) hh.2⟩) hv
structure tM (P:Program) (nt:Nat) (ops:Array Oper) (items:List AOper) (masks tl:List Nat):Prop where
 len:items.length=ops.size
 itv:∀(i:Nat) (o:Oper) (a:AOper),ops[i]?=some o->items[i]?=some a->i∉tl->Item P nt ops false o a
 itt:∀(i:Nat) (o:Oper),ops[i]?=some o->i∈tl->∃fz:Bool,cOper P fz nt ops o=items[i]?
 edge:∀(i:Nat) (o:Oper),ops[i]?=some o->∀e∈o.after.toList,Region.binds .any e=true->e.on<i
 mask:∀(i:Nat) (o:Oper),ops[i]?=some o->∀k,(masks.getD i 0).testBit k=true->∃e,e∈o.after.toList/\Region.binds .any e=true/\(k=e.on\/(masks.getD e.on 0).testBit k=true)
 tlt:∀i∈tl,i<ops.size
 stg:∀(k l i:Nat),k<ops.size->k∉tl->tl[l]?=some i->((masks.getD k 0).testBit i=true↔l<xZ masks tl k)
 rdv:∀(i k:Nat) (a b:AOper),items[i]?=some a->items[k]?=some b->i∉tl->∀s,a.dst=some s->(i≠k->b.dst≠some s)/\(s∈b.rd->i<k/\(masks.getD k 0).testBit i=true/\(k∉tl->xZ masks tl i<=xZ masks tl k))
 rdt:∀(i k:Nat) (a b:AOper),items[i]?=some a->items[k]?=some b->i∈tl->k∉tl->∀s,a.dst=some s->s∈b.rd->(masks.getD k 0).testBit i=true\/(masks.getD i 0).testBit k=true
 rev:∀(l i:Nat),tl[l]?=some i->∀b,b∈wP items masks tl (l+1) i->b.guard=none/\b.dst.isSome=true
structure Ux (P:Program) (nt:Nat) (ops:Array Oper) (items:List AOper) (masks tl:List Nat):Prop extends tM P nt ops items masks tl where
 tord:∀l k i i':Nat,tl[l]?=some i->tl[k]?=some i'->l<k->(masks.getD i' 0).testBit i=true
variable {ops:Array Oper}{items:List AOper}{masks tl:List Nat}
theorem Na (S:tM P nt ops items masks tl):∀(i:Nat),i<ops.size->∀k,(masks.getD i 0).testBit k=true->k<i:=by
 intro i
 induction i using Nat.strongRecOn with
 | _ i ih =>
  intro hi k hk
  have ho:ops[i]?=some ops[i]:=by simp[hi]
  obtain⟨e,he,hb,hc⟩:=S.mask i _ ho k hk
  have hlt:=S.edge i _ ho e he hb
  rcases hc with h|h
  ·omega
  ·have:=ih e.on hlt (by omega) k h
   omega
theorem JM (S:tM P nt ops items masks tl){listed:Array Bool}(hsz:listed.size=ops.size) (hdc:∀i k,i<ops.size->cA listed i=true->(masks.getD i 0).testBit k=true->cA listed k=true)
  {i:Nat}(hi:i∈Region.ready .any ops listed):SN ops masks listed i:=by
 obtain⟨h1,h2,h3⟩:=Da hi
 refine⟨h1,h2,fun k hk=>?_⟩
 have ho:ops[i]?=some ops[i]:=by simp[h1]
 obtain⟨e,he,hb,hc⟩:=S.mask i _ ho k hk
 have hon:=S.edge i _ ho e he hb
 have hl:cA listed e.on=true:=by
  have:=h3 _ ho e he hb
  unfold cA
  have hsz:e.on<listed.size:=by rw[hsz];omega
  simpa[Array.getD,hsz] using this
 rcases hc with rfl|h
 ·exact hl
 ·exact hdc e.on k (by omega) hl h
theorem H3 (S:tM P nt ops items masks tl){listed:Array Bool}(hsz:listed.size=ops.size) (hr:Region.ready .any ops listed=[]):∀i,i<ops.size->cA listed i=true:=by
 intro i
 induction i using Nat.strongRecOn with
 | _ i ih =>
  intro hi
  by_cases hl:cA listed i=true
  ·exact hl
  ·exfalso
   have hmem:i∈Region.ready .any ops listed:=by
    unfold Region.ready
    simp only[List.mem_filter,List.mem_range,Bool.and_eq_true,Bool.not_eq_true']
    refine⟨hi,by unfold cA at hl;simpa using hl,?_⟩
    have ho:ops[i]?=some ops[i]:=by simp[hi]
    rw[ho]
    simp only[Option.map_some,Option.getD_some,Array.all_eq_true']
    intro e he
    by_cases hb:Region.binds .any e=true
    ·have hlt:=S.edge i _ ho e (by simpa using he) hb
     have:=ih e.on hlt (by omega)
     unfold cA at this
     have hs:e.on<listed.size:=by omega
     simp[Array.getD,hs]at this ⊢
     simp[this]
    ·simp[hb]
   rw[hr]at hmem
   simp at hmem
theorem QQ (S:tM P nt ops items masks tl){JJ:Array Bool->Act->World->Prop}{Q:Exit->Act->World->Prop}{r:Option Nat}
  (hsz:∀listed a w,JJ listed a w->listed.size=ops.size) (hdc:∀listed a w,JJ listed a w->∀i k,i<ops.size->cA listed i=true->(masks.getD i 0).testBit k=true->cA listed k=true)
  (step:∀listed a w i,JJ listed a w->i∈Region.ready .any ops listed->wpOpIn (rF r) 0 P ops Q i (JJ (listed.setIfInBounds i true)) a w)
  (hq:∀listed a w,JJ listed a w->(∀i,i<ops.size->cA listed i=true)->Q .normal a w):∀(fuel:Nat) (listed:Array Bool) (a:Act) (w:World),left ops.size listed<=fuel->JJ listed a w->wpAnyIn (rF r) 0 P .any ops Q fuel listed a w:=by
 have done:∀(listed:Array Bool) (a:Act) (w:World),JJ listed a w->Region.ready .any ops listed=[]->Q .normal a w:=by
  intro listed a w hJ hr
  exact hq listed a w hJ (H3 S (hsz _ _ _ hJ) hr)
 intro fuel
 induction fuel with
 | zero =>
  intro listed a w hl hJ
  have hr:Region.ready .any ops listed=[]:=by
   cases hrd:Region.ready .any ops listed with
   | nil=>rfl
   | cons x r =>
    exfalso
    have hm:x∈Region.ready .any ops listed:=by rw[hrd];simp
    have R:=JM S (hsz _ _ _ hJ) (hdc _ _ _ hJ) hm
    have:x∈(List.range ops.size).filter fun i=> !cA listed i:=by simp[R.lt,R.un]
    have h0:=List.length_pos_of_mem this
    unfold left at hl
    omega
  exact⟨hr,done listed a w hJ hr⟩
 | succ fuel ih =>
  intro listed a w hl hJ
  refine⟨done listed a w hJ,fun i hi=>?_⟩
  have R:=JM S (hsz _ _ _ hJ) (hdc _ _ _ hJ) hi
  refine wpOpIn_mono (fun a' w' hJ'=>ih _ a' w' ?_ hJ') (step listed a w i hJ hi)
  have hil:i<listed.size:=by rw[hsz _ _ _ hJ];exact R.lt
  have:=F7 (l:=List.range ops.size) (p:=fun i=> !cA listed i) (q:=fun k=> !cA (listed.setIfInBounds i true) k) (fun x _ hx=>by
   rw[dk hil]at hx
   split at hx
   ·simp at hx
   ·exact hx) (i:=i) (by simpa using R.lt) (by simp[R.un]) (by simp[dk hil])
  unfold left at hl ⊢
  omega
structure Jr (P:Program) (nt:Nat) (ops:Array Oper) (items:List AOper) (masks tl:List Nat) (X:XT) (L:(Nat->Option Nat)->Heap->World->Prop) (w₀:World) (K:LEnv->Heap->Prop) (listed:Array Bool) (a:Act) (w:World)
  (ρ:Nat->Option Nat) (h:Heap) (e:LEnv) (j:Nat):Prop where
 size:listed.size=ops.size
 dc:∀i k,i<ops.size->cA listed i=true->(masks.getD i 0).testBit k=true->cA listed k=true
 le:L ρ h w
 hr:av ⟨ρ,X,h,w.heap⟩
 ws:WS w₀ w
 defers:fO ⟨ρ,X,h,w.heap⟩ a.defers
 tsz:a.tmps.size=nt
 jle:j<=tl.length
 rest:sRest P items masks tl (tl.drop j) j K e h
 prog:∀l i,tl[l]?=some i->(cA listed i=true↔l<j)
 rel:∀s,(∃i b,items[i]?=some b/\i∉tl/\cA listed i=false/\b.dst=some s)\/aB ⟨ρ,X,h,w.heap⟩ (e.get s) (a.tmps.getD s Go.undef)
 val:∀i b,items[i]?=some b->i∉tl->cA listed i=false->xZ masks tl i<=j->cr P b e h
theorem dC {j:Nat}{b:AOper}(hb:b∈iX items masks tl j):∃i,items[i]?=some b/\i∉tl/\xZ masks tl i=j:=by
 simp only[iX,List.mem_filterMap,List.mem_filter,List.mem_range,Bool.and_eq_true,beq_iff_eq,Bool.not_eq_true']at hb
 obtain⟨i,⟨_,h1,h2⟩,h3⟩:=hb
 exact⟨i,h3,by simpa using h1,h2⟩
theorem xY {i:Nat}{b:AOper}(hi:items[i]?=some b) (hn:i∉tl):b∈iX items masks tl (xZ masks tl i):=by
 simp only[iX,List.mem_filterMap,List.mem_filter,List.mem_range,Bool.and_eq_true,beq_iff_eq,Bool.not_eq_true']
 exact⟨i,⟨(ah.1 hi).1,by simpa using hn,rfl⟩,hi⟩
theorem Co (S:tM P nt ops items masks tl){j:Nat}{K:LEnv->Heap->Prop}{e:LEnv}{h:Heap}(hv:vcVals P (iX items masks tl j) K e h) :
  ∃T:LEnv,K T h/\(∀s,(∀a,a∈iX items masks tl j->a.dst≠some s)->T.get s=e.get s)/\∀a,a∈iX items masks tl j->cr P a T h:=by
 have opOf:∀(i:Nat) (b:AOper),items[i]?=some b->i∉tl->Item P nt ops false (ops[i]!) b:=by
  intro i b hi hn
  have hl:i<ops.size:=by rw[<- S.len];exact(ah.1 hi).1
  exact S.itv i _ b (by simp[hl]) hi hn
 refine GM _ (fun b hb=>?_) (fun b hb s hs hrd=>?_) ?_ hv
 ·obtain⟨i,h1,h2,h3⟩:=dC hb
  have:=(opOf i b h1 h2).op
  rw[if_neg (by simp)]at this
  exact gq this
 ·obtain⟨i,h1,h2,h3⟩:=dC hb
  have:=((S.rdv i i b b h1 h1 h2 s hs).2 hrd).1
  omega
 ·have hpw:((List.range items.length).filter fun k=> !tl.contains k&&xZ masks tl k == j).Pairwise (· < ·):=List.Pairwise.filter _ List.pairwise_lt_range
  have hall:∀i,i∈((List.range items.length).filter fun k=> !tl.contains k&&xZ masks tl k == j)->i∉tl:=by
   intro i hi
   simp only[List.mem_filter,Bool.and_eq_true]at hi
   simpa using hi.2.1
  have:∀(l:List Nat),(∀i∈l,i∉tl)->l.Pairwise (· < ·)->(l.filterMap (fun i=>items[i]?)).Pairwise (fun a b=>∀s,b.dst=some s->a.dst≠some s/\s∉a.rd):=by
   intro l
   induction l with
   | nil=>intro _ _;simp
   | cons x r ih =>
    intro hn hp'
    rw[List.pairwise_cons]at hp'
    have ih':=ih (fun i hi=>hn i (by simp[hi])) hp'.2
    cases hx:items[x]? with
    | none=>rw[List.filterMap_cons_none hx];exact ih'
    | some ax =>
     rw[List.filterMap_cons_some hx,List.pairwise_cons]
     refine⟨fun b hb s hs=>?_,ih'⟩
     simp only[List.mem_filterMap]at hb
     obtain⟨k,hk,hb⟩:=hb
     have hlt:=hp'.1 k hk
     have hkn:=hn k (by simp[hk])
     refine⟨(S.rdv k x b ax hb hx hkn s hs).1 (by omega),fun hrd=>?_⟩
     have:=((S.rdv k x b ax hb hx hkn s hs).2 hrd).1
     omega
  exact this _ hall hpw
theorem wpOp_put {ops:Array Oper}{i:Nat}{K:Act->World->Prop}{a:Act}{w:World}{Q:Exit->Act->World->Prop}{r:Option Nat}(h:wpOpIn (rF r) 0 P ops Q i K a w) :
    wpOpIn (rF r) 0 P ops Q i (fun a' w'=>K a' w'/\∀s,(∀o,ops[i]?=some o->o.dst≠some s)->a'.tmps.getD s Go.undef=a.tmps.getD s Go.undef) a w:=by
  unfold wpOpIn at h ⊢
  cases ho:ops[i]? with
  | none=>simp only[ho]at h ⊢;exact⟨h,fun s _=>trivial⟩
  | some o =>
    simp only[ho]at h ⊢
    have put:∀(d:List Deferred) (v:Value) (s:Nat),(∀o',some o=some o'->o'.dst≠some s)->(({ a with defers:=d }:Act).put o.dst v).tmps.getD s Go.undef=a.tmps.getD s Go.undef:=by
      intro d v s hs
      have:=hs o rfl
      cases hd:o.dst with
      | none=>rfl
      | some x =>
        have hx:x≠s:=by rintro rfl;exact this hd
        simp[Act.put,hx]
    split
    · rename_i hw
      rw[if_pos hw]at h
      unfold Oper.wpIn at h ⊢
      refine⟨h.1,?_⟩
      have h:=h.2
      generalize (o.semAt (rF r).round a.eval).run P w=res at h ⊢
      cases res with
      | ok n w' =>
        cases n<;>simp only[Oper.uponIn]at h ⊢<;>first
          | exact h
          | exact⟨h,fun s hs=>put _ _ s hs⟩
          | exact⟨h,fun s hs=>put a.defers _ s hs⟩
          | (refine⟨h.1,CallsIn.mono h.2 (fun e w'' he=>?_)⟩
             cases e
             · exact⟨he,fun s hs=>put a.defers _ s hs⟩
             · exact he
             · exact he)
          | (refine⟨h.1,RoundIn.mono h.2 (fun e w'' he=>?_)⟩
             cases e
             · exact⟨he,fun s hs=>put a.defers _ s hs⟩
             · exact he
             · exact he)
          | (refine⟨h.1,RowsIn.mono h.2 (fun v w'' he=>?_)⟩
             exact⟨he,fun s hs=>put a.defers _ s hs⟩)
      | halt x w' =>
        cases x<;>simp only[Oper.uponIn]at h ⊢<;>exact h
    · rename_i hw
      rw[if_neg hw]at h
      exact⟨h.1,h.2,fun s hs=>put a.defers _ s hs⟩
open Classical in
theorem Ie (S:tM P nt ops items masks tl){X:XT}{L:(Nat->Option Nat)->Heap->World->Prop}(Lmono:∀ρ h w ρ' h' w',L ρ h w->Ctx.le ⟨ρ,X,h,w.heap⟩ ⟨ρ',X,h',w'.heap⟩->L ρ' h' w'){w₀:World}{K:LEnv->Heap->Prop}{listed:Array Bool}{a:Act}{w:World}
  {Q:Exit->Act->World->Prop}{rd:Option Nat}{ρ:Nat->Option Nat}{h:Heap}{e:LEnv}{j:Nat}
  (hJ:Jr P nt ops items masks tl X L w₀ K listed a w ρ h e j) {i:Nat}(R:SN ops masks listed i) (hlj:∀l,tl[l]?=some i->l=j) :
  wpOpIn (rF rd) 0 P ops Q i (fun a' w'=>∃ρ' h' e' j',Jr P nt ops items masks tl X L w₀ K (listed.setIfInBounds i true) a' w' ρ' h' e' j'/\(j'=j\/(j'=j+1/\tl[j]?=some i))/\Ctx.le ⟨ρ,X,h,w.heap⟩ ⟨ρ',X,h',w'.heap⟩ /\
   ∀s,(∀k b,items[k]?=some b->(k∉tl/\xZ masks tl k≠0)\/(k=i/\i∈tl)->b.dst≠some s)->e'.get s=e.get s) a w:=by
 have hdc:=hJ.dc
 have hJsize:=hJ.size
 have hil:i<listed.size:=by rw[hJ.size];exact R.lt
 have hset:=fun k=>dk (k:=k) hil
 obtain⟨o,ho⟩:∃o,ops[i]?=some o:=⟨ops[i]'R.lt,by simp[R.lt]⟩
 have hitl:i<items.length:=by rw[S.len];exact R.lt
 obtain⟨a0,hai⟩:∃x,items[i]?=some x:=⟨items[i]'hitl,by simp[hitl]⟩
 obtain⟨_,_,hle,hr,hws,hdef,hsz,hj,htail,hprog,hrel,hval⟩:=hJ
 let c:Ctx:=⟨ρ,X,h,w.heap⟩
 let pend:Nat->Prop:=fun s=>∃k b,items[k]?=some b/\k∉tl/\cA listed k=false/\b.dst=some s
 let ef:LEnv:=(a0.rd++List.range nt).map fun s=>(s,if pend s then D.undef else e.get s)
 have efget:∀s,ef.get s=if s∈a0.rd++List.range nt then(if pend s then .undef else e.get s) else .undef:=fun s=>Dy _ _ s
 have hsim:ot c nt ef.get a:=by
  refine⟨hr.glob,hr.lo,hdef,hsz,fun s=>?_⟩
  rw[efget]
  split
  ·split
   ·exact .undef _
   ·rename_i hp
    exact(hrel s).resolve_left hp
  ·exact .undef _
 have hread:∀r∈a0.rd,ef.get r=e.get r:=by
  intro r hr'
  rw[efget,if_pos (by simp[hr']),if_neg]
  rintro⟨k,b,hb,hk,hun,hd⟩
  have hm:=((S.rdv k i b a0 hb hai hk r hd).2 hr').2.1
  have:=R.anc k hm
  rw[hun]at this
  cases this
 have hread':∀r∈a0.op.reads,e.get r=ef.get r:=fun r hr'=>(hread r (by simp[AOper.rd,hr'])).symm
 have dc':=NK hil R hdc
 have keep:∀{ρ':Nat->Option Nat}{h':Heap}{t':Env}{a':Act}{w':World}{d:D},c.le ⟨ρ',c.X,h',w'.heap⟩->ot ⟨ρ',c.X,h',w'.heap⟩ nt t' a'->t'=(ef.put o.dst d).get->∀s,o.dst≠some s->¬pend s->aB ⟨ρ',c.X,h',w'.heap⟩ (e.get s) (a'.tmps.getD s Go.undef):=by
  intro ρ' h' t' a' w' d hle' hs' ht s hs hp
  by_cases hsn:s<nt
  ·have:=hs'.rel s
   rw[ht,LEnv.bf]at this
   have e1:Env.put ef.get o.dst d s=e.get s:=by
    have:Env.put ef.get o.dst d s=ef.get s:=by
     cases hd:o.dst with
     | none=>rfl
     | some x =>
      have:s≠x:=by rintro rfl;exact hs hd
      simp[Env.put,aD,this]
    rw[this,efget,if_pos (by simp[hsn]),if_neg hp]
   rw[e1]at this
   exact this
  ·have h1:=(hrel s).resolve_left hp
   have e1:a.tmps.getD s Go.undef=Go.undef:=by simp[Array.getD,hsz,hsn]
   have e2:a'.tmps.getD s Go.undef=Go.undef:=by simp[Array.getD,hs'.size,hsn]
   rw[e1]at h1
   rw[e2]
   exact h1.mono hle'
 by_cases htl:i∈tl
 ·
  obtain⟨l,hl⟩:=aO htl
  have hlj':l=j:=hlj l hl
  subst hlj'
  have hlt:=(ah.1 hl).1
  have hli:tl[l]=i:=(ah.1 hl).2
  rw[List.drop_eq_getElem_cons hlt,hli]at htail
  simp only[sRest,hai]at htail
  obtain⟨fz,hco⟩:∃fz:Bool,cOper P fz nt ops o=some a0:=by
   obtain⟨fz,h⟩:=S.itt i o ho htl
   exact⟨fz,by rw[h,hai]⟩
  unfold cOper at hco
  split at hco
  case isFalse=>cases hco
  rename_i hdst
  have hd:∀j,o.dst=some j->j<nt:=by intro j hj;rw[hj]at hdst;simpa using hdst
  have hop:∃op,cOp P fz o=some op/\a0.op=op/\a0.dst=o.dst/\(o.guard=none->a0.guard=none)/\∀j want,o.guard=some (j,want)->∃s,(ops[j]?).bind (·.dst)=some s/\a0.guard=some (s,want):=by
   cases hop:cOp P fz o with
   | none=>simp[hop]at hco
   | some op =>
    simp only[hop]at hco
    cases hg:o.guard with
    | none=>simp[hg]at hco;subst hco;exact⟨op,rfl,rfl,rfl,fun _=>rfl,fun j w hh=>by cases hh⟩
    | some p =>
     obtain⟨j,want⟩:=p
     simp only[hg]at hco
     cases hj:(ops[j]?).bind (·.dst) with
     | none=>simp[hj]at hco
     | some s=>simp[hj]at hco;subst hco;exact⟨op,rfl,rfl,rfl,fun hh=>by(cases hh),fun j' w hh=>by cases hh;exact⟨s,hj,rfl⟩⟩
  obtain⟨op,hop,e1,e2,gn,gs⟩:=hop
  subst e1
  have hnod:=nY hop
  let KK:LEnv->Heap->Prop:=fun e h=>AR P (wP items masks tl (l+1) i) e h/\vcVals P (iX items masks tl (l+1)) (sRest P items masks tl (tl.drop (l+1)) (l+1) K) e h
  let Kenv:Env->Heap->Prop:=fun t' h'=>∃d,t'=(ef.put o.dst d).get/\KK (e.put a0.dst d) h'
  have run:vcOp P a0.op (fun d h'=>KK (e.put a0.dst d) h') e h->Ft P nt o (pG P nt ops [] Kenv) ef.get h:=by
   intro hv
   have:=pE (nt:=nt) hop hd _ ef h (wI hread' _ h hv)
   refine gu ?_ this
   rintro t' h' ⟨d,rfl,hk⟩
   exact fu ⟨d,rfl,hk⟩
  have hx:pG P nt ops [i] Kenv ef.get h:=by
   refine gH ho hnod a0.guard (fun j' want hg=>by obtain⟨s,h1,h2⟩:=gs j' want hg;exact⟨s,h1,h2⟩) gn hd ?_
   simp only[fW,vguard]at htail
   cases hg:a0.guard with
   | none=>simp only[hg]at htail;exact run htail
   | some p =>
    obtain⟨g,want⟩:=p
    simp only[hg]at htail
    cases hb:gv (e.get g)<;>simp only[hb]at htail<;>try exact htail.elim
    rename_i b
    refine⟨b,by rw[hread g (by simp[AOper.rd,hg])];exact hb,fun hbw=>run (htail.1 hbw),fun hbw=>?_⟩
    exact fu ⟨gU,by rw[LEnv.bf],htail.2 hbw⟩
  refine Dc (c:=c) hx rfl hr hsim ?_
  rintro a' w' ⟨ρ',t',h',k1,k2,k3,k4,d,ht,hk1,hk2⟩
  have hput:∀s,a0.dst≠some s->(e.put a0.dst d).get s=e.get s:=by
   intro s hs
   rw[LEnv.bf]
   cases hd:a0.dst with
   | none=>rfl
   | some x =>
    have:s≠x:=by rintro rfl;exact hs hd
    simp[Env.put,aD,this]
  obtain⟨T,t1,t2,t3⟩:=Co S hk2
  have unl:∀k b,items[k]?=some b->k∉tl->xZ masks tl k=l+1->cA listed k=false:=by
   intro k b hb hk hst
   have hkl:k<ops.size:=by rw[<- S.len];exact(ah.1 hb).1
   have hm:=(S.stg k l i hkl hk hl).2 (by omega)
   cases hlk:cA listed k with
   | false=>rfl
   | true =>
    have:=hdc k i hkl hlk hm
    rw[R.un]at this
    cases this
  refine⟨ρ',h',T,l+1,⟨by simp[hJsize],dc',Lmono _ _ _ _ _ _ hle k1,k2,hws.trans k3,k4.defers,k4.size,by omega,t1,fun l' i' hl'=>?_,fun s=>?_,fun k b hb hk' hun hst=>?_⟩,Or.inr ⟨rfl,hl⟩,k1,fun s hs=>?_⟩
  rotate_right
  ·rw[t2 s (fun b hb hbd=>by obtain⟨k,h1,h2,h3⟩:=dC hb;exact hs k b h1 (Or.inl ⟨h2,by omega⟩) hbd)]
   exact hput s (hs i a0 hai (Or.inr ⟨rfl,htl⟩))
  ·rw[hset]
   by_cases hii:i'=i
   ·subst hii
    rw[if_pos rfl]
    have:l'=l:=hlj l' hl'
    simp[this]
   ·rw[if_neg hii,hprog l' i' hl']
    have:l'≠l:=by rintro rfl;rw[hl]at hl';cases hl';exact hii rfl
    omega
  ·by_cases hex:∃b,b∈iX items masks tl (l+1)/\b.dst=some s
   ·obtain⟨b,hb,hbd⟩:=hex
    obtain⟨k,h1,h2,h3⟩:=dC hb
    left
    refine⟨k,b,h1,h2,?_,hbd⟩
    rw[hset,if_neg (by rintro rfl;exact h2 htl)]
    exact unl k b h1 h2 h3
   ·rw[t2 s (fun b hb hbd=>hex ⟨b,hb,hbd⟩)]
    by_cases hs:a0.dst=some s
    ·right
     have:=k4.rel s
     rw[ht,LEnv.bf, <- e2,hs]at this
     rw[LEnv.bf,hs]
     simpa[Env.put,aD] using this
    ·rw[hput s hs]
     by_cases hp:pend s
     ·left
      obtain⟨k,b,hb,hk',hun,hd⟩:=hp
      refine⟨k,b,hb,hk',?_,hd⟩
      rw[hset,if_neg (by rintro rfl;exact hk' htl)]
      exact hun
     ·right
      exact keep k1 k4 ht s (by rw[<- e2];exact hs) hp
  ·rw[hset]at hun
   split at hun
   ·cases hun
   ·rename_i hki
    rcases Nat.lt_or_ge (xZ masks tl k) (l+1) with hlt'|hge
    case inr =>
     have:xZ masks tl k=l+1:=by omega
     have hm:=xY (masks:=masks) hb hk'
     rw[this]at hm
     exact t3 b hm
    have hkl:k<ops.size:=by rw[<- S.len];exact(ah.1 hb).1
    have v0:=hval k b hb hk' hun (by omega)
    have hnanc:(masks.getD i 0).testBit k≠true:=by
     intro hm
     have:=R.anc k hm
     rw[hun]at this
     cases this
    have hni:¬(masks.getD k 0).testBit i=true:=by
     intro hm
     have:=(S.stg k l i hkl hk' hl).1 hm
     omega
    have vput:cr P b (e.put a0.dst d) h':=by
     by_cases hf:b.op.gM=true
     ·refine cr.congr (e:=e) (fun r hr'=>?_) (fun s hs=>?_) (cr.free hf v0)
      ·rw[hput r]
       intro hd
       rcases S.rdt i k a0 b hai hb htl hk' r hd hr' with hm|hm
       ·exact hni hm
       ·exact hnanc hm
      ·exact hput s ((S.rdv k i b a0 hb hai hk' s hs).1 hki)
     ·have hm:b∈wP items masks tl (l+1) i:=by
       simp only[wP,sRevI,List.mem_filterMap,List.mem_filter,List.mem_range,Bool.and_eq_true,decide_eq_true_eq,Bool.not_eq_true']
       exact⟨k,⟨by rw[S.len];exact hkl,⟨⟨by simpa using hk',hlt'⟩,by simpa using hnanc⟩,by rw[hb];simpa using hf⟩,hb⟩
      have hopb:∀b',b'∈wP items masks tl (l+1) i->b'.guard=none/\b'.op.isVal=true:=by
       intro b' hb'
       refine⟨(S.rev l i hl b' hb').1,?_⟩
       simp only[wP,sRevI,List.mem_filterMap,List.mem_filter,List.mem_range,Bool.and_eq_true,decide_eq_true_eq,Bool.not_eq_true']at hb'
       obtain⟨k2,⟨q1,⟨⟨q2,q3⟩,q4⟩,q5⟩,q6⟩:=hb'
       have q7:k2<ops.size:=by rw[<- S.len];exact q1
       have:=(S.itv k2 ops[k2] b' (by simp[q7]) q6 (by simpa using q2)).op
       rw[if_neg (by simp)]at this
       exact gq this
      exact uk hopb hk1 b hm (S.rev l i hl b hm).2
    refine cr.congr (fun r hr'=>(t2 r fun x hx hxd=>?_).symm) (fun s hs=>t2 s fun x hx hxd=>?_) vput
    ·obtain⟨m,m1,m2,m3⟩:=dC hx
     have:=((S.rdv m k x b m1 hb m2 r hxd).2 hr').2.2 hk'
     omega
    ·obtain⟨m,m1,m2,m3⟩:=dC hx
     have hmk:k≠m:=by rintro rfl;omega
     exact(S.rdv k m b x hb m1 hk' s hs).1 hmk hxd
 ·
  have It:=S.itv i o a0 ho hai htl
  have hsti:xZ masks tl i<=j:=by
   rcases Nat.lt_or_ge j (xZ masks tl i) with hlt|hge
   ·exfalso
    have hjl:j<tl.length:=by
     have:xZ masks tl i<=tl.length:=List.length_filter_le _ _
     omega
    have hm:=(S.stg i j tl[j] R.lt htl (by simp[hjl])).2 hlt
    have:=(hprog j tl[j] (by simp[hjl])).1 (R.anc _ hm)
    omega
   ·exact hge
  obtain⟨d,hd1,hd2⟩:=hval i a0 hai htl R.un hsti
  have hop:cdOp P o=some a0.op:=by have:=It.op;rw[if_neg (by simp)]at this;exact this
  have hnod:=qF hop
  let Kenv:Env->Heap->Prop:=fun t' h'=>t'=(ef.put o.dst d).get/\h'=h
  have run:(∀K':D->Prop,K' d->vcdOp P a0.op K' e h)->Ft P nt o (pG P nt ops [] Kenv) ef.get h:=by
   intro hv
   have:=xn (nt:=nt) hop It.dlt (gj hread' (· = d) h (hv (· = d) rfl))
   refine gu ?_ this
   rintro t' h' ⟨d',rfl,rfl,rfl⟩
   exact fu ⟨rfl,rfl⟩
  have hx:pG P nt ops [i] Kenv ef.get h:=by
   refine gH ho hnod a0.guard (fun j' want hg=>by obtain⟨s,h1,h2⟩:=It.gs j' want hg;exact⟨s,h1,h2⟩) It.gn It.dlt ?_
   cases hg:a0.guard with
   | none=>rw[hg]at hd2;exact run hd2
   | some p =>
    obtain⟨g,want⟩:=p
    rw[hg]at hd2
    obtain⟨b,q1,q2,q3⟩:=hd2
    refine⟨b,by rw[hread g (by simp[AOper.rd,hg])];exact q1,fun hbw=>run (q2 hbw),fun hbw=>?_⟩
    exact fu ⟨by rw[LEnv.bf,q3 hbw],rfl⟩
  refine Dc (c:=c) hx rfl hr hsim ?_
  rintro a' w' ⟨ρ',t',h',k1,k2,k3,k4,ht,rfl⟩
  refine⟨ρ',h',e,j,⟨by simp[hJsize],dc',Lmono _ _ _ _ _ _ hle k1,k2,hws.trans k3,k4.defers,k4.size,hj,htail,fun l' i' hl'=>?_,fun s=>?_,fun k b hb hk' hun hst=>?_⟩,Or.inl rfl,k1,fun s hs=>rfl⟩
  ·rw[hset,if_neg (by rintro rfl;exact htl (ak hl'))]
   exact hprog l' i' hl'
  ·by_cases hs:a0.dst=some s
   ·right
    have:=k4.rel s
    rw[ht,LEnv.bf, <- It.dst,hs]at this
    rw[hd1 s hs]
    simpa[Env.put,aD] using this
   ·by_cases hp:pend s
    ·left
     obtain⟨k,b,hb,hk',hun,hd⟩:=hp
     refine⟨k,b,hb,hk',?_,hd⟩
     rw[hset,if_neg (by rintro rfl;rw[hai]at hb;cases hb;exact hs hd)]
     exact hun
    ·right
     exact keep k1 k4 ht s (by rw[<- It.dst];exact hs) hp
  ·rw[hset]at hun
   split at hun
   ·cases hun
   ·exact hval k b hb hk' hun hst
theorem MO {id:Nat}(S:Ux P nt ops items masks tl) (hm:P.follows .mixedOrders=true){Q:LPost}{e:LEnv}{h:Heap}(hv:vcC P (sCode items masks tl tl 0) Q e h):o9 P nt (.region id ops true) (fun x=>up (Q x)) e.get h:=by
 intro rd c w a hh hp hr hs _
 subst hh
 refine wpIn_region_any hm ?_
 obtain⟨T,t1,t2,t3⟩:=Co S.totM (wQ tl 0 hv)
 have hfalse:∀i,i<ops.size->cA (Array.replicate ops.size false) i=false:=by intro i hi;unfold cA;simp[Array.getD,hi]
 have hlt:∀i b,items[i]?=some b->i<ops.size:=fun i b hb=>by rw[<- S.len];exact(ah.1 hb).1
 have hce:(⟨c.ρ,c.X,c.h,w.heap⟩:Ctx)=c:=by rw[<- hp]
 refine QQ S.totM (JJ:=fun listed a' w'=>∃ρ h e j,Jr P nt ops items masks tl c.X (fun ρ h w=>c.le ⟨ρ,c.X,h,w.heap⟩) w (Q .normal) listed a' w' ρ h e j) (fun _ _ _ ⟨_,_,_,_,hJ⟩=>hJ.size) (fun _ _ _ ⟨_,_,_,_,hJ⟩=>hJ.dc) (fun listed a' w' i hJ hi=>?_) (fun listed a' w' hJ hall=>?_) ops.size _ a _ (Nat.le_trans (List.length_filter_le _ _) (by simp)) ?_
 ·obtain⟨ρ,h,e,j,hJ⟩:=hJ
  have R:=JM S.totM hJ.size hJ.dc hi
  refine wpOpIn_mono (fun a' w' ⟨ρ',h',e',j',hJ',_⟩=>⟨ρ',h',e',j',hJ'⟩) (Ie S.totM (fun ρ h w ρ' h' w' l k=>Ctx.le.trans l k) hJ R fun l hl=>?_)
  have h1:¬l<j:=by
   intro hlt
   have:=(hJ.prog l i hl).2 hlt
   rw[R.un]at this
   cases this
  rcases Nat.lt_or_ge j l with hgt|hge
  ·have hjl:j<tl.length:=Nat.lt_trans hgt (ah.1 hl).1
   have hpw:=S.tord j l tl[j] i (by simp[hjl]) hl hgt
   have:=(hJ.prog j tl[j] (by simp[hjl])).1 (R.anc _ hpw)
   omega
  ·omega
 ·obtain⟨ρ,h,e',j,hJ⟩:=hJ
  obtain⟨_,_,hle,hrr,hws,hdef,hsz,hj,htail,hprog,hrel,hval⟩:=hJ
  have hjl:j=tl.length:=by
   rcases Nat.lt_or_ge j tl.length with hlt|hge
   ·have:=(hprog j tl[j] (by simp[hlt])).1 (hall _ (S.tlt _ (List.getElem_mem hlt)))
    omega
   ·omega
  subst hjl
  rw[List.drop_length]at htail
  refine⟨ρ,e'.get,h,hle,hrr,hws,⟨hrr.glob,hrr.lo,hdef,hsz,fun s=>?_⟩,e',rfl,htail⟩
  rcases hrel s with⟨i,b,hb,_,hun,_⟩|h
  ·rw[hall i (hlt i b hb)]at hun
   cases hun
  ·exact h
 ·have hw:({ w with drawn:=w.drawn+1 }:World).heap=w.heap:=rfl
  refine⟨c.ρ,c.h,T,0,by simp,fun i k hi hl=>(by rw[hfalse i hi]at hl;cases hl),?_,?_,⟨rfl,rfl,rfl⟩,(by rw[hw,hce];exact hs.defers),hs.size,Nat.zero_le _,by simpa using t1,fun l i hl=>?_,fun s=>?_,fun i b hb hn _ hst=>?_⟩
  ·rw[hw,hce];exact Ctx.le.refl c
  ·rw[hw,hce];exact hr
  ·rw[hfalse i (S.tlt i (ak hl))];simp
  ·by_cases hex:∃b,b∈iX items masks tl 0/\b.dst=some s
   ·obtain⟨b,hb,hbd⟩:=hex
    obtain⟨k,h1,h2,h3⟩:=dC hb
    exact Or.inl ⟨k,b,h1,h2,hfalse k (hlt k b h1),hbd⟩
   ·right
    rw[t2 s (fun b hb hbd=>hex ⟨b,hb,hbd⟩),hw,hce]
    exact hs.rel s
  ·have:=xY (masks:=masks) hb hn
   rw[show xZ masks tl i=0 by omega]at this
   exact t3 b this
def sItems (P:Program) (nt:Nat) (ops:Array Oper) (tl:List Nat) (fz:Bool):List Oper->Nat->Option (List AOper)
 | [],_=>some []
 | o::r,i=>match (if tl.contains i then cOper P fz nt ops o else cdOper P nt ops o),sItems P nt ops tl fz r (i+1) with
  | some a,some s=>some (a::s)
  | _,_=>none
def AS (masks tl:List Nat) (i k:Nat) (a b:AOper):Bool :=
 match a.dst with
 | none=>true
 | some s=>if tl.contains i then tl.contains k || !b.rd.contains s||(masks.getD k 0).testBit i||(masks.getD i 0).testBit k
  else(i == k||b.dst != some s)&&(!b.rd.contains s||(decide (i<k)&&(masks.getD k 0).testBit i&&(tl.contains k||decide (xZ masks tl i<=xZ masks tl k))))
def Rv (ops:Array Oper) (items:List AOper) (masks tl:List Nat):Bool :=
 (ops.toList.zipIdx.all fun p=>(p.1.after.toList.all fun e=> !Region.binds .any e||decide (e.on<p.2))&&(masks.getD p.2 0 == zX masks p.1.after.toList)) &&
 tl.all (fun i=>decide (i<ops.size))&&ordOk masks tl &&
 ((List.range ops.size).all fun k=>tl.contains k||tl.zipIdx.all fun p=>(masks.getD k 0).testBit p.1 == decide (p.2<xZ masks tl k)) &&
 (items.zipIdx.all fun p=>items.zipIdx.all fun q=>AS masks tl p.2 q.2 p.1 q.1) &&
 (tl.zipIdx.all fun p=>(wP items masks tl (p.2+1) p.1).all fun b=>b.guard.isNone&&b.dst.isSome)
theorem sN {fz:Bool}:∀{l:List Oper}{i:Nat}{items:List AOper},sItems P nt ops tl fz l i=some items->items.length=l.length/\∀(k:Nat) (o:Oper),l[k]?=some o->(if tl.contains (i+k) then cOper P fz nt ops o else cdOper P nt ops o)=items[k]?
 | [],i,items,h=>by simp[sItems]at h;subst h;simp
 | o::r,i,items,h=>by
  simp only[sItems]at h
  split at h
  ·rename_i a s h1 h2
   simp at h;subst h
   obtain⟨l1,l2⟩:=sN h2
   refine⟨by simp[l1],fun k o' ho=>?_⟩
   cases k with
   | zero=>simp at ho;subst ho;simpa using h1
   | succ k =>
    have:=l2 k o' (by simpa using ho)
    rw[show i+(k+1)=i+1+k by omega,this]
    simp
  ·cases h
theorem OT {fz:Bool}(hi:sItems P nt ops tl fz ops.toList 0=some items) (hc:Rv ops items masks tl=true):Ux P nt ops items masks tl:=by
 obtain⟨l1,l2⟩:=sN hi
 simp only[Rv,Bool.and_eq_true,List.all_eq_true]at hc
 obtain⟨⟨⟨⟨⟨c1,c2⟩,c3⟩,c4⟩,c5⟩,c6⟩:=hc
 have pair:∀(i k:Nat) (a b:AOper),items[i]?=some a->items[k]?=some b->AS masks tl i k a b=true:=fun i k a b ha hb=>c5 (a,i) (mem_zipIdx ha) (b,k) (mem_zipIdx hb)
 refine⟨⟨by simpa using l1,fun i o a ho ha hn=>?_,fun i o ho hm=>?_,fun i o ho ed he hb=>?_,fun i o ho k hk=>?_,fun i hi=>by simpa using c2 i hi,fun k l i hk hn hl=>?_,fun i k a b ha hb hn s hs=>?_,fun i k a b ha hb hm hn s hs hr=>?_,fun l i hl b hb=>?_⟩,fun l k i i' hl hk hlt=>?_⟩
 ·have:=l2 i o (by simpa using ho)
  rw[Nat.zero_add,if_neg (by simpa using hn),ha]at this
  exact ti this
 ·have:=l2 i o (by simpa using ho)
  rw[Nat.zero_add,if_pos (by simpa using hm)]at this
  exact⟨_,this⟩
 ·have:=(c1 (o,i) (mem_zipIdx (by simpa using ho))).1 ed he
  simpa[hb] using this
 ·have:=(c1 (o,i) (mem_zipIdx (by simpa using ho))).2
  have hme:masks.getD i 0=zX masks o.after.toList:=by simpa using this
  rw[hme]at hk
  rcases w7 _ _ hk with h|h
  ·simp at h
  ·exact h
 ·have:=c4 k (by simpa using hk)
  simp only[Bool.or_eq_true,List.all_eq_true]at this
  have:=(this.resolve_left (by simpa using hn)) (i,l) (mem_zipIdx hl)
  simp only[beq_iff_eq]at this
  rw[this];simp
 ·have:=pair i k a b ha hb
  simp only[AS,hs]at this
  rw[if_neg (by simpa using hn)]at this
  simp only[Bool.and_eq_true,Bool.or_eq_true,beq_iff_eq,bne_iff_ne,ne_eq,Bool.not_eq_true',decide_eq_true_eq]at this
  refine⟨fun hne=>this.1.resolve_left hne,fun hr=>?_⟩
  have h2:=this.2.resolve_left (by simp[hr])
  exact⟨h2.1.1,h2.1.2,fun hk=>h2.2.resolve_left (by simpa using hk)⟩
 ·have:=pair i k a b ha hb
  simp only[AS,hs]at this
  rw[if_pos (by simpa using hm)]at this
  simp only[Bool.or_eq_true,Bool.not_eq_true']at this
  rcases this with((h1|h1)|h1)|h1
  ·exact absurd (by simpa using h1) hn
  ·exfalso
   rw[List.contains_eq_mem]at h1
   simp[hr]at h1
  ·exact Or.inl h1
  ·exact Or.inr h1
 ·have:=c6 (i,l) (mem_zipIdx hl) b hb
  simp only[Bool.and_eq_true,Option.isNone_iff_eq_none]at this
  exact this
 ·have hl1:=ah.1 hl
  have hk1:=ah.1 hk
  have:=List.pairwise_iff_getElem.1 (wY c3) l k hl1.1 hk1.1 hlt
  rw[hl1.2,hk1.2]at this
  exact this
def cDrS (P:Program) (nt:Nat) (tbl:TTq) (id:Nat) (ops:Array Oper):Option ACode :=
 if P.follows .mixedOrders then
  match tbl id with
  | some (masks,tl,[q])=>if q=999999\/q=999995 then match sItems P nt ops tl (q == 999999) ops.toList 0 with
   | some items=>if Rv ops items masks tl then some (sCode items masks tl tl 0) else none
   | none=>none
   else none
  | _=>none
 else none
theorem P0 (P:Program) (nt:Nat) (tbl:TTq):Eo P nt (cDrS P nt tbl):=by
 intro id ops ac h Q e hp hv
 unfold cDrS at h
 split at h
 case isFalse=>cases h
 rename_i hm
 split at h
 case h_2=>cases h
 rename_i masks tl q _
 split at h
 case isFalse=>cases h
 cases hi:sItems P nt ops tl (q == 999999) ops.toList 0 with
 | none=>simp[hi]at h
 | some items =>
  simp only[hi]at h
  split at h
  case isFalse=>cases h
  rename_i hc
  simp only[Option.some.injEq]at h
  subst h
  exact MO (OT hi hc) hm hv
end Go.Am
namespace Go.Am
open Go
variable [bW]
variable {P:Program}{nt:Nat}
structure LS (c c':Ctx):Prop where
 hp:c'.hp=c.hp
 h:∀k,c.h k≠.free->c'.h k=c.h k
 ρ:∀k,c.h k≠.free->c'.ρ k=c.ρ k
 own:∀b,b<c.hp.size->c'.own b->c.own b
theorem aB.sM {c c':Ctx}(s:LS c c'){d:D}{v:Value}(h:aB c d v):aB c' d v:=by
 have row:∀{n:Nat}{x:Nat×List D},(c.h n).row=some x->(c'.h n).row=some x:=fun {n x} hx=>by rw[s.h n (Slot.fx hx)];exact hx
 induction h with
 | undef v=>exact .undef v
 | nil=>exact .nil
 | nilfn=>exact .nilfn
 | nilmap=>exact .nilmap
 | nilp=>exact .nilp
 | int k n=>exact .int k n
 | bool b=>exact .bool b
 | str s=>exact .str s
 | lD p cap hm=>exact .lD p cap hm
 | sl xs b o cap esz f hne hc hm he hlen hone hcell ho _ ih =>
  have hb:b<c.hp.size:=by
   cases xs with
   | nil=>exact absurd rfl hne
   | cons e r =>
    have hl:=hlen e (by simp)
    cases hcs:e.cells with
    | nil=>rw[hcs]at hl;simp at hl;omega
    | cons d ds=>exact Au (hcell 0 0 d (by simp[aM,hcs]))
  exact .sl xs b o cap esz f hne hc hm he hlen hone (fun i j d hd=>by rw[s.hp];exact hcell i j d hd) (fun h=>ho (s.own b hb h)) ih
 | msDead n off len p l k hd=>exact .msDead n off len p l k (by rw[s.h n (by rw[hd];simp)];exact hd)
 | msNil n esz els hrow hρ=>exact .msNil n esz els (row hrow) (by rw[s.ρ n (Slot.fx hrow)];exact hρ)
 | ms n off len g esz cap els cur ty fr hrow hρ hl hg hs hc hm=>exact .ms n off len g esz cap els cur ty fr (row hrow) (by rw[s.ρ n (Slot.fx hrow)];exact hρ) hl (by rw[s.hp];exact hg) hs hc hm
 | msE n off esz p els hrow=>exact .msE n off esz p els (row hrow)
 | ptrDead n i j b o hd=>exact .ptrDead n i j b o (by rw[s.h n (by rw[hd];simp)];exact hd)
 | ptrBox n j g v hb hρ=>exact .ptrBox n j g v (by rw[s.h n (by rw[hb];simp)];exact hb) (by rw[s.ρ n (by rw[hb];simp)];exact hρ)
 | ptrRow n i j g esz els hrow hρ hi=>exact .ptrRow n i j g esz els (row hrow) (by rw[s.ρ n (Slot.fx hrow)];exact hρ) hi
 | vp e j b o f hone hcell ho hb _ ih=>exact .vp e j b o f hone (fun k d hd=>by rw[s.hp];exact hcell k d hd) (fun h=>ho (s.own b hb h)) (by rw[s.hp];exact hb) ih
 | agg cs vs hsz hone _ ih=>exact .agg cs vs hsz hone ih
 | tup ds vs hsz _ ih=>exact .tup ds vs hsz ih
 | fn f a b va vb hsa hsb _ _ iha ihb=>exact .fn f a b va vb hsa hsb iha ihb
 | yld n g st B hl hρ=>exact .yld n g st B (by rw[s.h n (by rw[hl];simp)];exact hl) (by rw[s.ρ n (by rw[hl];simp)];exact hρ)
 | yldDead n g hd=>exact .yldDead n g (by rw[s.h n (by rw[hd];simp)];exact hd)
 | mp n g kt l hl hρ=>exact .mp n g kt l (by rw[s.h n (by rw[hl];simp)];exact hl) (by rw[s.ρ n (by rw[hl];simp)];exact hρ)
 | mpDead n p hd=>exact .mpDead n p (by rw[s.h n (by rw[hd];simp)];exact hd)
theorem cM.sM {c c':Ctx}(s:LS c c'){n:Nat}{x:Slot}(hρ:x≠.free->c'.ρ n=c.ρ n) (h:cM c n x):cM c' n x:=by
 cases x with
 | free=>trivial
 | dead=>trivial
 | box v =>
  obtain⟨g,cur,ty,h1,h2,h3,h4⟩:=h
  exact⟨g,cur,ty,by rw[hρ (by simp)];exact h1,by rw[s.hp];exact h2,h3,fun i d hd=>⟨(h4 i d hd).1,(h4 i d hd).2.sM s⟩⟩
 | arr e l =>
  obtain⟨h1,h2,h3,h4⟩:=h
  refine⟨h1,h2,h3,?_⟩
  rcases h4 with⟨q1,q2⟩|⟨g,cur,ty,q1,q2,q3,q4⟩
  ·exact Or.inl ⟨by rw[hρ (by simp)];exact q1,q2⟩
  ·exact Or.inr ⟨g,cur,ty,by rw[hρ (by simp)];exact q1,by rw[s.hp];exact q2,q3,fun i j d hd=>(q4 i j d hd).sM s⟩
 | frz e l =>
  obtain⟨h1,h2,h3,h4⟩:=h
  refine⟨h1,h2,h3,?_⟩
  rcases h4 with⟨q1,q2⟩|⟨g,cur,ty,fr,q1,q2,q3,q4,q5⟩
  ·exact Or.inl ⟨by rw[hρ (by simp)];exact q1,q2⟩
  ·exact Or.inr ⟨g,cur,ty,fr,by rw[hρ (by simp)];exact q1,by rw[s.hp];exact q2,q3,fun h=>q4 (s.own g (Array.getElem?_eq_some_iff.1 q2).1 h),fun i j d hd=>(q5 i j d hd).sM s⟩
 | lp st B =>
  obtain⟨g,tmps,dfs,h1,h2,h3,h4⟩:=h
  exact⟨g,tmps,dfs,by rw[hρ (by simp)];exact h1,by rw[s.hp];exact h2,h3,fun i=>(h4 i).sM s⟩
 | map kt l =>
  obtain⟨g,es,clock,h1,h2,h3,hst,h4⟩:=h
  refine⟨g,es,clock,by rw[hρ (by simp)];exact h1,by rw[s.hp];exact h2,h3,hst,fun i p hp=>?_⟩
  obtain⟨q1,q2,e,q3,q4,q5⟩:=h4 i p hp
  exact⟨q1,q2,e,q3,q4.sM s,q5.sM s⟩
theorem iP.sM {c c':Ctx}(s:LS c c') (k:iP c):iP c':=fun g o hg=>by
 obtain⟨h1,h2,h3⟩:=k g o hg
 exact⟨fun i v hi=>by rw[s.hp];exact h1 i v hi,fun ho=>h2 (s.own g h3 ho),by rw[s.hp];exact h3⟩
theorem fO.sM {c c':Ctx}(s:LS c c') (hl:c'.X.lo=c.X.lo) (hd:c'.X.dfs=c.X.dfs){ds:List Deferred}(k:fO c ds):fO c' ds:=by
 refine⟨⟨fun d hd'=>?_,k.marks.nd⟩,by rw[hd];exact k.rest⟩
 obtain⟨j,e,h0,h1,h2⟩:=k.marks.all d hd'
 exact⟨j,e,by rw[hl];exact h0,by rw[s.hp];exact h1,fun ho=>h2 (s.own j (Array.getElem?_eq_some_iff.1 h1).1 ho)⟩
def XT.plus (X:XT) (g:Nat):XT:=⟨fun x=>X.p x\/x=g,X.lo,X.dfs⟩
structure wA (P:Program) where
 op:AOp
 obj:Obj
 slot:Slot
 val:Nat->Value
 dv:Nat->D
 cs:List (Nat×IntKind×Int)
 hop:∀(K:HKq) (e:LEnv) (h:Heap),(∀q∈cs,e.get q.1=.int q.2.1 q.2.2)->vcOp P op K e h->∀n,pc h n->K (dv n) (aD h n slot)
 hslot:∀(c:Ctx) (n g:Nat),c.ρ n=some g->c.hp[g]?=some obj->cM c n slot
 hrel:∀(c:Ctx) (n g:Nat),c.h n=slot->c.ρ n=some g->c.hp[g]?=some obj->aB c (dv n) (val g)
def Fy (P:Program) (k:wA P) (o:Oper):Prop:=(∀c,o.op≠.defer c)/\∀(a:Act) (w:World),(∀q∈k.cs,a.tmps.getD q.1 Go.undef=.int q.2.1 q.2.2)->(execOp a.eval o).run P w=.ok (.value (k.val w.heap.size)) (w.alloc k.obj)
def Nt (P:Program) (kt:KeyT):wA P :=
 ⟨.Ix kt,.map #[] 0,.map kt [],fun g=>.map (some g),fun n=>.mp n,[],fun _ _ _ _ h=>h,fun c n g h1 h2=>⟨g, #[],0,h1,h2,rfl,MapKept.stamped_empty 0,fun i p hi=>by simp at hi⟩,fun c n g h1 h2 _=>.mp n g kt [] h1 h2⟩
theorem KT {kt:KeyT}{o:Oper}{t:TypeId}(hop:o.op=.makeMap t none):Fy P (Nt P kt) o :=
 ⟨fun c hc=>(by rw[hop]at hc;cases hc),fun a w _=>(by simp[execOp,hop,Instr.makeMap,run_newObj,Nt])⟩
def QH (P:Program) (zd:D) (cs:Array Value) (t:TypeId) (h:∀c:Ctx,cs.size=zd.cells.length/\∀(i:Nat) (d:D),zd.cells[i]?=some d->d.one=true/\aB c d (cs.getD i Go.undef)):wA P :=
 ⟨.alloc zd,.cells cs t,.box zd,fun g=>.pointer (some ⟨g,0,none⟩),fun n=>.ptr n 0 0,[],fun _ _ _ _ h=>h,fun c n g h1 h2=>⟨g,cs,t,h1,h2,(h c).1,(h c).2⟩,fun c n g h1 h2 _=>.ptrBox n 0 g zd h1 h2⟩
theorem Fm {t:TypeId}{zd:D}(hz:dP P t=some zd):∃z,(P.info? t).bind (·.zero)=some z/\∀c:Ctx,z.cells.size=zd.cells.length/\∀(i:Nat) (d:D),zd.cells[i]?=some d->d.one=true/\aB c d (z.cells.getD i Go.undef):=by
 obtain⟨z,hz1,hz2⟩:=fJ hz
 refine⟨z,hz1,fun c=>?_⟩
 have h:=cW (gC hz2 c) (fG hz2)
 refine⟨by simpa using h.len,fun i x hx=>?_⟩
 obtain⟨h1,h2⟩:=h.rel i x hx
 rw[aH]at h2
 exact⟨h1,h2⟩
structure Uw (P:Program) (nt:Nat) (ops:Array Oper) (items:List AOper) (masks tl:List Nat) (p m s:Nat) (fk:wA P):Prop extends tM P nt ops items masks tl where
 tord:∀l k i i':Nat,tl[l]?=some i->tl[k]?=some i'->l<k->k≠p->(masks.getD i' 0).testBit i=true
 nd:∀l l' i:Nat,tl[l]?=some i->tl[l']?=some i->l=l'
 fm:tl[p]?=some m
 it:items[m]?=some ⟨some s,fk.op,none⟩
 us:∀(k:Nat) (b:AOper),items[k]?=some b->k≠m->b.dst≠some s
 sn:s<nt
 mko:∃(o:Oper),ops[m]?=some o/\Fy P fk o/\o.dst=some s/\o.guard=none
 ntm:∀l i:Nat,tl[l]?=some i->l<p->(masks.getD i 0).testBit m=false
 cok:∀q∈fk.cs,∀(k:Nat) (b:AOper),items[k]?=some b->b.dst=some q.1->k∉tl/\xZ masks tl k=0/\(masks.getD m 0).testBit k=true
variable {ops:Array Oper}{items:List AOper}{masks tl:List Nat}{p m s:Nat}{fk:wA P}
theorem Jr.congr {X:XT}{L:(Nat->Option Nat)->Heap->World->Prop}{w₀:World}{K:LEnv->Heap->Prop}{l1 l2:Array Bool}{a:Act}{w:World}{ρ:Nat->Option Nat}{h:Heap}{e:LEnv}{j:Nat}(hs:l2.size=l1.size) (hl:∀k,cA l2 k=cA l1 k)
  (J:Jr P nt ops items masks tl X L w₀ K l1 a w ρ h e j):Jr P nt ops items masks tl X L w₀ K l2 a w ρ h e j :=
 ⟨hs.trans J.size,fun i k hi h1 h2=>by rw[hl]at h1 ⊢;exact J.dc i k hi h1 h2,J.le,J.hr,J.ws,J.defers,J.tsz,J.jle,J.rest,fun l i hi=>by rw[hl];exact J.prog l i hi,
  fun s=>by
   rcases J.rel s with⟨i,b,h1,h2,h3,h4⟩|h
   ·exact Or.inl ⟨i,b,h1,h2,by rw[hl];exact h3,h4⟩
   ·exact Or.inr h,fun i b h1 h2 h3 h4=>J.val i b h1 h2 (by rw[<- hl];exact h3) h4⟩
def LP (ob:Obj) (c₀:Ctx) (g:Nat) (ρ:Nat->Option Nat) (h:Heap) (w:World):Prop :=
 c₀.le ⟨ρ,c₀.X,h,w.heap⟩/\c₀.hp.size<=g/\w.heap[g]?=some ob/\∀n,(h n).mine->ρ n≠some g
theorem LP.mono {ob:Obj}{c₀:Ctx}{g:Nat}{X:XT}{ρ ρ':Nat->Option Nat}{h h':Heap}{w w':World}(l:LP ob c₀ g ρ h w) (k:Ctx.le ⟨ρ,X,h,w.heap⟩ ⟨ρ',X,h',w'.heap⟩):LP ob c₀ g ρ' h' w':=by
 obtain⟨l1,l2,l3,l4⟩:=l
 have hlt:=(Array.getElem?_eq_some_iff.1 l3).1
 refine⟨l1.trans (k.SS c₀.X c₀.X rfl),l2,(k.keep g hlt l4).trans l3,fun n hm hρ=>?_⟩
 obtain⟨m,h1,h2⟩:=k.born n g hm hρ hlt
 exact l4 m h1 h2
def TT (listed:Array Bool) (m:Nat):Array Bool:=listed.setIfInBounds m false
theorem Hq (listed:Array Bool) (m:Nat):(TT listed m).size=listed.size:=by simp[TT]
theorem Kc {listed:Array Bool}{m:Nat}(hm:m<listed.size) (k:Nat):cA (TT listed m) k=if k=m then false else cA listed k:=by
 unfold cA TT
 by_cases h:k=m
 ·subst h;simp[Array.getD,hm]
 ·have h':m≠k:=fun e=>h e.symm
  rw[if_neg h]
  by_cases hk:k<listed.size
  ·simp[Array.getD,hk,h']
  ·simp[Array.getD,hk]
inductive JF (P:Program) (nt:Nat) (ops:Array Oper) (items:List AOper) (masks tl:List Nat) (p m s:Nat) (fk:wA P) (c₀:Ctx) (w₀:World) (K:LEnv->Heap->Prop) (listed:Array Bool) (a:Act) (w:World):Prop
 | A (ρ:Nat->Option Nat) (h:Heap) (e:LEnv) (j:Nat) (hJ:Jr P nt ops items masks tl c₀.X (fun ρ h w=>c₀.le ⟨ρ,c₀.X,h,w.heap⟩) w₀ K listed a w ρ h e j) (he:j<=p->e.get s=.undef/\∀q∈fk.cs,e.get q.1=.int q.2.1 q.2.2)
 | B (g:Nat) (ρ:Nat->Option Nat) (h:Heap) (e:LEnv) (j:Nat) (hjp:j<p) (hm:cA listed m=true) (hanc:∀k,(masks.getD m 0).testBit k=true->cA listed k=true) (hJ:Jr P nt ops items masks tl (c₀.X.plus g) (LP fk.obj c₀ g) w₀ K (TT listed m) a w ρ h e j)
   (he:e.get s=.undef/\∀q∈fk.cs,e.get q.1=.int q.2.1 q.2.2) (ht:a.tmps.getD s Go.undef=fk.val g)
theorem JF.size {c₀:Ctx}{w₀:World}{K:LEnv->Heap->Prop}{listed:Array Bool}{a:Act}{w:World}(hJ:JF P nt ops items masks tl p m s fk c₀ w₀ K listed a w):listed.size=ops.size:=by
 cases hJ with
 | A ρ h e j hJ he=>exact hJ.size
 | B g ρ h e j hjp hm hanc hJ he ht=>rw[<- hJ.size,Hq]
theorem JF.dc (S:Uw P nt ops items masks tl p m s fk){c₀:Ctx}{w₀:World}{K:LEnv->Heap->Prop}{listed:Array Bool}{a:Act}{w:World}(hJ:JF P nt ops items masks tl p m s fk c₀ w₀ K listed a w) :
  ∀i k,i<ops.size->cA listed i=true->(masks.getD i 0).testBit k=true->cA listed k=true:=by
 cases hJ with
 | A ρ h e j hJ he=>exact hJ.dc
 | B g ρ h e j hjp hm hanc hJ he ht =>
  have hmlt:m<listed.size:=by
   have:=S.tlt m (ak S.fm)
   have hs:=hJ.size
   rw[Hq]at hs
   omega
  intro i k hi h1 h2
  by_cases him:i=m
  ·subst him;exact hanc k h2
  ·have:=hJ.dc i k hi (by rw[Kc hmlt,if_neg him];exact h1) h2
   rw[Kc hmlt]at this
   split at this
   ·cases this
   ·exact this
def MI (ops:Array Oper) (items:List AOper) (masks tl:List Nat):Bool :=
 (ops.toList.zipIdx.all fun p=>(p.1.after.toList.all fun e=> !Region.binds .any e||decide (e.on<p.2))&&(masks.getD p.2 0 == zX masks p.1.after.toList)) &&
 tl.all (fun i=>decide (i<ops.size)) &&
 ((List.range ops.size).all fun k=>tl.contains k||tl.zipIdx.all fun p=>(masks.getD k 0).testBit p.1 == decide (p.2<xZ masks tl k)) &&
 (items.zipIdx.all fun p=>items.zipIdx.all fun q=>AS masks tl p.2 q.2 p.1 q.1) &&
 (tl.zipIdx.all fun p=>(wP items masks tl (p.2+1) p.1).all fun b=>b.guard.isNone&&b.dst.isSome)
theorem MH (hi:sItems P nt ops tl true ops.toList 0=some items) (hc:MI ops items masks tl=true):tM P nt ops items masks tl:=by
 obtain⟨l1,l2⟩:=sN hi
 simp only[MI,Bool.and_eq_true,List.all_eq_true]at hc
 obtain⟨⟨⟨⟨c1,c2⟩,c4⟩,c5⟩,c6⟩:=hc
 have pair:∀(i k:Nat) (a b:AOper),items[i]?=some a->items[k]?=some b->AS masks tl i k a b=true:=fun i k a b ha hb=>c5 (a,i) (mem_zipIdx ha) (b,k) (mem_zipIdx hb)
 refine⟨by simpa using l1,fun i o a ho ha hn=>?_,fun i o ho hm=>?_,fun i o ho ed he hb=>?_,fun i o ho k hk=>?_,fun i hi=>by simpa using c2 i hi,fun k l i hk hn hl=>?_,fun i k a b ha hb hn s hs=>?_,fun i k a b ha hb hm hn s hs hr=>?_,fun l i hl b hb=>?_⟩
 ·have:=l2 i o (by simpa using ho)
  rw[Nat.zero_add,if_neg (by simpa using hn),ha]at this
  exact ti this
 ·have:=l2 i o (by simpa using ho)
  rw[Nat.zero_add,if_pos (by simpa using hm)]at this
  exact⟨_,this⟩
 ·have:=(c1 (o,i) (mem_zipIdx (by simpa using ho))).1 ed he
  simpa[hb] using this
 ·have:=(c1 (o,i) (mem_zipIdx (by simpa using ho))).2
  have hme:masks.getD i 0=zX masks o.after.toList:=by simpa using this
  rw[hme]at hk
  rcases w7 _ _ hk with h|h
  ·simp at h
  ·exact h
 ·have:=c4 k (by simpa using hk)
  simp only[Bool.or_eq_true,List.all_eq_true]at this
  have:=(this.resolve_left (by simpa using hn)) (i,l) (mem_zipIdx hl)
  simp only[beq_iff_eq]at this
  rw[this];simp
 ·have:=pair i k a b ha hb
  simp only[AS,hs]at this
  rw[if_neg (by simpa using hn)]at this
  simp only[Bool.and_eq_true,Bool.or_eq_true,beq_iff_eq,bne_iff_ne,ne_eq,Bool.not_eq_true',decide_eq_true_eq]at this
  refine⟨fun hne=>this.1.resolve_left hne,fun hr=>?_⟩
  have h2:=this.2.resolve_left (by simp[hr])
  exact⟨h2.1.1,h2.1.2,fun hk=>h2.2.resolve_left (by simpa using hk)⟩
 ·have:=pair i k a b ha hb
  simp only[AS,hs]at this
  rw[if_pos (by simpa using hm)]at this
  simp only[Bool.or_eq_true,Bool.not_eq_true']at this
  rcases this with((h1|h1)|h1)|h1
  ·exact absurd (by simpa using h1) hn
  ·exfalso
   rw[List.contains_eq_mem]at h1
   simp[hr]at h1
  ·exact Or.inl h1
  ·exact Or.inr h1
 ·have:=c6 (i,l) (mem_zipIdx hl) b hb
  simp only[Bool.and_eq_true,Option.isNone_iff_eq_none]at this
  exact this
def argRegs:Arg->List Nat
 | .t r=>[r]
 | .c _=>[]
def vv (x:Arg) (k:IntKind) (n:Int):List (Nat×IntKind×Int):=(argRegs x).map fun r=>(r,k,n)
theorem Fs {x:Arg}{k:IntKind}{n:Int}{e:LEnv}(hc:∀d,x=.c d->d=.int k n) (h:∀q,q∈vv x k n->e.get q.1=.int q.2.1 q.2.2):x.get e=.int k n:=by
 cases x with
 | t r=>exact h (r,k,n) (by simp[vv,argRegs])
 | c d=>exact hc d rfl
theorem HN {x:Operand}{y:Arg}{k:IntKind}{n:Int}(hx:cArg x=some y){a:Act}(ht:∀q,q∈vv y k n->a.tmps.getD q.1 Go.undef=.int q.2.1 q.2.2) (hc:∀d,y=.c d->d=.int k n):a.eval x=.int k n:=by
 cases x with
 | tmp i=>simp[cArg]at hx;subst hx;exact ht (i,k,n) (by simp[vv,argRegs])
 | const v =>
  simp only[cArg]at hx
  cases hv:D.ofV v with
  | none=>simp[hv]at hx
  | some d =>
   simp[hv]at hx;subst hx
   have h1:=hc d rfl
   subst h1
   have:=gC hv ⟨fun _=>none,⟨fun _=>False,0,[]⟩,fun _=>.free, #[]⟩
   exact eY this
 | func f=>simp[cArg]at hx;subst hx;have:=hc _ rfl;cases this
 | global g =>
  simp only[cArg]at hx
  split at hx
  ·simp only[Option.map_eq_some_iff]at hx
   obtain⟨ds,_,rfl⟩:=hx
   have:=hc _ rfl;cases this
  ·cases hx
def mi (z:Array Value) (n:Nat):Array Value:=(Array.range n).map (fun k=>z[k % z.size]!)
def TS (P:Program) (esz bytes:Nat) (zd:D) (x y:Arg) (elem:TypeId) (z:Array Value) (kl kc:IntKind) (L C:Int) (hsz:zd.cells.length=esz) (hpos:0<esz)
  (hz:∀c:Ctx,z.size=zd.cells.length/\∀(i:Nat) (d:D),zd.cells[i]?=some d->d.one=true/\aB c d (z.getD i Go.undef)) (h0:0<=L) (h1:L<=C) (h2:C<=9223372036854775807)
  (hx:∀d,x=.c d->d=.int kl L) (hy:∀d,y=.c d->d=.int kc C):wA P where
 op:=.mk esz bytes zd x y
 obj:=.cells (mi z (C.toNat*esz)) elem
 slot:=.arr esz (List.replicate L.toNat zd)
 val g:=.slice (some ⟨g,0,none⟩) L.toNat C.toNat
 dv n:=.ms n 0 L.toNat
 cs:=vv x kl L++vv y kc C
 hop:=by
  intro K e h hpre hv n t
  have ex:=Fs (e:=e) hx fun q hq=>hpre q (List.mem_append_left _ hq)
  have ey:=Fs (e:=e) hy fun q hq=>hpre q (List.mem_append_right _ hq)
  simp only[vcOp,ex,ey,vint]at hv
  exact hv.2.2.2.2 n t
 hslot:=by
  intro c n g hρ hg
  obtain⟨z1,z2⟩:=hz c
  have hle2:L.toNat*esz<=C.toNat*esz:=Nat.mul_le_mul_right _ (by omega)
  have key:∀i j d,aM (List.replicate L.toNat zd) i j=some d->d.one=true/\aB c d ((mi z (C.toNat*esz)).getD (i*esz+j) Go.undef):=by
   intro a b d hd
   obtain⟨q1,q2⟩:=gG hd
   have hb:b<esz:=by rw[<- hsz];exact(ah.1 q2).1
   obtain⟨p1,p2⟩:=z2 b d q2
   refine⟨p1,?_⟩
   have hlt:a*esz+b<C.toNat*esz:=by
    have:(a+1)*esz<=C.toNat*esz:=Nat.mul_le_mul_right _ (by omega)
    rw[Nat.add_mul]at this
    omega
   unfold mi
   rw[ye z (by omega) _ _ hlt]
   have:(a*esz+b) % z.size=b:=by rw[z1,hsz,Nat.mul_comm,Nat.mul_add_mod,Nat.mod_eq_of_lt hb]
   rw[this];exact p2
  exact⟨hpos,fun e he=>by rw[List.eq_of_mem_replicate he];exact hsz,fun i j d hd=>(key i j d hd).1,Or.inr ⟨g,_,elem,hρ,hg,by simp[mi];omega,fun i j d hd=>(key i j d hd).2⟩⟩
 hrel:=by
  intro c n g hh hρ hg
  have:=aB.ms (c:=c) n 0 L.toNat g esz C.toNat (List.replicate L.toNat zd) _ elem (0,0) (by rw[hh];rfl) hρ (by simp) hg (by simp[mi]) (by omega) (by unfold maxLen;omega)
  rwa [Nat.zero_mul]at this
theorem Nd {esz bytes:Nat}{zd:D}{x' y':Arg}{elem t:TypeId}{z:Value}{kl kc:IntKind}{L C:Int}{hsz:zd.cells.length=esz}{hpos:0<esz}
  {hz:∀c:Ctx,z.cells.size=zd.cells.length/\∀(i:Nat) (d:D),zd.cells[i]?=some d->d.one=true/\aB c d (z.cells.getD i Go.undef)}{h0:0<=L}{h1:L<=C}{h2:C<=9223372036854775807}
  {hx:∀d,x'=.c d->d=.int kl L}{hy:∀d,y'=.c d->d=.int kc C}{o:Oper}{x y:Operand}{i:TypeInfo}(ho:o.op=.makeSlice t x y) (hcx:cArg x=some x') (hcy:cArg y=some y')
  (hu:P.underlying t=some (.slice elem)) (hi:P.info? elem=some i) (hie:i.size=esz) (hib:i.bytes=bytes) (hz1:(P.info? elem).bind (·.zero)=some z) (hb:C*bytes<=140737488355328) :
  Fy P (TS P esz bytes zd x' y' elem z.cells kl kc L C hsz hpos hz h0 h1 h2 hx hy) o:=by
 refine⟨fun c hc=>(by rw[ho]at hc;cases hc),fun a w hcs=>?_⟩
 have ex:a.eval x=.int kl L:=HN hcx (fun q hq=>hcs q (List.mem_append_left _ hq)) hx
 have ey:a.eval y=.int kc C:=HN hcy (fun q hq=>hcs q (List.mem_append_right _ hq)) hy
 subst hie hib
 have hzs:z.cells.size=i.size:=by rw[(hz ⟨fun _=>none,⟨fun _=>False,0,[]⟩,fun _=>.free, #[]⟩).1,hsz]
 have wl:IntKind.i64.wrap L=L:=by unfold IntKind.wrap IntKind.bits IntKind.signed;simp;omega
 have wm:IntKind.i64.wrap C=C:=by unfold IntKind.wrap IntKind.bits IntKind.signed;simp;omega
 have hb0:¬(C<0):=by omega
 have hb1:¬((i.bytes:Int)*C>281474976710656):=by rw[Int.mul_comm];omega
 have hb2:¬(L<0):=by omega
 have hb3:¬(L>C):=by omega
 have hroom:¬(C.toNat*i.bytes>140737488355328):=by
  have:((C.toNat*i.bytes:Nat):Int)=C*i.bytes:=by simp[Int.toNat_of_nonneg (by omega:0<=C)]
  omega
 have hs2:(P.info? elem).map (·.size)=some i.size:=by simp[hi]
 show(execOp a.eval o).run P w=.ok (.value (.slice (some ⟨w.heap.size,0,none⟩) L.toNat C.toNat)) (w.alloc (.cells (mi z.cells (C.toNat*i.size)) elem))
 by_cases h:C.toNat*i.size=0
 ·have hv0:mi z.cells (C.toNat*i.size) = #[]:=by apply Array.eq_empty_of_size_eq_zero;simp only[mi,Array.size_map,Array.size_range];exact h
  rw[hv0]
  simp[execOp,ho,ex,ey,Instr.makeSlice,run_underlying hu,asInt,asIntOf,run_typeInfo hi,wl,wm,hb0,hb1,hb2,hb3,askRoom,hroom,run_sizeOf hs2,h,cf,Array.range_zero']
 ·simp[execOp,ho,ex,ey,Instr.makeSlice,run_underlying hu,asInt,asIntOf,run_typeInfo hi,wl,wm,hb0,hb1,hb2,hb3,askRoom,hroom,run_sizeOf hs2,h,bG hz1,cf,mi]
def sCode1 (items:List AOper) (masks tl:List Nat):List Nat->ACode
 | []=>.dreg [] [] []
 | i::r=>.seq (.dreg [] (match items[i]? with|some a=>[a]|none=>[⟨none,.dead,none⟩]) (wP items masks tl 1 i)) (sCode items masks tl r 1)
theorem GU {l:List Nat}{Q:LPost}{e:LEnv}{h:Heap}(hv:vcC P (sCode1 items masks tl l) Q e h):sRest P items masks tl l 0 (Q .normal) e h:=by
 cases l with
 | nil=>exact hv
 | cons i r =>
  simp only[sCode1,vcC,vcVals]at hv
  simp only[sRest]
  have hv:=wH hv
  cases hi:items[i]? with
  | none=>simp only[hi,eW,fW,vcOp]at hv
  | some a =>
   simp only[hi,eW]at hv ⊢
   exact xL (fun e h hh=>⟨hh.1,wQ r 1 hh.2⟩) hv
end Go.Am
