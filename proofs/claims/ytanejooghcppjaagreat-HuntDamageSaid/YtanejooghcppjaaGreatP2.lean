/- What the functions of this chapter give, on plain data. No condition. -/
import Derived.Test.YtanejooghcppjaaGreatP1
set_option linter.unnecessarySimpa false
set_option linter.defProp false
set_option linter.unusedSectionVars false
set_option linter.unusedSimpArgs false
set_option linter.unusedVariables false
namespace Go.Am
open Go
theorem eU {P:Program}{h:Heap}{n s:Nat}{cs cs':List D}(a:h n=.box (.agg cs)) (hl:cs.length=s) (hl':cs'.length=s) (ho:∀x,x∈cs'->x.one=true){KH:D->Heap->Prop}:ab P (.st (.c (.ptr n 0 0)) (.c (.agg cs')) s) h KH=KH .undef (ak h n (.box (.agg cs'))):=by
 have e:setCells (.agg cs) 0 (D.agg cs').cells=.agg cs':=by
  show D.agg (cs.take 0++cs'++cs.drop (0+cs'.length))=_
  grind
 rw[fG,a];apply propext;constructor
 ·rintro⟨-,-,-,-,h⟩;rw[e]at h;exact h
 ·intro h;exact⟨hl',ho,rfl,by simp[hl],by rw[e];exact h⟩
theorem DO {P:Program}{h:Heap}{n j:Nat}{cs:List D}{d:D}(a:h n=.box (.agg cs)) (hj:j<cs.length) (ho:d.one=true){KH:D->Heap->Prop}:ab P (.st (.c (.ptr n 0 j)) (.c d) 1) h KH=KH .undef (ak h n (.box (.agg (cs.set j d)))):=by
 have hc:d.cells=[d]:=by cases d<;>first|rfl|cases ho
 have e:setCells (.agg cs) j d.cells=.agg (cs.set j d):=by
  rw[hc]
  show D.agg (cs.take j++[d]++cs.drop (j+1))=_
  grind [List.set_eq_take_append_cons_drop]
 rw[fG,a];apply propext;constructor
 ·rintro⟨-,-,-,-,h⟩;rw[e]at h;exact h
 ·intro h;refine⟨by rw[hc];rfl,fun x hx=>?_,rfl,?_,by rw[e];exact h⟩
  ·rw[hc]at hx;simp at hx;subst hx;exact ho
  ·show j+1≤cs.length;omega
theorem RQ {P:Program}{r:fv}{g:Heap}{K:HKq}:ab P (.ld (.c (.vp r.e 0)) 4 true) g K=K r.e g:=by
 rw[kH,iJ];have u:(r.e.cells.drop 0).take 4=[.str r.name,.int .i64 r.space,.int .i64 r.type,.int .i64 r.len]:=rfl;have e2:r.e.cells.length=4:=rfl;rw[u,e2];simp[fv.e]
theorem Z1 (n:Nat):List.replicate n (D.int .i32 0)=wr (List.replicate n 0):=by simp[wr]
theorem Xf {h:Heap}{ro:Ro}{c:Code}(hc:ba c) (sp:Int) (s:Nat){KH:HKq}(hK:∀d h' ro',qw h ro h' ro'->vJ h' ro' s d (mo c.arrays sp)->KH d h'):ag PP wG [.sl (c.arrays.map fv.e),.int .i64 sp] h KH:=by
 refine aI Ji (aC _ _ _) rfl (I6 _ _ _) ?_;unfold FG;obtain⟨m,hm⟩:∃m:Mm,m=mo c.arrays sp:=⟨_,rfl⟩;have a5:m.length=c.arrays.length:=by rw[hm];simp[mo]
 have a1:=hc.nar;rw[<- hm]at hK;refine KL λ n0 t0=>?_
 refine⟨λ O h'=>∃d ro',O=[d]/\qw h ro h' ro'/\vJ h' ro' s d m,?_,?_⟩
 ·rintro f h' ⟨d,ro',E,x,y⟩;simp only[av,and_true]at E;rw[E];exact hK d h' ro' x y
 dsimp only[xz,xI,xL]
 refine⟨λ k O h'=>∃(i q:Nat) (els:List D) (ro':Ro),O=[.ms q 0 i,.int .i64 (i:Int)]/\k+i=c.arrays.length/\qw h ro h' ro'/\h q=.free/\zh h' ro' s (m.take i) q els/\NP els,c.arrays.length,
  ⟨0,n0,[],ak ro n0 (.mem s),rfl,by omega,qw.new t0.free _ _,t0.free,⟨af _ _ _,af _ _ _,by simp,λ i e w he=>(by simp at he)⟩,NP.nil⟩,?_⟩
 rintro k f h' ⟨i,q,els,ro',E,a6,x,hq,y,yo⟩;simp only[av,and_true]at E;obtain⟨S,Q⟩:=E;rw[S,Q,gd,aE,fK];by_cases hi:i<c.arrays.length
 case neg =>
  simp only[show ¬((i:Int)<(c.arrays.length:Int)) by omega,decide_false,↓ah,ae,true_and];rw[List.take_of_length_le (by omega)]at y;have:i=m.length:=by omega
  subst this;exact⟨_,ro',rfl,x,q,els,rfl,y,yo⟩
 have ha:c.arrays[i]?=some c.arrays[i]:=aG hi;obtain⟨a,V⟩:∃a,a=c.arrays[i]:=⟨_,rfl⟩;rw[<- V]at ha;have U:=hc.ar a (aK ha);have hw:m[i]?=some (List.replicate (uv sp a) 0):=by rw[hm,mo,List.getElem?_map,ha];rfl
 have hz:a.sz sp=(uv sp a:Int)/\uv sp a<=8:=by
  have:=U.2;unfold fv.sz uv;split<;>omega
 simp only[show((i:Int)<(c.arrays.length:Int)) by omega,decide_true,↓ai,↓Lb ha,↓RQ];refine bk (Xi a sp) (λ d hd=>?_) ?_
 ·simp only[List.mem_cons,List.not_mem_nil,or_false]at hd;rcases hd with rfl|rfl
  ·exact fv.vd a
  ·exact dT
 rintro _ rfl;rw[hz.1,SU];refine⟨by omega,by omega,by omega,by omega,λ u t2=>?_⟩;have a2:ak h' u (.arr 1 (List.replicate ((uv sp a:Int)).toNat (D.int .i32 0))) u=.arr 1 (wr (List.replicate (uv sp a) 0)):=by rw[af,aT,Z1]
 have f2:=t2.free;have I:∀k,h' k≠.free->ak h' u (.arr 1 (List.replicate ((uv sp a:Int)).toNat (D.int .i32 0))) k=h' k:=λ k hk=>aa _ _ (t2.ne hk)
 generalize ak h' u (.arr 1 (List.replicate ((uv sp a:Int)).toNat (D.int .i32 0)))=h2 at a2 I;have G:els.length=i:=by have:=y.len;rw[List.length_take]at this;omega
 have hq2:h2 q=.arr 1 els:=by rw[I q (dD y.hk)];exact y.hk
 have app:=SV (P:=PP) (esz:=1) (bytes:=24) (z:=.nil) (z':=.nil) (d:=.ms u 0 (List.replicate (uv sp a) (0:Int)).length) (KH:=λ Z H=>vbin .add (.int .i64 (i:Int)) (.int .i64 1) λ W =>
  aB [.sl (c.arrays.map fv.e),.int .i64 sp] [.sl (c.arrays.map fv.e),.int .i64 sp]/\∃m',m'<k/\∃(i q:Nat) (els:List D) (ro':Ro),[Z,W]=[.ms q 0 i,.int .i64 (i:Int)]/\m'+i=c.arrays.length/\qw h ro H ro'/\h q=.free/\zh H ro' s (m.take i) q els/\NP els)
  hq2 (by simp) rfl (by omega) (by omega) λ n4 h4 f4 a4 k4=>?_
 ·rw[G]at app;simp only[List.length_replicate]at app;rw[aT];exact app
 ·obtain⟨e1,e2⟩:=Nl (r2:=.row s (m.take i).length) (r4:=.mem s) x hq f2 I f4 k4;have ym:=UM y f2 a2 I f4 a4 k4;rw[ca,show IntKind.i64.wrap ((i:Int)+1)=((i+1:Nat):Int) by rw[wrap64 (by omega) (by omega)];rfl];refine⟨by simp,k-1,by omega,i+1,n4,els++[.ms u 0 (List.replicate (uv sp a) (0:Int)).length],_,by rw[G],by omega,e1,e2,?_,yo.snoc _ _⟩;rw[List.take_add_one,hw];exact ym
theorem Gb.out {h:Heap}{ro:Ro}{s:Nat}{d:D}{m:Mm}(x:Gb h ro s d m):∃h'',NT h h''/\LN h'' d (aZ m):=by
 obtain⟨k,els,rfl,y⟩:=x;obtain⟨G,E,-⟩:=y.SQ;refine⟨iP h k 1 els,.step y.hk G (.refl _),?_⟩
 have:=fT (h:=iP h k 1 els) (n:=k) (e:=1) (els:=m.map words) (by rw[uV,E]) (λ z u w hw=>by
  simp only[List.mem_map]at u;obtain⟨z,-,rfl⟩:=u
  simp[words]at hw;subst hw;rfl)
 rw[aE]at this;exact this
section
variable {h:Heap}{ro:Ro}{dR dE dL:D}{dm:Nat->D}{st:St}
theorem Aa {P:Program}{n i j l s:Nat}{k:IntKind}{a:Int}{h:Heap}{KH:HKq}:ab P (.iadda (.c (.ptr n i j)) (.c (.int k a)) l s) h KH=(0<=a/\a<l/\(h n).live=true/\KH (.ptr n i (j+a.toNat*s)) h):=rfl
theorem oq {P:Program}{n j i:Nat}{a:Int}{d:D}{h:Heap}(ha:a=(i:Int)) (hi:i<2) (hb:h n=.box d){KH:HKq}:ab P (.iadda (.c (.ptr n 0 j)) (.c (.int .i64 a)) 2 1) h KH=KH (.ptr n 0 (j+i)) h:=by
 subst ha;rw[Aa,hb];apply propext;constructor
 ·rintro⟨-,-,-,h⟩;simpa using h
 ·intro h;exact⟨by omega,by omega,rfl,by simpa using h⟩
end
end Go.Am
namespace Go.Am
open Go
theorem Zs {P:Program}{w:List Int}{i:Nat}{v:Int}(hv:w[i]?=some v){h:Heap}{KH:HKq}:ab P (.iadd (.c (words w)) (.c (.int .i64 (i:Int))) 1) h KH=KH (.vp (.int .i32 v) 0) h:=by
 have hk:=(aq.1 hv).1;rw[words,jq,aT,List.getElem?_map,hv,aE];apply propext;constructor
 ·rintro⟨-,-,h⟩;exact(h _ rfl).2
 ·intro u;exact⟨by omega,by omega,λ d hd=>by cases hd;exact⟨rfl,u⟩⟩
theorem WE {w:List Int}{h:Heap}{K:D->Prop}:bq (words w) h K=K (.int .i64 (w.length:Int)):=by simp[words,gd]
theorem Qa {P:Program}{k:IntKind}{n:Int}{h:Heap}{KH:HKq}:ab P (.ld (.c (.vp (.int k n) 0)) 1 false) h KH=KH (.int k n) h:=by rw[kH,bg];rfl
theorem mO (m:Mm):(aZ m).vd=true/\aD (aZ m):=bd3 rfl
theorem Z6 {it:It}{o:fQ}(ho:CP it.regs.length o):aV PP cP [it.e,o.e] (· = .int .i32 (bN it.regs o)):=by
 refine ju (Rg (KH:=HA (· = .int .i32 (bN it.regs o))) (h:=bP) (dR:=words it.regs) (by rfl) (Or.inl rfl) ho λ h' _=>?_);exact uF (by simp) (by simp) (.refl _) (bD rfl).d rfl
section
variable {h0 h:Heap}{ro0 ro:Ro}{L:List (Nat×D)}{KH:HKq}
theorem lC.box (B:lC h0 ro0 h ro L){d:D}(ho:aD d) (hK:∀n h' ro',lC h0 ro0 h' ro' ((n,d)::L)->KH (.ptr n 0 0) h'):ab PP (.box (.c d)) h KH:=by
 rw[jX];exact⟨ho,λ n t=>hK n _ _ (B.push t.free d)⟩
theorem lC.alloc (B:lC h0 ro0 h ro L){d:D}(hK:∀n h' ro',lC h0 ro0 h' ro' ((n,d)::L)->KH (.ptr n 0 0) h'):ab PP (.alloc d) h KH:=by
 rw[fc];exact λ n t=>hK n _ _ (B.push t.free d)
theorem lC.eU (B:lC h0 ro0 h ro L) (i:Nat){n s:Nat}{cs cs':List D}(hi:L[i]?=some (n,.agg cs)) (hl:cs.length=s) (hl':cs'.length=s) (ho:∀x,x∈cs'->x.one=true)
  (hK:∀h',lC h0 ro0 h' ro (L.set i (n,.agg cs'))->KH .undef h'):ab PP (.st (.c (.ptr n 0 0)) (.c (.agg cs')) s) h KH:=by
 rw[Go.Am.eU (B.get i hi) hl hl' ho];exact hK _ (B.aM i hi _)
theorem lC.DO (B:lC h0 ro0 h ro L) (i:Nat){n j:Nat}{cs:List D}{d:D}(hi:L[i]?=some (n,.agg cs)) (hj:j<cs.length) (ho:d.one=true)
  (hK:∀h',lC h0 ro0 h' ro (L.set i (n,.agg (cs.set j d)))->KH .undef h'):ab PP (.st (.c (.ptr n 0 j)) (.c d) 1) h KH:=by
 rw[Go.Am.DO (B.get i hi) hj ho];exact hK _ (B.aM i hi _)
theorem lC.eR (B:lC h0 ro0 h ro L) (i:Nat){n s:Nat}{d:D}(hi:L[i]?=some (n,d)) (hd:d=.agg d.cells) (hl:d.cells.length=s):ab PP (.ld (.c (.ptr n 0 0)) s true) h KH=KH d h:=by
 have:=B.get i hi;rw[hd]at this;rw[<- hl,Go.Am.eR this, <- hd]
theorem lC.zp (B:lC h0 ro0 h ro L) (i:Nat){n j:Nat}{d e:D}(hi:L[i]?=some (n,d)) (he:d.cells[j]?=some e) (hd:d=.agg d.cells):ab PP (.ld (.c (.ptr n 0 j)) 1 false) h KH=KH e h:=by
 have:=B.get i hi;rw[hd]at this;exact cT this he
end
abbrev UG:Ro:=λ _=>xh.no
theorem lC.start:lC bP UG bP UG []:=lC.nil
theorem jA (l:bG):aD l.e:=List.all_eq_true.1 (bG.on l)
theorem bG.bR (l:bG):xt l.e:=cF (by simp[words])
def PF:It:=⟨0,0,0,0,[],[]⟩
def zG (c:Code) (l:bG) (id:Int):It×Int:=if id<0\/id≥l.groups*c.group then(PF,1) else(cC c id 0 1,0)
theorem Mk {c:Code}{l:bG}{id:Int}(h:0<=id/\id<l.groups*c.group):zG c l id=(cC c id 0 1,0):=if_neg (by omega)
theorem Nu {c:Code}{l:bG}(hc:ba c) (hl:bY c l):IntKind.i64.wrap (l.groups*c.group)=l.groups*c.group/\1<=l.groups*c.group/\l.groups*c.group<=512:=by
 have h1:=hl.n;have h2:=hc.group;have E:1*1<=l.groups*c.group:=Int.mul_le_mul h1.1 h2.1 (by omega) (by omega);have u:l.groups*c.group<=64*8:=Int.mul_le_mul h1.2 h2.2 (by omega) (by omega);exact⟨wrap64 (by omega) (by omega),by omega,by omega⟩
theorem Xm {c:Code}{l:bG}{id:Int}(hc:ba c) (hl:bY c l):aV PP wI [c.e,l.e,.int .i64 id] (· = .tup [(zG c l id).1.e,.int .i64 (zG c l id).2]):=by
 refine ju (aI Jm (aC _ _ _) rfl (Ja _ _ _ _) ?_);dsimp only[FT,xB,xF,xL,xP,xS];refine lC.start.box (kL c).2 λ n1 h1 U B=>?_
 refine B.box (jA l) λ W h2 S B=>?_
 refine B.alloc λ E h3 Q B=>?_
 have O:=B.used 1 rfl;have I:=B.used 2 rfl;obtain⟨V,g2,Z⟩:=Nu hc hl;rw[fK]
 have bad:∀{L:List (Nat×D)}{ro:Ro},zG c l id=(PF,1)->lC bP UG h3 ro ((E,.agg SM)::L) ->
   ab PP (.bld SM []) h3 λ H G=>ab PP (.st (.c (.ptr E 0 0)) (.c H) 7) G λ _ u=>ab PP (.ld (.c (.ptr E 0 0)) 7 true) u λ a48 _ =>
    HA (· = .tup [(zG c l id).1.e,.int .i64 (zG c l id).2]) (.tup [a48,.int .i64 1]) u:=by
  intro L ro hp B;rw[fF rfl];refine B.eU 0 (cs':=SM) rfl rfl rfl (by simp) λ h4 B=>?_
  rw[B.eR (s:=7) 0 rfl rfl rfl];rw[hp];refine eE (.refl _) (.cons (Iv.agg (.cons (bD rfl) (.cons (bD rfl) (.cons (bD rfl) (.cons (bD rfl) (.cons jB (.cons jB (.cons jB .nil)))))))) (.cons (bD rfl).d .nil)) rfl
 by_cases h1:id<0
 ·simp only[h1,decide_true,↓gtf,↓zN,↓ai];exact bad (by simp[zG,h1]) B
 simp only[h1,decide_false,↓gff,↓jc O,↓jc I,Nat.zero_add,B.zp 1 (j:=0) rfl rfl rfl,B.zp 2 (j:=0) rfl rfl rfl];simp only[↓C2];rw[CY,V,EL];by_cases h2:id≥l.groups*c.group
 ·simp only[h2,decide_true,↓ai];exact bad (by simp[zG,h2]) B
 simp only[h2,decide_false,↓ah,B.eR (s:=8) 2 rfl rfl rfl];refine gN (Rf hc) ⟨Code.bR c,bh,bh,bh,trivial⟩ ?_;refine B.eU 0 (cs':=(cC c id 0 1).cs) rfl rfl rfl (It.bR _).one λ h4 B=>?_
 rw[B.eR (s:=7) 0 rfl rfl rfl];refine eE (.refl _) (.cons (Ca (It.bR _)) (.cons (bD rfl).d .nil)) ?_;rw[Mk ⟨by omega,by omega⟩];rfl
end Go.Am
namespace Go.Am
open Go
section
variable {h0 h:Heap}{ro0 ro:Ro}{L:List (Nat×D)}{KH:HKq}
theorem lC.adj (B:lC h0 ro0 h ro L) (i:Nat){n s:Nat}{cs cs':List D}(hi:L[i]?=some (n,.agg cs)) (hl:cs.length=s) (hl':cs'.length=s) (ho:∀x,x∈cs'->x.one=true)
  (hK:∀h',gH h ro h' ro->lC h0 ro0 h' ro (L.set i (n,.agg cs'))->KH .undef h'):ab PP (.st (.c (.ptr n 0 0)) (.c (.agg cs')) s) h KH:=by
 rw[Go.Am.eU (B.get i hi) hl hl' ho];exact hK _ (gH.aM (by rw[B.rn i hi];rfl)) (B.aM i hi _)
theorem lC.adi (B:lC h0 ro0 h ro L) (i:Nat){n j:Nat}{cs:List D}{d:D}(hi:L[i]?=some (n,.agg cs)) (hj:j<cs.length) (ho:d.one=true)
  (hK:∀h',gH h ro h' ro->lC h0 ro0 h' ro (L.set i (n,.agg (cs.set j d)))->KH .undef h'):ab PP (.st (.c (.ptr n 0 j)) (.c d) 1) h KH:=by
 rw[Go.Am.DO (B.get i hi) hj ho];exact hK _ (gH.aM (by rw[B.rn i hi];rfl)) (B.aM i hi _)
theorem lC.ia2 (B:lC h0 ro0 h ro L) (i:Nat){n j:Nat}{a:Int}{d:D}(hi:L[i]?=some (n,d)) (ha:0<=a/\a<2):ab PP (.iadda (.c (.ptr n 0 j)) (.c (.int .i64 a)) 2 1) h KH=KH (.ptr n 0 (j+a.toNat)) h :=
 oq (i:=a.toNat) (by omega) (by omega) (B.get i hi)
theorem ZY {q i:Nat}{w:List Int}{v:Int}(hq:h q=.arr 1 (wr w)) (hi:i<w.length) (hK:KH .undef (ak h q (.arr 1 (wr (w.set i v))))) :
  ab PP (.iadd (.c (.ms q 0 w.length)) (.c (.int .i64 (i:Int))) 1) h λ a h1=>ab PP (.st (.c a) (.c (.int .i32 v)) 1) h1 KH:=by
 simp only[↓cv,hq,Slot.row];refine⟨by omega,by omega,⟨_,rfl⟩,?_⟩;rw[fG,hq];refine⟨rfl,by simp,by simp[wr];omega,by simp,λ d hd=>?_⟩
 have e:setCells d 0 (D.int .i32 v).cells=.int .i32 v:=by
  rw[MZ,Option.map_eq_some_iff]at hd;obtain⟨z,-,rfl⟩:=hd;rfl
 rw[e,show 0+((i:Int)).toNat=i by omega,MY];exact hK
end
theorem zg.f1 {h:Heap}{ro:Ro}{r:xh}{d:D}{w:List Int}(x:zg h ro r d w):LN h d (words w):=by
 rcases x with rfl|⟨q,rfl,h2,-⟩
 ·exact bD rfl
 ·have:=fT h2 (WC w);rw[GA]at this;exact this
theorem zg.one {h:Heap}{ro:Ro}{r:xh}{d:D}{w:List Int}(x:zg h ro r d w):d.one=true:=by rcases x with rfl|⟨q,rfl,-,-⟩<;>rfl
theorem NO.dst {N:Nat}{R:Int}{t:Term}(h:NO N R t) (h4:t.kind=4):∃r:Nat,t.d.n=(r:Int)/\(r:Int)<R:=by
 cases h with
 | collect s d a b t hs hd ha hb h =>
  obtain⟨r,E,u,rfl⟩:=hd;exact⟨r.toNat,(by show r=_;omega),by omega⟩
 | _=>simp at h4
theorem Kn {c:Code}{it:It}{v:Int}(h:it.at_≠2):pF c it v=(it,1):=if_pos h
theorem BS {c:Code}{it:It}{v:Int}(h:it.at_=2):pF c it v=(⟨it.id,1,(hU c it.block).to0,it.epoch,if(hU c it.block).kind=4 then it.regs.set (hU c it.block).d.n.toNat v else it.regs,it.priv⟩,0):=by
 unfold pF;rw[if_neg (by simp[h])]
theorem Z7 {c:Code}{l:bG}{it:It}{v:Int}(hc:ba c) (hi:ItW c l it):aV PP sB [c.e,it.e,.int .i32 v] (· = .tup [(pF c it v).1.e,.int .i64 (pF c it v).2]):=by
 refine ju (aI LJ (aC _ _ _) rfl (Lv _ _ _ _) ?_);dsimp only[Ik,xB,xF,xI,xL,xS,yF,yJ,yL];refine lC.start.box (kL c).2 λ n1 h1 a8 B=>?_
 refine B.box it.bR.one λ n2 h2 a7 B=>?_
 refine B.alloc λ n3 h3 a6 B=>?_
 have G:=B.used 1 rfl;have u2:=B.used 2 rfl;simp only[↓jc G,Nat.zero_add,B.zp 1 (j:=1) rfl rfl rfl,↓mA];by_cases ha:it.at_=2
 case neg =>
  simp only[ha,decide_false,Bool.not_false,↓ai,B.eR (s:=7) 1 rfl rfl rfl];refine B.eU 0 (cs':=it.cs) rfl rfl rfl (It.bR _).one λ h4 B=>?_
  rw[B.eR (s:=7) 0 rfl rfl rfl,Kn ha];exact eE (.refl _) (.cons (Ca (It.bR _)) (.cons (bD rfl).d .nil)) rfl
 obtain⟨k,Q,a1,hQ,a5,ht,-⟩:=hc.RL hi.block;obtain⟨-,-,hT⟩:=hc.xs Q a5;have a2:∀{g':Heap}{K:HKq},ab PP (.iadd (.c (.sl (c.b.map Block.e))) (.c (.int .i64 it.block)) 14) g' K=K (.vp Q.e 0) g':=λ {g' K}=>by rw[a1,K8 hQ]
 simp only[ha,decide_true,Bool.not_true,↓ah,↓jc G,↓jc u2,Nat.zero_add,B.zp 2 (j:=7) rfl rfl rfl,B.zp 1 (j:=2) rfl rfl rfl,a2,↓BY,↓VZ];refine B.alloc λ n4 h4 u B=>?_
 refine B.eU 0 (cs':=Q.t.cs) rfl rfl rfl (Term.bR _).one λ h5 B=>?_
 have G:=B.used 2 rfl;have S:=B.used 0 rfl;simp only[↓bw,G,S,Nat.zero_add,Nat.add_zero,true_and,↓jC,B.ia2 0 (j:=11) (a:=0) rfl ⟨by omega,by omega⟩,↓fB,Int.toNat_zero,B.zp 0 (j:=11) rfl rfl rfl];refine B.DO 2 (cs:=it.cs) rfl (by simp[It.cs]) rfl λ h6 B=>?_
 simp only[B.ia2 0 (j:=11) (a:=0) rfl ⟨by omega,by omega⟩,↓fB,Int.toNat_zero,Nat.add_zero,B.zp 0 (j:=11) rfl rfl rfl,ae,true_and,and_true];refine B.DO 2 (cs:=it.cs.set 1 (.int .i64 1)) rfl (by simp[It.cs]) rfl λ h7 B=>?_
 simp only[B.ia2 0 (j:=11) (a:=0) rfl ⟨by omega,by omega⟩,↓fB,Int.toNat_zero,Nat.add_zero,B.zp 0 (j:=11) rfl rfl rfl,ae,true_and,and_true];have B:lC bP UG h7 u [(n4,Q.t.e),(n3,.agg SM),(n2,.agg [.int .i64 it.id,.int .i64 1,.int .i64 Q.t.to0,.int .i64 it.epoch,words it.regs,aZ it.priv,.sl []]),(n1,c.e)]:=B
 refine⟨λ _ h'=>∃(E:Ro) (dR:D) (w:List Int),lC bP UG h' E [(n4,Q.t.e),(n3,.agg SM),(n2,.agg [.int .i64 it.id,.int .i64 1,.int .i64 Q.t.to0,.int .i64 it.epoch,dR,aZ it.priv,.sl []]),(n1,c.e)]/\zg h' E .regs dR w /\
  pF c it v=(⟨it.id,1,Q.t.to0,it.epoch,w,it.priv⟩,0),?_,?_⟩
 ·rintro _ h' ⟨E,dR,w,B,R,hp⟩;have oR:=R.one;rw[B.eR (s:=7) 2 rfl rfl rfl];refine B.adj 1 (cs':=[.int .i64 it.id,.int .i64 1,.int .i64 Q.t.to0,.int .i64 it.epoch,dR,aZ it.priv,.sl []]) rfl rfl rfl (by simp[oR,aZ]) λ h8 V B=>?_
  rw[B.eR (s:=7) 1 rfl rfl rfl,hp];have R:=R.aS V rfl;exact eE (.refl _) (.cons (Iv.agg (.cons (bD rfl) (.cons (bD rfl) (.cons (bD rfl) (.cons (bD rfl) (.cons R.f1 (.cons (bD rfl) (.cons (bD rfl) .nil)))))))) (.cons (bD rfl).d .nil)) rfl
 have S:=B.used 0 rfl;have G:=B.used 2 rfl;simp only[↓jc S,Nat.zero_add,B.zp 0 (j:=0) rfl rfl rfl,↓bZ];by_cases h4:Q.t.kind=4
 case neg =>
  simp only[h4,decide_false,↓ah,ae,true_and];exact⟨u,words it.regs,it.regs,B,Or.inl rfl,by rw[BS ha,ht,if_neg h4]⟩
 obtain⟨r,I,c1⟩:=hT.dst h4;have H:=hi.len;have c2:=hc.regs;simp only[h4,decide_true,↓ai,↓jc G,Nat.zero_add,B.zp 2 (j:=4) rfl rfl rfl];refine Nf (w:=it.regs) (by rintro e;rw[e]at H;simp at H;omega) (by omega) λ q h8 hq hq2 Z=>?_
 have x8:qw h7 u h8 (ak u q .regs):=λ k hk=>⟨Z k hk,aa _ _ (by rintro rfl;exact hk hq)⟩
 have B:=B.step x8.fr;have O:ak u q .regs q=.regs:=af _ _ _;generalize ak u q .regs=U at B O x8;simp only[↓jc (B.used 2 rfl),Nat.zero_add];refine B.adi 2 (j:=4) rfl (by simp) rfl λ h9 V B=>?_
 have W:h9 q=.arr 1 (wr it.regs):=by rw[(V q (by rw[hq2];simp) (by rw[O];rfl)).1];exact hq2
 simp only[↓jc (B.used 2 rfl),↓jc (B.used 0 rfl),Nat.zero_add,Nat.reduceAdd,B.zp 2 (j:=4) rfl rfl rfl,B.zp 0 (j:=3) rfl rfl rfl,I];refine ZY (w:=it.regs) W (by omega) ?_;refine⟨U,.ms q 0 it.regs.length,it.regs.set r v,B.step (Fr.aM (by rw[O];simp) (by simp)),Or.inr ⟨q,by simp,af _ _ _,O⟩,?_⟩;rw[BS ha,ht,if_pos h4,I];rfl
end Go.Am
namespace Go.Am
open Go
theorem lC.tail {h0 h:Heap}{ro0 ro:Ro}{L:List (Nat×D)}{p:Nat×D}(B:lC h0 ro0 h ro (p::L)):lC h0 ro0 h ro L :=
 ⟨(List.nodup_cons.1 B.nd).2,λ x hx=>B.at_ x (List.mem_cons_of_mem _ hx),B.fr⟩
abbrev c0:List D:=[.int .i64 0,.int .i64 0,.int .i64 0,.int .i64 0,.int .i64 0,.nil,.nil,.nil]
theorem lC.re {h0 h h':Heap}{ro0 ro:Ro}{L:List (Nat×D)}(B:lC bP ro0 h ro L) (hk:∀p∈L,h' p.1=h p.1):lC bP ro0 h' ro L :=
 ⟨B.nd,λ p hp=>by obtain⟨a,b,c⟩:=B.at_ p hp;exact⟨by rw[hk p hp];exact a,b,c⟩,λ k hk=>absurd rfl hk⟩
theorem YC {P:Program}{h:Heap}{KH:HKq}{esz bytes:Nat}{z s d:D}{els:List D}(ho:Own esz h s els) (hd:aD d) (hc:d.cells.length=esz) (hb:(els.length+1)*bytes<=140737488355328) (hl:els.length+1<=9223372036854775807)
  (hk:∀v h',Own esz h' v (els++[d])->NS h h' s->KH v h'):ab P (.app (.c s) (.c (.sl [d])) esz bytes z) h KH:=by
 refine⟨λ e he=>by simp at he;subst he;exact hc,λ y hy=>by simp at hy;subst hy;exact hd,?_⟩;rcases ho with⟨rfl,rfl⟩|⟨m,rfl,hm⟩
 ·exact⟨⟨by simpa using hb,by simp⟩,λ n t=>hk _ _ (Or.inr ⟨n,rfl,af _ _ _⟩) λ k hk _=>aa _ _ (t.ne hk)⟩
 ·refine⟨els,.of hm,by simp,⟨by simpa using hb,by simpa using hl⟩,λ n t=>⟨hk _ _ (Or.inr ⟨n,by simp,af _ _ _⟩) λ k u hne=>?_,λ h0=>absurd rfl h0⟩⟩;have h1:=t.ne u;have h2:k≠m:=by rintro rfl;exact hne _ rfl
  rw[aa _ _ h1,aa _ _ h2]
theorem aab {esz:Nat}{h:Heap}{v:D}{els:List D}(ho:Own esz h v els){k:Nat}{d:D}(hb:h k=.box d):∀l,v≠.ms k 0 l:=by
 rintro l rfl;rcases ho with⟨hc,-⟩|⟨q,hc,hq⟩
 ·cases hc
 ·cases hc;rw[hb]at hq;cases hq
theorem Ux {esz:Nat}{h:Heap}{v:D}{els:List D}(ho:Own esz h v els){k:Nat}{d:D}(hb:h k=.box d) (s:Slot):Own esz (ak h k s) v els:=by
 rcases ho with ho|⟨q,rfl,hq⟩
 ·exact Or.inl ho
 ·refine Or.inr ⟨q,rfl,?_⟩;rw[aa _ _ (by rintro rfl;rw[hb]at hq;cases hq)];exact hq
theorem ab5 {h:Heap}{v:D}{w:List Int}(ho:Own 1 h v (wr w)):LN h v (words w):=by
 rcases ho with⟨rfl,he⟩|⟨q,rfl,hq⟩
 ·have:w=[]:=by cases w<;>first|rfl|(simp[wr]at he)
  subst this;exact jB
 ·exact fT hq (WC w)
def Mv (g:Int) (zs:List Int):D:=.agg (.int .u8 g::zs.map (.int .i8))
theorem Np (g:Int) (zs:List Int):aD (Mv g zs):=λ x hx=>by
 simp[Mv]at hx;rcases hx with rfl|⟨z,-,rfl⟩<;>rfl
theorem UT {g:Int}{zs:List Int}{i:Nat}(hi:i<zs.length):(Mv g zs).cells[1+i]?=some (.int .i8 zs[i]):=by
 simp only[Mv,fZ];rw[Nat.add_comm,List.getElem?_cons_succ,List.getElem?_map,aG hi];rfl
theorem lT {P:Program}{h:Heap}{m l j:Nat}{a:Int}{v:D}(hm:h m=.box v) (h0:0<=a) (h1:a<(l:Int)){K:D->Prop}:an P (.iadda (.c (.ptr m 0 j)) (.c (.int .i64 a)) l 1) h K=K (.ptr m 0 (j+a.toNat)):=by
 rw[jC,Aa,hm];simp[Slot.live,Slot.used,h0,h1]
theorem Oi {a b:Int}(ha:0<=a) (hb:0<b):0<=a.tmod b/\a.tmod b<b:=by
 rw[Int.tmod_eq_emod_of_nonneg ha];exact⟨Int.emod_nonneg _ (by omega),Int.emod_lt_of_pos _ hb⟩
theorem Jr {c:Code}(s:Nat):cq c.arrays s (mo c.arrays s):=by
 refine⟨by simp[mo],λ i a w ha hw=>?_⟩;rw[mo,List.getElem?_map,ha]at hw;cases hw;refine⟨by simp[PH],λ v u=>?_⟩;obtain⟨-,rfl⟩:=List.mem_replicate.1 u;exact⟨by omega,by omega⟩
theorem vJ.row {h:Heap}{ro:Ro}{s:Nat}{d:D}{m:Mm}(x:vJ h ro s d m){i:Nat}{w:List Int}(hw:m[i]?=some w) :
  ∃q,h q=.arr 1 (wr w)/\ro q=.row s i/\(∀{K:HKq},ab PP (.iadd (.c d) (.c (.int .i64 (i:Int))) 1) h (λ a h1=>ab PP (.ld (.c a) 1 false) h1 K)=K (.ms q 0 w.length) h) /\
   ∀w':List Int,w'.length=w.length->vJ (ak h q (.arr 1 (wr w'))) ro s d (m.set i w'):=by
 obtain⟨V,els,rfl,y,U⟩:=x;have I:=(aq.1 hw).1;have hl:=y.len;have he:els[i]?=some (els[i]'(by omega)):=aG (by omega)
 obtain⟨q,hq,H,hq2⟩:∃q,els[i]'(by omega)=.ms q 0 w.length/\h q=.arr 1 (wr w)/\ro q=.row s i:=by
  rcases y.el i _ w he hw with g|g
  ·obtain⟨q,l,e⟩:=U _ (List.getElem_mem (h:=(by omega:i<els.length)));rw[e]at g;cases g
  ·exact g
 rw[hq]at he;refine⟨q,H,hq2,λ {K}=>?_,λ w' G=>⟨V,els,by simp,⟨?_,y.rk,by simp[hl],λ j e v O E=>?_⟩,U⟩⟩
 ·rw[cv,y.hk,kT,y.hk];apply propext;constructor
  ·rintro⟨-,-,-,-,h⟩;have:=h (.ms q 0 w.length) (by rw[show 0+((i:Int)).toNat=i by omega];exact he);simpa[bg] using this
  ·intro hk;refine⟨by omega,by omega,⟨_,rfl⟩,by simp;omega,λ e u=>?_⟩;rw[show 0+((i:Int)).toNat=i by omega,he]at u;cases u;simpa[bg] using hk
 ·rw[aa _ _ (by rintro rfl;rw[y.rk]at hq2;cases hq2)];exact y.hk
 ·by_cases S:i=j
  ·subst S;rw[List.getElem?_set_self I]at E;cases E;rw[he]at O;cases O;exact Or.inr ⟨q,by rw[G],af _ _ _,hq2⟩
  ·rw[List.getElem?_set_ne S]at E;rcases y.el j e v O E with g|⟨p,Z,W,Q⟩
   ·exact Or.inl g
   ·refine Or.inr ⟨p,Z,?_,Q⟩;rw[aa _ _ (by rintro rfl;rw[hq2]at Q;cases Q;exact S rfl)];exact W
theorem abZ {h:Heap}{d r:D}{i:Nat}(hd:∃q l,d=D.ms q 0 l) (H:∀{K:HKq},ab PP (.iadd (.c d) (.c (.int .i64 (i:Int))) 1) h (λ a h1=>ab PP (.ld (.c a) 1 false) h1 K)=K r h){K:D->Prop} :
  an PP (.iadd (.c d) (.c (.int .i64 (i:Int))) 1) h (λ a=>an PP (.ld (.c a) 1 false) h K)=K r:=by
 obtain⟨q,l,rfl⟩:=hd;have:=H (K:=λ x _=>K x);rw[cv]at this;rw[eD,cv];simp only[↓fB];exact this
theorem vJ.ms {h:Heap}{ro:Ro}{s:Nat}{d:D}{m:Mm}(x:vJ h ro s d m):∃q l,d=D.ms q 0 l:=by obtain⟨E,els,rfl,y,u⟩:=x;exact⟨_,_,rfl⟩
theorem vJ.len {h:Heap}{ro:Ro}{s:Nat}{d:D}{m:Mm}(x:vJ h ro s d m){K:D->Prop}:bq d h K=K (.int .i64 (m.length:Int)):=by
 obtain⟨E,els,rfl,y,u⟩:=x;rw[ko,y.hk];simp[Slot.live,Slot.used]
theorem cq.set {ar:List fv}{s:Nat}{m:Mm}(h:cq ar s m){i k:Nat}{w:List Int}{v:Int}(hw:m[i]?=some w) (hv:mm v):cq ar s (m.set i (w.set k v)):=by
 have:=Uq h (n:=i) (i:=k) hv;unfold Sz at this;rw[List.getD_eq_getElem?_getD,hw,Option.getD_some]at this;exact this
def N0 (zs:List Int) (i k:Nat):Int:=qF (qF (zs.getD (8+(i+k) % 4) 0)+qF (((k:Int)*(i:Int)).tmod 5))
def rowF (zs:List Int) (i:Nat) (w:List Int):Nat->List Int
 | 0=>w
 | k+1=>(rowF zs i w k).set k (N0 zs i k)
def L5 (zs:List Int) (m:Mm):Nat->Mm
 | 0=>m
 | i+1=>(L5 zs m i).set i (rowF zs i ((L5 zs m i).getD i []) ((L5 zs m i).getD i []).length)
theorem Kh (zs:List Int) (i:Nat) (w:List Int):∀k,(rowF zs i w k).length=w.length
 | 0=>rfl
 | k+1=>by simp[rowF,Kh zs i w k]
theorem Sf (zs:List Int) (i k:Nat):mm (N0 zs i k):=dW _
theorem Oq {zs:List Int}{i:Nat}{w:List Int}(h:∀v∈w,mm v):∀k,∀v,v∈rowF zs i w k->mm v
 | 0=>h
 | k+1=>JD (Oq h k) (Sf zs i k)
theorem cq.setRow {ar:List fv}{s:Nat}{m:Mm}(h:cq ar s m){i:Nat}{w w':List Int}(hw:m[i]?=some w) (hl:w'.length=w.length) (hI:∀v,v∈w'->mm v):cq ar s (m.set i w'):=by
 refine⟨by simp[h.len],λ j a v ha u=>?_⟩;by_cases e:i=j
 ·subst e;rw[List.getElem?_set_self (aq.1 hw).1]at u;cases u;exact⟨by rw[hl];exact(h.w i a w ha hw).1,hI⟩
 ·rw[List.getElem?_set_ne e]at u;exact h.w j a v ha u
theorem P5 {ar:List fv}{s:Nat}{zs:List Int}{m:Mm}(h:cq ar s m):∀i,cq ar s (L5 zs m i)
 | 0=>h
 | i+1=>by
  have u:=P5 (zs:=zs) h i;simp only[L5];by_cases hi:i<(L5 zs m i).length
  ·have hw:=aG hi;rw[List.getD_eq_getElem?_getD,hw,Option.getD_some];obtain⟨-,E⟩:=u.w i (ar[i]'(by rw[<- u.len];exact hi)) _ (aG _) hw;exact u.setRow hw (Kh _ _ _ _) (Oq E _)
  ·rw[List.set_eq_of_length_le (by omega)];exact u
def XN (c:Code) (zs:List Int):Mm:=L5 zs (mo c.arrays 1) c.arrays.length
theorem aap (c:Code) (zs:List Int):cq c.arrays 1 (XN c zs):=P5 (Jr 1) _
theorem Uj {c:Code}{g:Int}{zs:List Int}(hc:ba c) (hz:zs.length=12):aV PP qP [c.e,Mv g zs] (· = aZ (XN c zs)):=by
 refine ju (aI Gi (aC _ _ _) rfl (FH _ _ _) ?_);dsimp only[Ax,xB,xF,xL];refine lC.start.box (kL c).2 λ n1 h1 a6 B=>?_
 refine B.box (Np g zs) λ n2 h2 Z B=>?_
 simp only[↓jc (B.used 1 rfl),Nat.zero_add,B.zp 1 (j:=5) rfl rfl rfl];refine Xf (ro:=Z) hc 1 1 λ d h3 V x O=>?_
 have B:=B.step x.fr;have c2:=hc.nar;refine⟨λ _ h'=>∃(u:Ro),vJ h' u 1 d (XN c zs),?_,?_⟩
 ·rintro _ h' ⟨u,O⟩;have ht:∀ds,d≠.tup ds:=by obtain⟨k,els,rfl,-⟩:=O;simp
  obtain⟨c8,i,z⟩:=O.r.out;exact uF ht (by simp[aZ]) i z.d rfl
 unfold sI
 refine⟨λ n qs h'=>∃(i:Nat) (u:Ro),qs=[.int .i64 (i:Int)]/\n+i=c.arrays.length/\lC bP UG h' u [(n2,Mv g zs),(n1,c.e)]/\vJ h' u 1 d (L5 zs (mo c.arrays 1) i),
  c.arrays.length,⟨0,V,rfl,by omega,B,O⟩,?_⟩
 rintro n f h' ⟨i,u,hf,c1,B,O⟩;simp only[av,and_true]at hf;obtain⟨m,hm⟩:∃m,m=L5 zs (mo c.arrays 1) i:=⟨_,rfl⟩;have W:cq c.arrays 1 m:=by rw[hm];exact P5 (Jr 1) i
 rw[<- hm]at O;have c3:=W.len;rw[hf,O.len,fK];by_cases hi:i<m.length
 case neg =>
  simp only[show ¬((i:Int)<(m.length:Int)) by omega,decide_false,↓ah,ae,true_and];have:i=c.arrays.length:=by omega
  subst this;rw[hm]at O;exact⟨u,O⟩
 have Q:m[i]?=some m[i]:=aG hi;obtain⟨w0,G⟩:∃w,w=m[i]:=⟨_,rfl⟩;rw[<- G]at Q;simp only[show((i:Int)<(m.length:Int)) by omega,decide_true,↓ai];refine⟨λ _ h'=>∃(u:Ro),lC bP UG h' u [(n2,Mv g zs),(n1,c.e)]/\vJ h' u 1 d (m.set i (rowF zs i w0 w0.length)),?_,?_⟩
 ·rintro _ h' ⟨u,B,O⟩;rw[ca,show IntKind.i64.wrap ((i:Int)+1)=((i+1:Nat):Int) by rw[wrap64 (by omega) (by omega)];rfl];refine⟨by simp,n-1,by omega,i+1,u,rfl,by omega,B,?_⟩;simp only[L5];rw[<- hm,List.getD_eq_getElem?_getD,Q,Option.getD_some];exact O
 dsimp only[sJ,xI,xL,xS,yC,yF,yI,yJ,yL]
 refine⟨λ n qs h'=>∃(k:Nat) (u:Ro),qs=[.int .i64 (k:Int)]/\k<=w0.length/\n+k=w0.length/\lC bP UG h' u [(n2,Mv g zs),(n1,c.e)]/\vJ h' u 1 d (m.set i (rowF zs i w0 k)),
  w0.length,⟨0,u,rfl,by omega,by omega,B,by
   have:m.set i w0=m:=by rw[G];exact List.set_getElem_self _
   simp only[rowF];rw[this];exact O⟩,?_⟩
 have c6:i<c.arrays.length:=by omega
 clear O B;rintro n f2 h' ⟨k,u,U,c5,a8,B,O⟩;simp only[av,and_true]at U;have hw:(m.set i (rowF zs i w0 k))[i]?=some (rowF zs i w0 k):=List.getElem?_set_self hi;have E:=Kh zs i w0 k;obtain⟨w,I⟩:∃w,w=rowF zs i w0 k:=⟨_,rfl⟩;rw[<- I]at hw E O;obtain⟨a1,-⟩:=W.w i c.arrays[i] w0 (aG (by omega)) Q;have c7:=(hc.ar c.arrays[i] (List.getElem_mem _)).2;have a7:w.length<=8:=by rw[E,a1];unfold PH;split<;>omega
 obtain⟨q,hq,rq,H,S⟩:=O.row hw;rw[hf,U];rw[H,ko,hq,fK];refine⟨by simp[Slot.live,Slot.used],?_⟩;by_cases hk:k<w.length
 case neg =>
  simp only[show ¬((k:Int)<(w.length:Int)) by omega,decide_false,↓ah,ae,true_and];have:k=w0.length:=by omega
  rw[I,this]at O;exact⟨u,B,O⟩
 simp only[show((k:Int)<(w.length:Int)) by omega,decide_true,↓ai];rw[abZ O.ms H];have e4:((i:Int)+(k:Int)).tmod 4=(((i+k) % 4:Nat):Int):=by rw[Int.tmod_eq_emod_of_nonneg (by omega)];omega
 rw[ca,wrap64 (by omega) (by omega),cy];refine⟨by simp,?_⟩;rw[e4];simp only[↓bw,B.used 0 rfl,Nat.zero_add,true_and];rw[lT (B.get 0 rfl) (by omega) (by omega)];have h8:8+(i+k) % 4<zs.length:=by omega
 have a2:=UT (g:=g) h8;simp only[aT,B.zp 0 (j:=9+(i+k) % 4) rfl (by rw[show 9+(i+k) % 4=1+(8+(i+k) % 4) by omega];exact a2) rfl,↓fB,↓eD,↓Ag,↓eZ,↓CY,↓cy];refine⟨by simp,?_⟩;rw[ca];simp only[↓cv,hq,Slot.row];refine⟨by omega,by omega,⟨_,rfl⟩,?_⟩;rw[fG,hq];refine⟨rfl,by simp,by simp[wr];omega,by simp,λ e he=>?_⟩
 have es:∀v:Int,setCells e 0 (D.int .i32 v).cells=.int .i32 v:=λ v=>by
  rw[MZ,Option.map_eq_some_iff]at he;obtain⟨z,-,rfl⟩:=he;rfl
 rw[es,show 0+((k:Int)).toNat=k by omega,MY];rw[ca,show IntKind.i64.wrap ((k:Int)+1)=((k+1:Nat):Int) by rw[wrap64 (by omega) (by omega)];rfl];refine⟨by simp,n-1,by omega,k+1,u,rfl,by omega,by omega,B.step (Fr.aM (by rw[rq];simp) (by simp)),?_⟩;have X:=S (w.set k (N0 zs i k)) (by simp);rw[List.set_set]at X;simp only[rowF];rw[<- I];have c4:k*i<=8*8:=Nat.mul_le_mul (by omega) (by omega);have a5:((k:Int)*(i:Int))=((k*i:Nat):Int):=by simp
 have ew:IntKind.i32.wrap (IntKind.i32.wrap zs[8+(i+k) % 4]+IntKind.i32.wrap ((IntKind.i64.wrap ((k:Int)*(i:Int))).tmod 5))=N0 zs i k:=by
  rw[wrap64 (by omega) (by omega)];unfold N0 qF;rw[List.getD_eq_getElem?_getD,aG h8,Option.getD_some]
 rw[ew];exact X
def fitsM (s:Int):List fv->Mm->Bool
 | [],[]=>true
 | a::r,w::m=>decide (a.sz s=(w.length:Int))&&fitsM s r m
 | _,_=>false
theorem MF {s:Int}:∀{xs:List fv}{ms:Mm},fitsM s xs ms=true->xs.length=ms.length
 | [],[],_=>rfl
 | a::r,w::m,h=>by simp[fitsM]at h;simp[MF h.2]
 | [],_::_,h=>by simp[fitsM]at h
 | _::_,[],h=>by simp[fitsM]at h
theorem Cb {s:Int}:∀{xs:List fv}{ms:Mm},xs.length=ms.length->(fitsM s xs ms=true ↔ ∀(i:Nat) (a:fv) (w:List Int),xs[i]?=some a->ms[i]?=some w->a.sz s=(w.length:Int))
 | [],[],_=>by simp[fitsM]
 | a::r,w::m,h=>by
  simp only[List.length_cons,Nat.add_right_cancel_iff]at h;simp only[fitsM,Bool.and_eq_true,decide_eq_true_eq,Cb h];constructor
  ·rintro⟨h1,h2⟩ i u w' ha hw
   cases i with
   | zero=>simp at ha hw;subst ha hw;exact h1
   | succ i=>exact h2 i u w' (by simpa using ha) (by simpa using hw)
  ·intro h;exact⟨h 0 a w rfl rfl,λ i u w' ha hw=>h (i+1) u w' (by simpa using ha) (by simpa using hw)⟩
theorem Vk {s:Int}{xs:List fv}{ms:Mm}(h:xs.length≠ms.length):fitsM s xs ms=false:=by
 cases e:fitsM s xs ms with
 | false=>rfl
 | true=>exact absurd (MF e) h
theorem Vj {s:Int}{xs:List fv}{ms:Mm}(hl:xs.length=ms.length){i:Nat}{a:fv}{w:List Int}(ha:xs[i]?=some a) (hw:ms[i]?=some w) (h:a.sz s≠(w.length:Int)):fitsM s xs ms=false:=by
 cases e:fitsM s xs ms with
 | false=>rfl
 | true=>exact absurd ((Cb hl).1 e i a w ha hw) h
theorem Xr (a:fv) (w:List Int) (n:Nat) (s:Int){h:Heap}{K:HKq}(hb:h n=.box (.int .i64 s)) (hk:∀h',Ext h h'->K (.bool (decide (a.sz s=(w.length:Int)))) h'):ag PP kA [a.e,words w,.ptr n 0 0] h K:=by
 refine aI CR (aC _ _ _) rfl (CH _ _ _ _) ?_;dsimp only[vo,xB,xL];rw[jX];refine⟨(fv.vd a).2,λ m t=>?_⟩;have hne:n≠m:=t.ne (by rw[hb];simp);have hm:ak h m (.box a.e) m=.box (.agg [.str a.name,.int .i64 a.space,.int .i64 a.type,.int .i64 a.len]):=af _ _ _;have hn:ak h m (.box a.e) n=.box (.int .i64 s):=by rw[aa _ _ hne];exact hb
 have u:∀{K:HKq},ab PP (.ld (.c (.ptr m 0 0)) 4 true) (ak h m (.box a.e)) K=K a.e (ak h m (.box a.e)):=λ {K}=>eR hm
 rw[u,ub hn rfl];refine gN (Uk a s) ⟨fv.bR a,bh,trivial⟩ ?_;rw[words,gd,aE,bZ];exact hk _ (Ext.new t _)
theorem aaW:de PP kA=true:=by kernel_rfl
theorem JL {P:Program}{l:List fv}{k:Nat}{r:fv}(hr:l[k]?=some r){h:Heap}{KH:HKq}:ab P (.iadd (.c (.sl (l.map fv.e))) (.c (.int .i64 (k:Int))) 4) h KH=KH (.vp r.e 0) h:=by
 have hk:=(aq.1 hr).1;rw[jq,aT,List.getElem?_map,hr,aE];apply propext;constructor
 ·rintro⟨-,-,h⟩;exact(h _ rfl).2
 ·intro u;exact⟨by omega,by omega,λ d hd=>by cases hd;exact⟨rfl,u⟩⟩
theorem Un {xs:List fv}{ms:Mm}(hlx:xs.length<=1000000) (s:Int):aV PP nW [.sl (xs.map fv.e),.int .i64 s,aZ ms] (· = .bool (fitsM s xs ms)):=by
 refine bt HI (aC _ _ _) rfl (Hv _ _ _ _) ?_;dsimp only[Df,xB];rw[jX];refine⟨dT.2,λ n t=>?_⟩;have hb:ak bP n (.box (.int .i64 s)) n=.box (.int .i64 s):=af _ _ _;generalize ak bP n (.box (.int .i64 s))=h at hb;rw[xv];have hk:∀(h':Heap) (b:Bool),b=fitsM s xs ms->yn (· = .bool (fitsM s xs ms)) (.bool b) h':=λ h' b hb=>bO.mpr (by rw[hb])
 refine aI da (aC _ _ _) rfl (cZ _ _ _ _) ?_;unfold bK;rw[gd,OE,mA,aE];by_cases hl:xs.length=ms.length
 case neg =>
  simp only[show((xs.length:Int)=(ms.length:Int))=False from eq_false (by omega),decide_false,Bool.not_false,↓ai];exact hk _ _ (Vk hl).symm
 simp only[hl,decide_true,Bool.not_true,↓ah];refine⟨λ _ _=>fitsM s xs ms=true,λ _ h' h2=>hk _ _ h2.symm,?_⟩;rw[gd,aE];dsimp only[bF,xI,xL,xS];refine⟨λ k U h'=>∃i:Nat,U=[.int .i64 (i:Int)]/\k+i=xs.length/\h' n=.box (.int .i64 s)/\∀(j:Nat) (a:fv) (w:List Int),j<i->xs[j]?=some a->ms[j]?=some w->a.sz s=(w.length:Int),xs.length,⟨0,rfl,rfl,hb,λ j a w Z=>by omega⟩,?_⟩;rintro k f h' ⟨i,Q,W,hb,u⟩;simp only[av,and_true]at Q;rw[Q,fK];by_cases hi:i<xs.length
 case neg =>
  simp only[show ¬((i:Int)<(xs.length:Int)) by omega,decide_false,↓ah,ae,true_and];refine(Cb hl).2 λ j a w ha hw=>u j a w ?_ ha hw
  have:=(aq.1 ha).1;omega
 have ha:xs[i]?=some xs[i]:=aG hi;have hw:ms[i]?=some (ms[i]'(by omega)):=aG (by omega);obtain⟨a,O⟩:∃a,a=xs[i]:=⟨_,rfl⟩;obtain⟨w,H⟩:∃w,w=ms[i]'(by omega):=⟨_,rfl⟩;rw[<- O]at ha;rw[<- H]at hw;simp only[show((i:Int)<(xs.length:Int)) by omega,decide_true,↓ai,↓JL ha,↓RQ];rw[fc];intro m t2;have hne:n≠m:=t2.ne (by rw[hb];simp);have es:setCells (.agg ar0) 0 a.e.cells=a.e:=rfl;rw[fG,af];refine⟨rfl,(fv.bR a).one,rfl,by simp,?_⟩;rw[lf,es];have hm:ak h' m (.box a.e) m=.box (.agg [.str a.name,.int .i64 a.space,.int .i64 a.type,.int .i64 a.len]):=af _ _ _;have hn:ak h' m (.box a.e) n=.box (.int .i64 s):=by rw[aa _ _ hne];exact hb
 generalize ak h' m (.box a.e)=h2 at hm hn;have V:∀{K:HKq},ab PP (.ld (.c (.ptr m 0 0)) 4 true) h2 K=K a.e h2:=λ {K}=>eR hm
 rw[XM hw,TF,V,Nt];refine⟨aaW,Xr a w n s hn λ h3 S=>?_⟩;have I:h3 n=.box (.int .i64 s):=by rw[S n (by rw[hn];simp),hn]
 by_cases hsz:a.sz s=(w.length:Int)
 case neg =>
  simp only[hsz,decide_false,↓aai,↓ai];exact hk _ _ (Vj hl ha hw hsz).symm
 simp only[hsz,decide_true,↓XF,↓ah];rw[ca,show IntKind.i64.wrap ((i:Int)+1)=((i+1:Nat):Int) by rw[wrap64 (by omega) (by omega)];rfl];refine⟨by simp,k-1,by omega,i+1,rfl,by omega,I,λ j a' w' Z G E=>?_⟩;rcases Nat.lt_or_ge j i with h3|h3
 ·exact u j a' w' h3 G E
 ·have:j=i:=by omega
  subst this;rw[ha]at G;rw[hw]at E;cases G;cases E;exact hsz
theorem Xo {x:Int}(hx:x=1\/x=2\/x=4\/x=8):aV PP ic [.int .u64 x] (· = .int .i64 1):=by
 refine bt rQ (aC _ _ _) rfl (rf _ _) ?_;dsimp only[lX,xC];rcases hx with rfl|rfl|rfl|rfl<;>(simp[vbin,↓eZ];exact jM ▸ congrArg _ (by decide +kernel))
theorem ab3 {x:Int}(hx:x=1\/x=2\/x=4\/x=8):aV PP jm [.int .u64 x] (· = .int .i64 1):=by
 refine bt uj (aC _ _ _) rfl (uf _ _) ?_;dsimp only[nB,xC];rw[ah];refine bk (Xo hx) (λ d hd=>by simp at hd;subst hd;exact dT) ?_;rintro _ rfl;exact jM ▸ rfl
structure cE (c:Code):Prop extends ba c where
 sub4:c.sub=1\/c.sub=2\/c.sub=4\/c.sub=8
 dvd:c.group.tmod c.sub=0
def pv (c:Code) (l:bG):Int:=if 1<=l.groups/\l.groups<=(4096:Int).tdiv c.group/\(l.args.length:Int)=c.params then 0 else 40
theorem Ng {c:Code}{l:bG}(hc:cE c):aV PP jT [c.e,l.e] (· = .int .i64 (pv c l)):=by
 refine bt Gq (aC _ _ _) rfl (FO _ _ _) ?_;dsimp only[AH,xB,xC,xF,xL,xP,yF,yL,yP];refine lC.start.box (kL c).2 λ n1 h1 Q B=>?_
 refine B.box (jA l) λ U h2 O B=>?_
 have hg:=hc.group;have hs:=hc.sub;have hp:=hc.params;have u1:=B.used 1 rfl;have u2:=B.used 0 rfl;have u:=B.get 1 rfl;have E:=B.get 0 rfl;refine⟨λ _ _=>¬(1<=l.groups/\l.groups<=(4096:Int).tdiv c.group/\(l.args.length:Int)=c.params),?_,?_⟩
 ·intro _ h hn;rw[pv,if_neg hn];exact jM ▸ rfl
 have g1:¬c.group<1:=by omega
 have g2:¬256<c.group:=by omega
 have g3:¬c.sub<1:=by omega
 have g4:¬32<c.sub:=by omega
 have W:c.group≠0:=by omega
 have V:c.sub≠0:=by omega
 have I:IntKind.u64.wrap c.sub=c.sub:=by rcases hc.sub4 with h|h|h|h<;>rw[h]<;>rfl
 unfold Code.e at u;unfold bG.e at E;simp (disch:=omega) only[↓cS,↓gS,↓kn u,↓kn E,↓cT u (j:=0) rfl,↓cT u (j:=1) rfl,↓eZ,I];refine bk (ab3 hc.sub4) (λ d hd=>by simp at hd;subst hd;exact dT) ?_;rintro _ rfl
 have S:IntKind.i64.wrap ((4096:Int).tdiv c.group)=(4096:Int).tdiv c.group:=by
  rcases (show c.group=1\/c.group=2\/c.group=3\/c.group=4\/c.group=5\/c.group=6\/c.group=7\/c.group=8 by omega) with h|h|h|h|h|h|h|h<;>rw[h]<;>rfl
 simp (disch:=omega) only[↓cS,↓gS,↓kn u,↓kn E,↓cT u (j:=0) rfl,↓cT u (j:=1) rfl,↓eZ,↓cy,V,hc.dvd,ne_eq,not_false_eq_true,true_and];have Z:∀{K:HKq},ab PP (.ld (.c (.ptr U 0 1)) 1 false) h2 K=K (words l.args) h2:=cT E rfl;have H:∀{K:HKq},ab PP (.ld (.c (.ptr n1 0 4)) 1 false) h2 K=K (.int .i64 c.params) h2:=cT u rfl;rw[et E,aX E (j:=0) rfl];by_cases k1:l.groups<1
 ·simp (disch:=omega) only[↓cS,↓gS,↓qV,↓zN,↓C2,ae,true_and];omega
 simp (disch:=omega) only[↓cS,↓gS,↓et u,↓et E,↓aX u (j:=0) rfl,↓aX E (j:=0) rfl,↓ss,↓qV,W,ne_eq,not_false_eq_true,true_and,S];by_cases k2:(4096:Int).tdiv c.group<l.groups
 ·simp (disch:=omega) only[↓cS,↓gS,↓qV,↓zN,↓C2,ae,true_and];omega
 simp (disch:=omega) only[↓cS,↓gS,↓qV,↓C2,Z,WE,↓kn u,H];by_cases G:(l.args.length:Int)=c.params
 ·simp (disch:=omega) only[↓cS,↓gS,↓kn u,H];rw[pv,if_pos ⟨by omega,by omega,G⟩];exact jM ▸ rfl
 ·simp (disch:=omega) only[↓cS,↓gS,↓qV,↓zN,↓C2,ae,true_and];exact λ h=>G h.2.2
variable [ck]
variable {P:Program}{KH:HKq}{K:D->Prop}{h:Heap}{L:LSq}
def nD (k:Nat):D:=.int .i64 (k:Int)
def HW (l:List Nat):List D:=l.map nD
def QV (h:Heap) (L:LSq) (v:D) (T:List Nat):Prop :=
 (v=.nil/\T=[]/\Vs h L)\/∃m off els,v=.ms m off T.length/\Vs h ((m,.arr 1 els)::L)/\off+T.length<=els.length/\(els.drop off).take T.length=HW T/\∀x∈els,x.one=true
theorem Ni {l:List Nat}:∀x,x∈HW l->x.one=true:=λ x hx=>by
 simp only[HW,List.mem_map]at hx;obtain⟨k,-,rfl⟩:=hx;rfl
theorem P3 {l:List Nat}:∀x,x∈HW l->aD x:=λ x hx=>by
 simp only[HW,List.mem_map]at hx;obtain⟨k,-,rfl⟩:=hx;exact(bh).one
theorem lq {l:List Nat}:(HW l).length=l.length:=by simp[HW]
theorem XJ {l:List Nat}{i k:Nat}(h:l[i]?=some k):(HW l)[i]?=some (nD k):=by simp[HW,h]
variable {v:D}{T:List Nat}
theorem QV.vs (q:QV h L v T):Vs h L:=by
 rcases q with⟨-,-,V⟩|⟨m,off,els,-,V,-⟩
 ·exact V
 ·exact V.pop
theorem QV.len (q:QV h L v T):bq v h K=K (.int .i64 (T.length:Int)):=by
 rcases q with⟨rfl,rfl,V⟩|⟨m,off,els,rfl,V,-⟩
 ·rw[zw];rfl
 ·rw[ko];apply propext;exact⟨λ u=>u.2,λ hk=>⟨by rw[V.get 0 _ _ rfl];rfl,hk⟩⟩
theorem QV.nil (V:Vs h L):QV h L .nil []:=Or.inl ⟨rfl,rfl,V⟩
theorem QV.ex (q:QV h L v T) (hT:T≠[]):∃m off els,v=.ms m off T.length/\Vs h ((m,.arr 1 els)::L)/\off+T.length<=els.length/\(els.drop off).take T.length=HW T/\∀x∈els,x.one=true:=by
 rcases q with⟨-,rfl,-⟩|q
 ·exact absurd rfl hT
 ·exact q
theorem QV.get (q:QV h L v T){i k:Nat}(hk:T[i]?=some k){KH:HKq}(hK:KH (nD k) h):ab P (.iadd (.c v) (.c (.int .i64 (i:Int))) 1) h λ a h1=>ab P (.ld (.c a) 1 false) h1 KH:=by
 have hi:=(aq.1 hk).1;obtain⟨m,off,els,rfl,V,h1,h2,h3⟩:=q.ex (by rintro rfl;simp at hk);have hm:=V.get 0 _ _ rfl;rw[cv];refine⟨by omega,by omega,⟨els,by rw[hm];rfl⟩,?_⟩
 have he:els[off+i]?=some (nD k):=by
  have:=XJ hk;grind
 rw[aT,V.lde 0 rfl he rfl];exact hK
theorem QV.GQ (q:QV h L v T){lo hi:Option Nat}{a b:Nat}(ha:a=lo.getD 0) (hb:b=hi.getD T.length) (hab:a<=b) (hbl:b<=T.length) (hT:T≠[]){KH:HKq}(hK:∀v',QV h L v' ((T.drop a).take (b-a))->KH v' h) :
  ab P (.GQ (.c v) (lo.map λ(x:Nat)=>.c (.int .i64 (x:Int))) (hi.map λ(x:Nat)=>.c (.int .i64 (x:Int))) none 1) h KH:=by
 obtain⟨m,off,els,rfl,V,h1,h2,h3⟩:=q.ex hT;have hm:=V.get 0 _ _ rfl;have hl:((T.drop a).take (b-a)).length=b-a:=by grind
 have key:KH (.ms m (off+a) (b-a)) h:=by
  grind [HW,List.map_take,List.map_drop,List.drop_take,List.drop_drop,QV]
 have row:∃els,(h m).row=some (1,els):=⟨els,by rw[hm];rfl⟩
 cases lo with
 | none =>
  cases hi with
  | none=>simp at ha hb;subst ha;subst hb;exact⟨by omega,by omega,by omega,by omega,row,by simpa using key⟩
  | some y=>simp at ha hb;subst ha;subst hb;exact⟨by omega,by omega,by omega,by omega,row,by simpa using key⟩
 | some x =>
  cases hi with
  | none=>simp at ha hb;subst ha;subst hb;exact⟨by omega,by omega,by omega,by omega,row,by grind⟩
  | some y=>simp at ha hb;subst ha;subst hb;exact⟨by omega,by omega,by omega,by omega,row,by grind⟩
theorem QV.one (V:Vs h L){z:D}{k:Nat}{fz:Bool}{KH:HKq}(hK:∀v h',QV h' L v [k]->KH v h'):ab P (.bldS fz 1 1 z [(0,.c (nD k))]) h KH:=by
 refine⟨λ p hp=>by simp[Arg.get]at hp;subst hp;exact⟨Nat.one_pos,rfl,(bh (k:=.i64) (n:=(k:Int))).one⟩,λ u p hp=>?_,λ n t=>?_⟩
 ·simp[Arg.get]at hp;subst hp;intro x hx;simp[nD,D.cells]at hx;subst hx;trivial
 ·have:KH (.ms n 0 1) (ak h n (.arr 1 [nD k])):=by
   refine hK _ _ (Or.inr ⟨n,0,[nD k],rfl,V.push t.free (by simp),by simp,by simp[HW],λ x hx=>by simp at hx;subst hx;rfl⟩)
  grind [Arg.get,setEls,D.fz,D.fzc,D.nm,D.nR,nD,Heap.freezeAll]
theorem acn {s x z:D}{esz bytes:Nat}:ab P (.app (.c s) (.c x) esz bytes z) h KH=velems esz x h λ ys=>(∀y∈ys,aD y)/\match s with
  | .nil=>(ys.length*bytes<=140737488355328/\ys.length<=9223372036854775807)/\∀n,pB h n->KH (.ms n 0 ys.length) (ak h n (.arr esz ys))
  | .ms m off len=>∃els,HB h m esz els/\off+len=els.length/\((len+ys.length)*bytes<=140737488355328/\len+ys.length<=9223372036854775807) /\
    ∀n,pB h n->KH (.ms n 0 (len+ys.length)) (ak (ak h m .dead) n (.arr esz (els.drop off++ys))) /\
     (off≠0->KH (.ms n off (len+ys.length)) (ak (ak h m .dead) n (.arr esz (els++ys))))
  | _=>False:=rfl
theorem QV.app (q:QV h L v T){z x:D}{bytes:Nat}{ks:List Nat}{KH:HKq}(hx:∀{K:List D->Prop},K (HW ks)->velems 1 x h K) (hb:(T.length+ks.length)*bytes<=140737488355328) (hl:T.length+ks.length<=9223372036854775807)
  (hK:∀v h',QV h' L v (T++ks)->KH v h'):ab P (.app (.c v) (.c x) 1 bytes z) h KH:=by
 rw[acn];refine hx ⟨P3,?_⟩;rcases q with⟨rfl,rfl,V⟩|⟨m,off,els,rfl,V,h1,h2,h3⟩
 ·refine⟨⟨by rw[lq];simpa using hb,by rw[lq];simpa using hl⟩,λ n t=>hK _ _ ?_⟩;rw[lq,List.nil_append];exact Or.inr ⟨n,0,HW ks,rfl,V.push t.free (by simp),by rw[lq];omega,by grind [lq],Ni⟩
 ·have hm:=V.get 0 _ _ rfl;have O:(els.take (off+T.length)).length=off+T.length:=by rw[List.length_take];omega
  have E:∀x,x∈els.take (off+T.length)++HW ks->x.one=true:=λ x hx=>by
   grind [Ni]
  have G:(els.take (off+T.length)).drop off=HW T:=by grind
  have H:HW T++HW ks=HW (T++ks):=by simp[HW]
  have hlen:(T++ks).length=T.length+ks.length:=List.length_append;refine⟨els.take (off+T.length),⟨els.drop (off+T.length),by rw[List.take_append_drop];exact hm⟩,O.symm,⟨by rw[lq];exact hb,by rw[lq];exact hl⟩,λ n t=>?_⟩
  have Q:∀u:List D,Vs (ak (ak h m .dead) n (.arr 1 u)) ((n,.arr 1 u)::L):=λ u=>by
   have hne:n≠m:=by rintro rfl;rw[t.free]at hm;cases hm
   have S:Vs (ak h m .dead) L:=by
    refine V.pop.Rq λ k s hi=>?_
    have:k≠m:=λ e=>by
     obtain⟨i,I⟩:=hi;exact V.ne (i+1) 0 k m s _ (by simpa using I) rfl (by omega) e
    exact aa _ _ this
   exact S.push (by rw[aa _ _ hne];exact t.free) (by simp)
  rw[G,H,lq];refine⟨hK _ _ (Or.inr ⟨n,0,HW (T++ks),by rw[hlen],Q _,by rw[lq];omega,by grind [lq],Ni⟩),λ _=>hK _ _ (Or.inr ⟨n,off,els.take (off+T.length)++HW ks,by rw[hlen],Q _,?_,?_,E⟩)⟩
  ·grind [lq]
  grind [lq]
theorem Vs.swap {x y:Nat×Slot}(V:Vs h (x::y::L)):Vs h (y::x::L):=by
 let f:Nat->Nat:=λ i=>if i=0 then 1 else if i=1 then 0 else i
 have u:∀i,(y::x::L)[i]?=(x::y::L)[f i]?:=λ i=>by
  grind
 have inj:∀i j,f i=f j->i=j:=λ i j h=>by
  grind
 exact⟨λ i n s hi=>V.get (f i) n s (by rw[<- u];exact hi),λ i j n m s s' hi G E=>V.ne (f i) (f j) n m s s' (by rw[<- u];exact hi) (by rw[<- u];exact G) λ e=>E (inj _ _ e),λ i n s hi=>V.lv (f i) n s (by rw[<- u];exact hi)⟩
theorem QV.aM (q:QV h L v T) (i:Nat){n:Nat}{s s':Slot}(hi:L[i]?=.some (n,s)) (hs:s'≠.free):QV (ak h n s') (L.set i (n,s')) v T:=by
 rcases q with⟨rfl,rfl,V⟩|⟨m,off,els,rfl,V,h1,h2,h3⟩
 ·exact Or.inl ⟨rfl,rfl,V.aM i hi hs⟩
 ·exact Or.inr ⟨m,off,els,rfl,by have:=V.aM (i+1) (n:=n) (s:=s) (by simpa using hi) hs;simpa using this,h1,h2,h3⟩
theorem QV.more (q:QV h L v T){n:Nat}(hn:h n=.free){s:Slot}(hs:s≠.free):QV (ak h n s) ((n,s)::L) v T:=by
 rcases q with⟨rfl,rfl,V⟩|⟨m,off,els,rfl,V,h1,h2,h3⟩
 ·exact Or.inl ⟨rfl,rfl,V.push hn hs⟩
 ·exact Or.inr ⟨m,off,els,rfl,(V.push hn hs).swap,h1,h2,h3⟩
theorem ZJ {n j:Nat}{els:List D}{d:D}(hn:h n=.arr 1 els) (hj:j<els.length) (ho:d.one=true) (h1:∀x∈els,x.one=true):KH .undef (ak h n (.arr 1 (els.set j d)))->ab P (.st (.c (.ptr n j 0)) (.c d) 1) h KH:=by
 intro E;rw[fG,hn];have hc:∀d:D,d.one=true->d.cells=[d]:=λ d ho=>by cases d<;>first|rfl|cases ho
 refine⟨by rw[hc d ho];rfl,λ x hx=>by grind,hj,by omega,λ y hy=>?_⟩;have u:=h1 y (aK hy);have e:setCells y 0 d.cells=d:=by rw[hc d ho];cases y<;>first|rfl|cases u
 rw[e];exact E
theorem QV.ZK (q:QV h L v T) (i:Nat){n j:Nat}{els:List D}{d:D}(hi:L[i]?=.some (n,.arr 1 els)) (hj:j<els.length) (ho:d.one=true) (h1:∀x∈els,x.one=true)
  (hK:∀h',QV h' (L.set i (n,.arr 1 (els.set j d))) v T->KH .undef h'):ab P (.st (.c (.ptr n j 0)) (.c d) 1) h KH :=
 ZJ (q.vs.get i _ _ hi) hj ho h1 (hK _ (q.aM i hi (by simp)))
theorem QV.alloc (q:QV h L v T){d:D}(hK:∀n h',QV h' ((n,.box d)::L) v T->KH (.ptr n 0 0) h'):ab P (.alloc d) h KH:=by
 rw[fc];exact λ n t=>hK n _ (q.more t.free (by simp))
theorem QV.eU (q:QV h L v T) (i:Nat){n s:Nat}{cs cs':List D}(hi:L[i]?=.some (n,.box (.agg cs))) (hl:cs.length=s) (hl':cs'.length=s) (ho:∀x,x∈cs'->x.one=true)
  (hK:∀h',QV h' (L.set i (n,.box (.agg cs'))) v T->KH .undef h'):ab P (.st (.c (.ptr n 0 0)) (.c (.agg cs')) s) h KH:=by
 rw[fG,q.vs.get i _ _ hi];refine⟨hl',ho,rfl,by simp[hl],?_⟩
 have e:setCells (.agg cs) 0 (D.agg cs').cells=.agg cs':=by
  show D.agg (cs.take 0++cs'++cs.drop (0+cs'.length))=_
  grind
 rw[e];exact hK _ (q.aM i hi (by simp))
theorem QV.ret (q:QV h L v T){K:D->Prop}(hk:K (.sl (HW T))) (hn:T=[]->K .nil):yn K v h:=by
 rcases q with⟨rfl,rfl,V⟩|⟨m,off,els,rfl,V,h1,h2,h3⟩
 ·rw[N1];exact hn rfl
 ·have u:(h m).row=some (1,els):=by rw[V.get 0 _ _ rfl];rfl
  have e:(D.ms m off T.length).fzt h=.sl (HW T):=by grind [D.fzt,D.fz,D.fzc]
  have E:∀x,x∈(els.drop off).take T.length->∀y∈x.cells,y.vone=true:=by
   rw[h2];intro x hx y hy;simp only[HW,List.mem_map]at hx;obtain⟨k,-,rfl⟩:=hx;simp[nD,D.cells]at hy;subst hy;rfl
  refine⟨(by simp:aD (D.ms m off T.length)),?_,by rw[e];rfl,by rw[e];exact hk⟩;intro x hx;simp only[D.cells,List.mem_singleton]at hx;subst hx;exact⟨1,els,u,h1,E⟩
theorem QV.vel {ks:List Nat}(q:QV h L v ks){K:List D->Prop}(hk:K (HW ks)):velems 1 v h K:=by
 rcases q with⟨rfl,rfl,V⟩|⟨m,off,els,rfl,V,h1,h2,h3⟩
 ·exact hk
 ·exact⟨els,by rw[V.get 0 _ _ rfl];rfl,h1,by rw[h2];exact hk⟩
theorem QV.push (q:QV h L v T){z z':D}{bytes k:Nat}{fz:Bool}{KH:HKq}(hb:(T.length+1)*bytes<=140737488355328) (hl:T.length+1<=9223372036854775807)
  (hK:∀v h',QV h' L v (T++[k])->KH v h'):ab P (.bldS fz 1 1 z [(0,.c (nD k))]) h λ x h1=>ab P (.app (.c v) (.c x) 1 bytes z') h1 KH:=by
 rcases q with⟨rfl,rfl,V⟩|⟨m,off,els,rfl,V,h1,h2,h3⟩
 ·refine QV.one V λ x h1 u=>?_
  have E:QV h1 L .nil []:=QV.nil u.vs;exact E.app (ks:=[k]) (λ hk=>u.vel hk) (by simp at hb ⊢;omega) (by simp) hK
 ·refine QV.one V λ x h1 u=>?_
  have E:QV h1 L (.ms m off T.length) T:=Or.inr ⟨m,off,els,rfl,u.vs,by assumption,h2,h3⟩;exact E.app (ks:=[k]) (λ hk=>u.vel hk) (by simpa using hb) (by simpa using hl) hK
end Go.Am
namespace Go.Am
open Go
theorem Vs.iff {h:Heap}{L:LSq}:Vs h L↔(∀n s,(n,s)∈L->h n=s/\s≠.free)/\(L.map Prod.fst).Nodup:=by
 constructor
 ·intro V;refine⟨λ n s hm=>?_,?_⟩
  ·obtain⟨i,hi⟩:=db hm;exact⟨V.get i n s hi,V.lv i n s hi⟩
  ·rw[List.nodup_iff_pairwise_ne,List.pairwise_map,List.pairwise_iff_getElem];intro i j hi E u;exact V.ne i j _ _ L[i].2 L[j].2 (aG hi) (aG E) (by omega)
 ·rintro⟨h1,h2⟩;refine⟨λ i n s hi=>(h1 n s (aK hi)).1,λ i j n m s s' hi E u=>?_,λ i n s hi=>(h1 n s (aK hi)).2⟩;grind [List.pairwise_iff_getElem]
theorem Vs.perm {h:Heap}{L L':LSq}(p:L.Perm L') (V:Vs h L):Vs h L':=by
 grind [Vs.iff]
theorem Vs.iw {h:Heap}{X L:LSq}(V:Vs h (X++L)):Vs h L:=by
 grind [Vs.iff]
def QG (e:Nat) (h:Heap) (L:LSq) (v:D) (T:List D):Prop :=
 (v=.nil/\T=[]/\Vs h L)\/∃m,v=.ms m 0 T.length/\Vs h ((m,.arr e T)::L)
theorem QG.vs {e:Nat}{h:Heap}{L:LSq}{v:D}{T:List D}(q:QG e h L v T):Vs h L:=by
 rcases q with⟨-,-,V⟩|⟨m,-,V⟩
 ·exact V
 ·exact V.pop
theorem QG.one {e:Nat}{h:Heap}{L:LSq}{v:D}{T:List D}(q:QG e h L v T):v.one=true:=by
 rcases q with⟨rfl,-⟩|⟨m,rfl,-⟩<;>rfl
theorem QG.aM {e:Nat}{h:Heap}{L:LSq}{v:D}{T:List D}(q:QG e h L v T) (i:Nat){n:Nat}{s s':Slot}(hi:L[i]?=some (n,s)) (hs:s'≠.free):QG e (ak h n s') (L.set i (n,s')) v T:=by
 rcases q with⟨rfl,rfl,V⟩|⟨m,rfl,V⟩
 ·exact Or.inl ⟨rfl,rfl,V.aM i hi hs⟩
 ·exact Or.inr ⟨m,rfl,by have:=V.aM (i+1) (n:=n) (s:=s) (by simpa using hi) hs;simpa using this⟩
theorem QG.lift {e:Nat}{h:Heap}{L:LSq}{v:D}{T:List D}(q:QG e h L v T):∃Lq,Vs h Lq/\∀(h':Heap) (X:LSq),Vs h' (X++Lq)->QG e h' (X++L) v T:=by
 rcases q with⟨rfl,rfl,V⟩|⟨m,rfl,V⟩
 ·exact⟨L,V,λ h' X u=>Or.inl ⟨rfl,rfl,u⟩⟩
 ·exact⟨_,V,λ h' X u=>Or.inr ⟨m,rfl,u.perm List.perm_middle⟩⟩
theorem QG.app {e:Nat}{h:Heap}{L:LSq}{v:D}{T ys:List D}(q:QG e h L v T){z:D}{bytes:Nat}{KH:HKq}(hy:∀y∈ys,aD y/\y.cells.length=e)
  (hb:(T.length+ys.length)*bytes<=140737488355328) (hl:T.length+ys.length<=9223372036854775807)
  (hK:∀v h',QG e h' L v (T++ys)->KH v h'):ab PP (.app (.c v) (.c (.sl ys)) e bytes z) h KH:=by
 refine⟨λ y h=>(hy y h).2,λ y h=>(hy y h).1,?_⟩;rcases q with⟨rfl,rfl,V⟩|⟨m,rfl,V⟩
 ·simp only[List.length_nil,Nat.zero_add]at hb hl;refine⟨⟨hb,hl⟩,λ n t=>hK _ _ (Or.inr ⟨n,by simp,?_⟩)⟩;have hn:=t.free;exact V.push hn (by simp)
 ·refine⟨T,.of (V.get 0 _ _ rfl),by simp,⟨by simpa using hb,by simpa using hl⟩,λ n t=>⟨hK _ _ (Or.inr ⟨n,by simp,?_⟩),λ h0=>absurd rfl h0⟩⟩;have hn:=t.free;have G:=V.aM 0 rfl (s':=.dead) (by simp)
  have u:(ak h m .dead) n=.free:=by
   have:n≠m:=by rintro rfl;rw[V.get 0 _ _ rfl]at hn;cases hn
   grind [aa]
  have E:=G.push u (s:=.arr e (T++ys)) (by simp);simpa using E.perm (List.Perm.swap _ _ _) |>.pop
def Wy (e:Nat) (h:Heap) (v:D) (xs:List D):Prop:=(∀x∈xs,x=.agg x.cells/\x.cells.length=e) /\
 (v=.sl xs\/∃n off els,v=.ms n off xs.length/\h n=.arr e els/\(els.drop off).take xs.length=xs)
theorem Wy.ext {e:Nat}{h h':Heap}{v:D}{xs:List D}(x:Ext h h') (r:Wy e h v xs):Wy e h' v xs:=by
 obtain⟨u,r⟩:=r;rcases r with r|⟨n,off,els,h1,h2,h3⟩
 ·exact⟨u,Or.inl r⟩
 ·exact⟨u,Or.inr ⟨n,off,els,h1,by rw[x n (by rw[h2];simp)];exact h2,h3⟩⟩
theorem Wy.len {e:Nat}{h:Heap}{v:D}{xs:List D}(r:Wy e h v xs){K:D->Prop}:bq v h K=K (.int .i64 (xs.length:Int)):=by
 rcases r.2 with rfl|⟨n,off,els,rfl,h2,-⟩
 ·rw[gd]
 grind [ko,Slot.live]
theorem Wy.ld {P:Program}{e i:Nat}{h:Heap}{v x:D}{xs:List D}(r:Wy e h v xs) (hx:xs[i]?=some x){KH:HKq}(hK:KH x h):ab P (.iadd (.c v) (.c (.int .i64 (i:Int))) e) h λ a h1=>ab P (.ld (.c a) e true) h1 KH:=by
 obtain⟨E,u⟩:=r.1 x (aK hx);have hi:=(aq.1 hx).1;rcases r.2 with rfl|⟨n,off,els,rfl,h2,h3⟩
 ·rw[yA (by omega) (by simpa using hx) u,E,SI u, <- E];exact hK
 ·rw[cv];refine⟨by omega,by omega,⟨els,by rw[h2];rfl⟩,?_⟩;grind [kT,iJ]
theorem FA {h:Heap}{v cl:D}{xs:List D}{p:D->Bool}{KH:HKq}(r:Wy 7 h v xs) (hl:xs.length<=1000000)
  (hp:∀x∈xs,∀h',Ext h h'->∀{KH:HKq},(∀h'',Ext h' h''->KH (.bool (p x)) h'')->ab PP (.callv (.c cl) [.c x]) h' KH)
  (hK:∀h',Ext h h'->KH (.bool (xs.any p)) h'):ag PP bp [v,cl] h KH:=by
 refine aI iH (aC _ _ _) rfl (iE _ _ _) ?_;unfold dq;refine aI jt (aC _ _ _) rfl (jr _ _ _) ?_;unfold ec;refine⟨λ _ h'=>Ext h h'/\xs.any p=false,?_,?_⟩
 ·grind [vbin]
 rw[r.len];dsimp only[dn,xI,xL];refine⟨λ k x h'=>∃i:Nat,x=[.int .i64 (i:Int)]/\k+i=xs.length/\Ext h h'/\(xs.take i).any p=false,xs.length,⟨0,rfl,by omega,λ _ _=>rfl,by simp⟩,?_⟩;rintro k f h' ⟨i,hx,u,e,hn⟩;simp only[av,and_true]at hx;rw[hx];by_cases hi:i<xs.length
 ·simp (disch:=omega) only[↓cS,↓ai];refine(r.ext e).ld (aG hi) ?_;refine hp _ (List.getElem_mem hi) h' e λ h'' e2=>?_
  have ht:(xs.take (i+1)).any p=((xs.take i).any p||p xs[i]):=by
   rw[List.take_succ_eq_append_getElem hi,List.any_append];simp
  cases hb:p xs[i]
  ·rw[ah];simp only[ae,true_and];exact⟨xs.length-(i+1),by omega,i+1,by simp,by omega,e.trans e2,by rw[ht,hn,hb];rfl⟩
  ·rw[ai];have:=hK h'' (e.trans e2);grind
 ·simp (disch:=omega) only[↓cS,↓ah,ae,true_and];grind [List.take_of_length_le]
structure Gr where
 id:Int
 items:List It
 sh:Mm
def Gr.cs (g:Gr):List D:=[.int .i64 g.id,.sl (g.items.map It.e),aZ g.sh]
def Gr.e (g:Gr):D:=.agg g.cs
theorem Gr.bR (g:Gr):xt g.e:=cF (by simp[Gr.cs,aZ])
theorem It.agg (it:It):it.e=.agg it.e.cells/\it.e.cells.length=7:=⟨rfl,rfl⟩
theorem PV {h:Heap}(xs:List It):Wy 7 h (.sl (xs.map It.e)) (xs.map It.e):=⟨λ x hx=>by
 obtain⟨it,-,rfl⟩:=List.mem_map.1 hx
 exact it.agg,Or.inl rfl⟩
def atP (k:Int) (d:D):Bool:=match d with
 | .agg (_::.int _ a::_)=> !decide (a=k)
 | _=>false
def iq (l:List It):Bool:=decide (0<l.length) && !l.any λ it=> !decide (it.at_=3)
theorem Z8 {it:It}{h:Heap}{KH:HKq}(hK:∀h',Ext h h'->KH (.bool (!decide (it.at_=3))) h'):ab PP (.callv (.c (.fn lk [] [])) [.c it.e]) h KH:=by
 refine⟨by kernel_rfl,?_⟩;show ag PP lk [it.e] h KH
 refine aI EF (aC _ _ _) rfl (Es _ _) ?_;dsimp only[xO,xB,xF,xL];rw[jX];refine⟨it.bR.one,λ n t=>?_⟩;obtain⟨H,u⟩:∃H,H=ak h n (.box it.e):=⟨_,rfl⟩;have a:H n=.box (.agg it.cs):=by rw[u];exact af _ _ _
 have:=hK H (λ k hk=>by rw[u];exact aa _ _ (t.ne hk));rw[<- u];by_cases h3:it.at_=3
 ·simp (disch:=omega) only[↓cS,↓kn a,↓cT a (j:=1) rfl];simpa[h3] using this
 ·simp (disch:=omega) only[↓cS,↓kn a,↓cT a (j:=1) rfl];simpa[h3] using this
theorem Nd {g:Gr}(hl:g.items.length<=1000000):aV PP gu [g.e] (· = .bool (iq g.items)):=by
 refine bt Jo (aC _ _ _) rfl (Jc _ _) ?_;dsimp only[FX,xB,xF,xL,xP];rw[jX];refine⟨g.bR.one,λ n t=>?_⟩;obtain⟨H,E⟩:∃H,H=ak bP n (.box g.e):=⟨_,rfl⟩;have a:H n=.box (.agg g.cs):=by rw[E];exact af _ _ _
 rw[<- E];simp (disch:=omega) only[↓cS,↓kn a,↓cT a (j:=1) rfl,↓(PV g.items).len,aE];by_cases h0:0<g.items.length
 ·simp (disch:=omega) only[↓cS,↓gS,↓kn a,↓cT a (j:=1) rfl];refine FA (p:=atP 3) (PV g.items) (by simpa using hl) (λ x hx h' e KH G=>?_) λ h' e=>?_
  ·obtain⟨it,-,rfl⟩:=List.mem_map.1 hx;exact Z8 λ u e2=>G u e2
  ·rw[List.any_map];have:(g.items.any (atP 3 ∘ It.e))=g.items.any λ it=> !decide (it.at_=3):=rfl
   rw[this];simp only[vun];exact bO ▸ congrArg D.bool (by simp[iq,h0])
 ·simp (disch:=omega) only[↓cS,↓gS];exact bO ▸ congrArg D.bool (by simp[iq,h0])
theorem QG.DO {e:Nat}{h:Heap}{L:LSq}{v:D}{T:List D}(q:QG e h L v T) (i:Nat){n j:Nat}{cs:List D}{d:D}{KH:HKq}(hi:L[i]?=some (n,.box (.agg cs))) (hj:j<cs.length) (ho:d.one=true)
  (hK:∀h',QG e h' (L.set i (n,.box (.agg (cs.set j d)))) v T->KH .undef h'):ab PP (.st (.c (.ptr n 0 j)) (.c d) 1) h KH:=by
 rcases q with⟨rfl,rfl,V⟩|⟨m,rfl,V⟩
 ·exact V.DO i hi hj ho λ h' u=>hK h' (Or.inl ⟨rfl,rfl,u⟩)
 ·exact V.DO (i+1) hi hj ho λ h' u=>hK h' (Or.inr ⟨m,rfl,u⟩)
theorem QG.pop {e:Nat}{h:Heap}{x:Nat×Slot}{L:LSq}{v:D}{T:List D}(q:QG e h (x::L) v T):QG e h L v T:=by
 rcases q with⟨rfl,rfl,V⟩|⟨m,rfl,V⟩
 ·exact Or.inl ⟨rfl,rfl,V.pop⟩
 ·exact Or.inr ⟨m,rfl,(V.perm (List.Perm.swap _ _ _)).pop⟩
theorem QG.push {e:Nat}{h:Heap}{L:LSq}{v d:D}{T:List D}(q:QG e h L v T){z z':D}{bytes:Nat}{KH:HKq}(hd:xt d) (hc:d.cells.length=e) (hb:(T.length+1)*bytes<=140737488355328) (hl:T.length+1<=9223372036854775807)
  (hK:∀v h',QG e h' L v (T++[d])->KH v h'):ab PP (.bldS true e 1 z [(0,.c d)]) h λ x h1=>ab PP (.app (.c v) (.c x) e bytes z') h1 KH:=by
 have hlen:T.length+1=(T++[d]).length:=by simp
 rcases q with⟨rfl,rfl,V⟩|⟨m,rfl,V⟩
 ·refine Nv (els:=[]) (Or.inl ⟨rfl,rfl⟩) hd hc hb hl λ m h' hm u hk=>hK _ _ (Or.inr ⟨m,rfl,?_⟩)
  grind [D.nR,Vs.iff]
 ·refine Nv (els:=T) (Or.inr ⟨m,rfl,V.get 0 _ _ rfl⟩) hd hc hb hl λ E h' hm u hk=>hK _ _ (Or.inr ⟨E,by rw[hlen],?_⟩)
  grind [D.nR,Vs.iff]
def cw (c:Code) (k:Int):Gr:=⟨k,(List.range c.group.toNat).map λ(i:Nat)=>cC c (k*c.group+(i:Int)) 0 1,mo c.arrays 2⟩
theorem VI {c:Code}{l:bG}:∀d,d∈[c.e,l.e]->d.vd=true/\aD d:=λ d hd=>by
 simp at hd;rcases hd with rfl|rfl
 ·exact kL c
 ·exact⟨rfl,jA l⟩
theorem Xs {c:Code}{l:bG}{k:Int}(hc:cE c) (hl:bY c l) (h0:pv c l=0) (hk:0<=k/\k<l.groups):aV PP wJ [c.e,l.e,.int .i64 k] (· = .tup [(cw c k).e,.int .i64 0]):=by
 refine ju (aI Jp (aC _ _ _) rfl (Jd _ _ _ _) ?_);dsimp only[FY,xB,xF,xL,xP,xS];refine Vs.nil.box (kL c).2 λ n1 h1 V=>?_
 refine V.box (jA l) λ Z h2 V=>?_
 refine V.alloc λ n3 h3 V=>?_
 rw[V.eR 2 (s:=8) rfl rfl,V.eR 1 (s:=2) rfl rfl];refine bk (Ng hc) VI ?_;rintro _ rfl;have hg:=hc.group;have hn:=hl.n;rw[h0];have e0:∀{K:HKq},ab PP (.ld (.c (.ptr Z 0 0)) 1 false) h3 K=K (.int .i64 l.groups) h3:=V.zp 1 rfl rfl;simp (disch:=omega) only[↓cS,↓gS,↓V.fa 1 rfl,e0];rw[V.fa 2 rfl,V.zp 2 (e:=.sl (c.arrays.map fv.e)) rfl rfl]
 refine bk (Ul hc.nar (λ a ha=>by have:=hc.ar a ha;exact⟨by have:=this.2.1;omega,by have:=this.2.2;omega⟩) 2) (λ d hd=>by
  simp at hd;rcases hd with rfl|rfl
  ·exact bd3 rfl
  ·exact dT) ?_
 rintro _ rfl;rw[fF rfl];refine V.alloc λ n4 h4 V=>?_
 refine V.eU 0 (cs':=[.int .i64 k,.nil,aZ (mo c.arrays 2)]) rfl rfl rfl (by simp[aZ]) λ h5 V=>?_
 obtain⟨G,E⟩:∃G:Nat,c.group=(G:Int):=⟨c.group.toNat,by omega⟩;obtain⟨B,hB⟩:∃B,B=(cw c k).items:=⟨_,rfl⟩;have a6:B.length=G:=by rw[hB];simp[cw,E]
 obtain⟨O,u⟩:∃O:D->LSq,O=λ v=>[(n4,.box (.agg [.int .i64 k,v,aZ (mo c.arrays 2)])),(n3,.box (.agg [.int .i64 0,.nil,.nil])),(Z,.box l.e),(n1,.box c.e)]:=⟨_,rfl⟩
 refine⟨λ _ h'=>∃v,QG 7 h' (O v) v (B.map It.e),?_,?_⟩
 ·rintro _ h' ⟨v,q⟩;rcases q with⟨rfl,hT,V⟩|⟨m,rfl,V⟩
  ·have:B=[]:=by simpa using hT
   grind
  subst u;rw[V.eR 1 (s:=3) rfl rfl];refine V.eU 2 (cs':=[.int .i64 k,.ms m 0 (B.map It.e).length,aZ (mo c.arrays 2)]) rfl rfl rfl (by simp[aZ]) λ h6 I=>?_
  rw[I.eR 2 (s:=3) rfl rfl];refine eE (.refl _) (.cons (Iv.agg (.cons (bD rfl) (.cons (fT (I.get 0 _ _ rfl) ?_) (.cons (bD rfl) .nil)))) (.cons (Ca (bh (k:=.i64) (n:=0))) .nil)) ?_
  ·intro x hx y hy;obtain⟨it,-,rfl⟩:=List.mem_map.1 hx;have:=it.bR.vd;simp only[It.e,D.vd,List.all_eq_true]at this;exact this y hy
  ·rw[hB];rfl
 rw[V.fa 3 rfl,V.zp 3 (e:=.int .i64 (G:Int)) rfl (by rw[<- E];rfl)];dsimp only[xQ,xF,xL,xS];refine⟨λ m x h'=>∃(i:Nat) (v:D),x=[.int .i64 (i:Int)]/\m+i=G/\QG 7 h' (O v) v ((B.take i).map It.e),G,⟨0,.nil,rfl,by omega,Or.inl ⟨rfl,by simp,by rw[u];exact V⟩⟩,?_⟩;rintro m f h' ⟨i,v,hx,a5,q⟩;simp only[av,and_true]at hx;rw[hx];by_cases hi:i<G
 ·have V:=q.vs
  have hm:0<=k*G/\k*G+G<=l.groups*G/\l.groups*G<=512:=by
   have a1:0<=k*(G:Int):=Int.mul_nonneg hk.1 (by omega);have a2:(k+1)*(G:Int)<=l.groups*G:=Int.mul_le_mul_of_nonneg_right (by omega) (by omega);have a3:l.groups*(G:Int)<=64*G:=Int.mul_le_mul_of_nonneg_right (by omega) (by omega);grind
  subst u;simp (disch:=omega) only[↓cS,↓ai];rw[V.eR 3 (s:=8) rfl rfl,V.eR 2 (s:=2) rfl rfl,V.fa 3 rfl,V.zp 3 (e:=.int .i64 (G:Int)) rfl (by rw[<- E];rfl)];simp (disch:=omega) only[↓cS]
  refine bk (Xm hc.toba hl) (λ d hd=>by
   simp at hd;rcases hd with rfl|rfl|rfl
   ·exact kL c
   ·exact⟨rfl,jA l⟩
   ·exact dT) ?_
  rintro _ rfl;rw[Mk ⟨by omega,by rw[E];omega⟩];simp only[↓h_ext,List.getElem?_cons_zero,List.getElem?_cons_succ];obtain⟨Lq,Vq,lift⟩:=q.lift;refine Vq.alloc λ n5 h6 I=>?_
  refine I.eU 0 (cs':=(cC c (k*(G:Int)+(i:Int)) 0 1).cs) rfl rfl rfl (It.bR (cC c (k*(G:Int)+(i:Int)) 0 1)).one λ h7 V7=>?_
  have S:=lift h7 [(n5,.box (.agg (cC c (k*(G:Int)+(i:Int)) 0 1).cs))] V7;have H:=S.vs;simp only[List.singleton_append]at S H;rw[H.fa 1 rfl,H.zp 1 (j:=1) (e:=v) rfl rfl,H.eR 0 (s:=7) rfl rfl];refine S.push (It.bR _) rfl (by simp;omega) (by simp;omega) λ v9 h9 Q=>?_
  rw[Q.vs.fa 1 rfl];refine Q.DO 1 rfl (by simp) Q.one λ a7 U=>?_
  simp (disch:=omega) only[↓cS,ae,true_and];refine⟨G-(i+1),by omega,i+1,v9,by simp,by omega,?_⟩
  have W:B[i]?=some (cC c (k*(G:Int)+(i:Int)) 0 1):=by
   grind [cw]
  have ht:B.take (i+1)=B.take i++[cC c (k*(G:Int)+(i:Int)) 0 1]:=by
   rw[List.take_add_one,W];rfl
  rw[ht,List.map_append];exact U.pop
 ·simp (disch:=omega) only[↓cS,↓ah,ae,true_and];grind [List.take_of_length_le]
theorem VE {c:Code}(h:HM c):ba c where
 group:=by rcases h.group with h|h|h|h|h<;>omega
 sub:=by rcases h.sub with h|h|h|h<;>omega
 regs:=by have:=h.regs;have:=h.nl;omega
 slots:=h.slots
 params:=by have:=h.params;omega
 nar:=by rw[h.arrays];decide
 ar:=by
  rw[h.arrays];intro a ha;simp only[C7,List.mem_cons,List.not_mem_nil,or_false]at ha;rcases ha with rfl|rfl|rfl|rfl|rfl<;>exact⟨by simp,by simp,by simp⟩
 nb:=by have:=h.nb;omega
 xs:=λ b hb=>by
  obtain⟨hx,hl,ht⟩:=h.b b hb;have hx:∀x∈b.i,Eu c.regs x:=λ x u=>by obtain⟨i,hi⟩:=db u;exact(hx i x hi).1
  refine⟨λ x u=>⟨hx x u,λ ho=>?_,λ ho=>?_⟩,by omega,ht⟩
  ·have E:c.arrays.length=5:=by rw[h.arrays];rfl
   have:∀n:Int,0<=n/\n<5->∃k:Nat,n=(k:Int)/\k<c.arrays.length:=λ n hn=>⟨n.toNat,by omega,by omega⟩
   cases hx x u with
   | load n d a h0 h1 h2=>exact this n h0
   | store n a b h0 h1 h2=>exact this n h0
   | atom s n a b hs h0 h1 h2=>exact this n ⟨h0.1,h0.2.1⟩
   | _=>simp at ho
  ·cases hx x u with
   | param n d h0 h1=>have:=h.params;exact⟨h0.1,by show n<c.params;omega⟩
   | _=>simp at ho
structure PC (c:Code) (l:bG) (it:It):Prop extends ItW c l it where
 ep:0<=it.epoch
 e2:it.at_=2->(hU c it.block).kind=3\/(hU c it.block).kind=4
 e3:it.at_=3->it.block=0/\(∀v∈it.regs,v=0)/\∀w∈it.priv,∀v∈w,v=0
structure adS (c:Code) (l:bG) (r:Stp):Prop where
 it:PC c l r.it
 g:cq c.arrays 1 r.g
 s:cq c.arrays 2 r.s
theorem RM {c:Code}{l:bG}{id ep at_:Int}(hc:ba c) (hid:0<=id/\id<l.groups*c.group) (he:0<=ep) (ha:at_=1\/at_=3):PC c l (cC c id ep at_):=by
 have hr:=hc.regs;refine⟨⟨hid,by show at_=1\/at_=2\/at_=3;omega,⟨Int.le_refl _,by have:=hc.nb;show(0:Int)<_;omega⟩,?_,λ v u=>?_,Jr 3⟩,he,λ h=>?_,λ _=>⟨rfl,λ v u=>(List.mem_replicate.1 u).2,λ w hw v u=>?_⟩⟩
 ·simp[cC];omega
 ·obtain⟨-,rfl⟩:=List.mem_replicate.1 u;exact⟨by omega,by omega⟩
 ·have:at_=2:=h;omega
 ·simp only[cC,mo,List.mem_map]at hw;obtain⟨a,-,rfl⟩:=hw;exact(List.mem_replicate.1 u).2
theorem NO.to {N:Nat}{R:Int}{t:Term}(hN:1<=N) (h:NO N R t):(0<=t.to0/\t.to0<(N:Int))/\(0<=t.to1/\t.to1<(N:Int)):=by
 cases h<;>simp<;>omega
theorem XU {c:Code}{l:bG}{it:It}(hc:ba c) (h:ItW c l it) (h1:it.at_=1) (he:0<=it.epoch):PC c l (cb c it):=by
 obtain⟨k,Q,I,O,u,ht,-⟩:=hc.RL h.block;obtain⟨-,-,E⟩:=hc.xs Q u;obtain⟨t0,t1⟩:=E.to hc.nb.1
 have base:∀b:Int,0<=b/\b<(c.b.length:Int)->PC c l { it with block:=b }:=λ b hb =>
  ⟨⟨h.id,h.at_,hb,h.len,h.regs,h.priv⟩,he,λ h2=>by have:it.at_=2:=h2;omega,λ h3=>by have:it.at_=3:=h3;omega⟩
 unfold cb;rw[ht];simp only;split
 ·exact base _ t0
 split
 ·split
  ·exact base _ t0
  ·exact base _ t1
 split
 ·exact RM hc h.id he (Or.inr rfl)
 ·refine⟨⟨h.id,Or.inr (Or.inl rfl),h.block,h.len,h.regs,h.priv⟩,he,λ _=>?_,λ h3=>by cases h3⟩;show(hU c it.block).kind=3\/(hU c it.block).kind=4
  rw[ht];rename_i n1 H G _;rcases E.ops.2 with h|h|h|h|h
  ·exact absurd h n1
  ·exact absurd h H
  ·exact Or.inl h
  ·exact Or.inr h
  ·exact absurd h G
theorem Z9 {c:Code}{l:bG}{it:It}{v:Int}(hc:ba c) (h:PC c l it) (hv:mm v):PC c l (pF c it v).1:=by
 by_cases ha:it.at_=2
 case neg=>rw[Kn ha];exact h
 obtain⟨k,Q,E,H,u,ht,-⟩:=hc.RL h.block;obtain⟨-,-,G⟩:=hc.xs Q u;obtain⟨t0,t1⟩:=G.to hc.nb.1;rw[BS ha,ht];refine⟨⟨h.id,Or.inl rfl,t0,?_,?_,h.priv⟩,h.ep,λ h2=>(by cases h2),λ h3=>(by cases h3)⟩
 ·have:=h.len;simp only;split<;>simpa using this
 ·simp only;split
  ·exact JD h.regs hv
  ·exact h.regs
theorem PR {c:Code}{l:bG}{it:It}{g s:Mm}{aM:Int}(hc:ba c) (hl:bY c l) (h:PC c l it) (hg:cq c.arrays 1 g) (hs:cq c.arrays 2 s):adS c l (stepP c l it g s aM)/\(stepP c l it g s aM).ev.length<=20:=by
 unfold stepP;split
 ·exact⟨⟨h,hg,hs⟩,by simp⟩
 rename_i ha;have ha:it.at_=1:=by omega
 obtain⟨k,Q,I,O,G,ht,u⟩:=hc.RL h.block;obtain⟨E,H,-⟩:=hc.xs Q G;rw[u];have w0:Hz c (Q5 it g s):=TW h.toItW hg hs
 cases e:runP c l it.id aM it.block Q.i 0 (Q5 it g s) with
 | none=>exact⟨⟨h,hg,hs⟩,by simp⟩
 | some st =>
  obtain⟨w,S⟩:=Q8 hc hl _ _ _ _ E w0 e;refine⟨⟨XU hc ⟨h.id,h.at_,h.block,w.len,w.regs,w.mem 3 (by omega) (by omega)⟩ ha h.ep,w.mem 1 (by omega) (by omega),w.mem 2 (by omega) (by omega)⟩,?_⟩;have:(Q5 it g s).ev.length=0:=rfl;simp only;omega
structure lz where
 g:Mm
 items:List It
 sh:Mm
 ev:List Ev
 turns:List Int
 bl:Nat
def lO (l:List It) (i:Nat):It:=l.getD i PF
def lz.step (s:lz) (i:Nat) (r:Stp):lz:=⟨r.g,s.items.set i r.it,r.s,s.ev++r.ev,s.turns.set i (s.turns.getD i 0+1),s.bl+1⟩
def turnI (c:Code) (l:bG) (i:Nat):Nat->lz->lz×Int
  | 0,s=>(s,if(lO s.items i).at_=1 then 2 else 0)
  | f+1,s=>if(lO s.items i).at_=1 then
      (if(stepP c l (lO s.items i) s.g s.sh (s.turns.getD i 0)).e=0 then turnI c l i f (s.step i (stepP c l (lO s.items i) s.g s.sh (s.turns.getD i 0)))
       else(s,(stepP c l (lO s.items i) s.g s.sh (s.turns.getD i 0)).e))
    else(s,0)
def turnF (c:Code) (l:bG):Nat->Nat->lz->lz×Int
 | 0,_,s=>(s,0)
 | k+1,i,s=>if(turnI c l i (200000-s.bl) s).2=0 then turnF c l k (i+1) (turnI c l i (200000-s.bl) s).1 else turnI c l i (200000-s.bl) s
def iW (c:Code) (l:bG) (s:lz):lz×Int:=turnF c l s.items.length 0 s
def uK (c:Code) (l:List It) (k:Int):Bool:= !l.any λ it=> !(decide (it.at_=2)&&decide (it.block=(lO l 0).block)&&decide ((hU c it.block).kind=k))
theorem JO (a:Int):qF a=(a+2147483648) % 4294967296-2147483648:=by
 unfold qF;simp only[IntKind.wrap,IntKind.signed,IntKind.bits];simp;omega
theorem QU (a b:Int):qF (qF a+b)=qF (a+b):=by simp only[JO];omega
theorem acf {a b:Nat}(ha:a<4294967296) (hb:b<4294967296):ibits .or .i32 (qF a) (qF b)=qF ((a ||| b:Nat):Int):=by
 have e:∀{x:Nat},x<4294967296->(BitVec.ofInt 32 (qF x)).toNat=x:=λ {x} hx=>by
  rw[BitVec.toNat_ofInt,JO];omega
 show IntKind.i32.wrap ((BitVec.ofInt 32 (qF a) ||| BitVec.ofInt 32 (qF b)).toNat:Int)=_
 grind
theorem aav {t k:Nat}(hk:k<=32):Kz .i32 (t:Int) (k:Int)=qF ((t*2 ^ k:Nat):Int):=by
 unfold Kz qF
 have e:min ((k:Int).toNat) IntKind.i32.bits=k:=by
  show min k 32=k
  omega
 rw[e];simp
def nA (v:List Int) (k:Nat):Int:=(v[k]?).getD 0
theorem YA {v:List Int}{k:Nat}(h:k<v.length):v[k]?=some (nA v k):=by rw[nA,aG h];rfl
def balN (v:List Int):Nat->Nat
 | 0=>0
 | k+1=>balN v k+if nA v k=0 then 0 else 2 ^ k
def I3 (v:List Int):Nat->Nat
 | 0=>0
 | k+1=>I3 v k+if nA v k=0 then 0 else 1
def EY (v:List Int):Nat->Int
 | 0=>0
 | k+1=>EY v k+nA v k
theorem RN (v:List Int):∀k,balN v k<2 ^ k
 | 0=>by simp[balN]
 | k+1=>by
  have:=RN v k;grind [balN]
theorem RG (v:List Int):∀k,I3 v k<=k
 | 0=>by simp[I3]
 | k+1=>by
  have:=RG v k;rw[I3];split<;>omega
def Kp (op:Int) (v x:List Int) (i:Nat):Int :=
 if op=1 then qF (balN v v.length)
 else if op=2 then(if 0<I3 v v.length then 1 else 0)
 else if op=3 then(if I3 v v.length=v.length then 1 else 0)
 else if op=5 then qF (EY v (i+1))
 else if op=6 then qF (EY v v.length)
 else nA v ((nA x i) % (v.length:Int)).toNat
def gw (op:Int) (v x:List Int):Prop:=op<1\/6<op\/v.length≠x.length\/v.length<1\/32<v.length
instance (op:Int) (v x:List Int):Decidable (gw op v x):=by unfold gw;infer_instance
def mS (op:Int) (v x:List Int):List Int:=(List.range v.length).map (Kp op v x)
theorem KW (op:Int) (v x:List Int):(mS op v x).length=v.length:=by simp[mS]
def qU (g:Nat->Int->Int) (s:Int):Nat->Int
 | 0=>s
 | k+1=>g k (qU g s k)
def tr (b:Prop) [Decidable b]:Int:=if b then 1 else 0
theorem OT (v:List Int):∀k,k<=32->qU (λ k s=>ibits .or .i32 s (Kz .i32 (if nA v k=0 then 0 else 1) k)) 0 k=qF (balN v k)
 | 0,_=>by simp[qU,balN,JO]
 | k+1,h=>by
  rw[qU,OT v k (by omega)];have h1:=RN v k;have h2:(2:Nat) ^ k<2 ^ 32:=Nat.pow_lt_pow_right (by omega) (by omega);rw[show(2:Nat) ^ 32=4294967296 by decide]at h2;have h3:(if nA v k=0 then 0 else 1)*2 ^ k<4294967296:=by split<;>omega
  have e:(if nA v k=0 then(0:Int) else 1)=((if nA v k=0 then 0 else 1:Nat):Int):=by split<;>rfl
  rw[e,aav (by omega),acf (by omega) h3,balN];congr 2;split
  ·simp
  ·rw[Nat.one_mul];have:=Nat.two_pow_add_eq_or_of_lt h1 1;grind
theorem OU (v:List Int):∀k,qU (λ k s=>ibits .or .i32 s (if nA v k=0 then 0 else 1)) 0 k=if 0<I3 v k then 1 else 0
 | 0=>rfl
 | k+1=>by
  rw[qU,OU v k,I3];by_cases h1:0<I3 v k
  ·by_cases h2:nA v k=0
   ·simp only[h1,h2,if_true,Nat.add_zero];rfl
   ·simp only[h1,h2,if_true,if_false];rw[if_pos (by omega)];rfl
  ·by_cases h2:nA v k=0
   ·simp only[h1,h2,if_true,if_false,Nat.add_zero];rfl
   ·simp only[h1,h2,if_true,if_false];rw[if_pos (by omega)];rfl
theorem OV (v:List Int):∀k,qU (λ k s=>ibits .and .i32 s (if nA v k=0 then 0 else 1)) 1 k=if I3 v k=k then 1 else 0
 | 0=>rfl
 | k+1=>by
  rw[qU,OV v k,I3];have:=RG v k;by_cases h1:I3 v k=k
  ·by_cases h2:nA v k=0
   ·simp only[h1,h2,if_true];rw[if_neg (by omega)];rfl
   ·simp only[h1,h2,if_true,if_false];rfl
  ·by_cases h2:nA v k=0
   ·simp only[h1,h2,if_true,if_false];rw[if_neg (by omega)];rfl
   ·simp only[h1,h2,if_false];rw[if_neg (by omega)];rfl
theorem OR (v:List Int):∀k,qU (λ k s=>IntKind.i32.wrap (s+nA v k)) 0 k=qF (EY v k)
 | 0=>by simp[qU,EY,JO]
 | k+1=>by
  rw[qU,OR v k,EY];exact QU _ _
end Go.Am
