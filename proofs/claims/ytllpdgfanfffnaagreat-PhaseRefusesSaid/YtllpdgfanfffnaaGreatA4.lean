/- The abstract machine: what the operations of the program do, on plain data. No condition. -/
import Derived.Test.YtllpdgfanfffnaaGreatA3
set_option linter.unnecessarySimpa false
set_option linter.defProp false
set_option linter.unusedSectionVars false
set_option linter.unusedSimpArgs false
set_option linter.unusedVariables false
namespace Go.Am
open Go
variable [bw]
variable {P:Program}{KH:D->Heap->Prop}{K:D->Prop}{h:Heap}{L:List (Nat×Slot)}
structure Vs (h:Heap) (L:List (Nat×Slot)):Prop where
  get:∀(i n:Nat) (s:Slot),L[i]?=some (n,s)->h n=s
  ne:∀(i j n m:Nat) (s s':Slot),L[i]?=some (n,s)->L[j]?=some (m,s')->i≠j->n≠m
  lv:∀(i n:Nat) (s:Slot),L[i]?=some (n,s)->s≠.free
theorem Vs.nil:Vs h []:=⟨fun i n s h=>by simp at h,fun i j n m s s' h=>by simp at h,fun i n s h=>by simp at h⟩
theorem Vs.push (V:Vs h L){n:Nat}(hn:h n=.free){s:Slot}(hs:s≠.free):Vs (aj h n s) ((n,s)::L):=by
  have EL:∀(i m:Nat) (t:Slot),L[i]?=some (m,t)->m≠n:=by
    rintro i m t hi rfl
    exact V.lv i m t hi ((V.get i m t hi).symm.trans hn)
  refine⟨fun i m t hi=>?_,fun i j m m' t t' hi hj hij=>?_,fun i m t hi=>?_⟩
  · cases i with
    | zero=>simp at hi;obtain⟨rfl,rfl⟩:=hi;exact ag _ _ _
    | succ i=>simp at hi;rw[ab _ _ (EL i m t hi)];exact V.get i m t hi
  · cases i with
    | zero =>
      cases j with
      | zero=>exact absurd rfl hij
      | succ j=>simp at hi hj;obtain⟨rfl,rfl⟩:=hi;exact(EL j m' t' hj).symm
    | succ i =>
      cases j with
      | zero=>simp at hi hj;obtain⟨rfl,rfl⟩:=hj;exact EL i m t hi
      | succ j=>simp at hi hj;exact V.ne i j m m' t t' hi hj (by omega)
  · cases i with
    | zero=>simp at hi;obtain⟨rfl,rfl⟩:=hi;exact hs
    | succ i=>simp at hi;exact V.lv i m t hi
theorem Vs.cc (V:Vs h L) (i:Nat){n:Nat}{s:Slot}(hi:L[i]?=some (n,s)){s':Slot}(hs:s'≠.free):Vs (aj h n s') (L.set i (n,s')):=by
  have hil:=(List.getElem?_eq_some_iff.1 hi).1
  have key:∀(j m:Nat) (t:Slot),(L.set i (n,s'))[j]?=some (m,t)->(j=i/\m=n/\t=s')\/(j≠i/\L[j]?=some (m,t)):=by
    intro j m t hj
    rw[List.getElem?_set]at hj
    by_cases e:i=j
    · subst e;rw[if_pos rfl]at hj;simp[hil]at hj;exact Or.inl ⟨rfl,hj.1.symm,hj.2.symm⟩
    · rw[if_neg e]at hj;exact Or.inr ⟨fun q=>e q.symm,hj⟩
  refine⟨fun j m t hj=>?_,fun j k m m' t t' hj hk hjk=>?_,fun j m t hj=>?_⟩
  · rcases key j m t hj with⟨-,rfl,rfl⟩|⟨h1,h2⟩
    · exact ag _ _ _
    · rw[ab _ _ (V.ne j i m n t s h2 hi h1)];exact V.get j m t h2
  · rcases key j m t hj with⟨rfl,rfl,rfl⟩|⟨h1,h2⟩<;>rcases key k m' t' hk with⟨rfl,rfl,rfl⟩|⟨g1,g2⟩
    · exact absurd rfl hjk
    · exact(V.ne k j m' m t' s g2 hi g1).symm
    · exact V.ne j k m m' t s h2 hi h1
    · exact V.ne j k m m' t t' h2 g2 hjk
  · rcases key j m t hj with⟨-,-,rfl⟩|⟨-,h2⟩
    · exact hs
    · exact V.lv j m t h2
theorem Vs.aG (V:Vs h L){h':Heap}(hk:∀k,h k≠.free->h' k=h k):Vs h' L :=
  ⟨fun i n s hi=>by have:=V.get i n s hi;rw[hk n (by rw[this];exact V.lv i n s hi)];exact this,V.ne,V.lv⟩
theorem Vs.Bs (V:Vs h L){h':Heap}(hk:∀(k:Nat) (s:Slot),(∃i:Nat,L[i]?=some (k,s))->h' k=h k):Vs h' L :=
  ⟨fun i n s hi=>by rw[hk n s ⟨i,hi⟩];exact V.get i n s hi,V.ne,V.lv⟩
theorem Vs.pop {x:Nat×Slot}(V:Vs h (x::L)):Vs h L :=
  ⟨fun i n s hi=>V.get (i+1) n s (by simpa using hi),fun i j n m s s' hi hj hij=>V.ne (i+1) (j+1) n m s s' (by simpa using hi) (by simpa using hj) (by omega),fun i n s hi=>V.lv (i+1) n s (by simpa using hi)⟩
theorem Vs.box (V:Vs h L){d:D}(ho:aH d) (hK:∀n h',Vs h' ((n,.box d)::L)->KH (.ptr n 0 0) h'):aa P (.box (.c d)) h KH:=by
  rw[D1]
  exact⟨ho,fun n t=>hK n _ (V.push t.free (by simp))⟩
theorem Vs.alloc (V:Vs h L){d:D}(hK:∀n h',Vs h' ((n,.box d)::L)->KH (.ptr n 0 0) h'):aa P (.alloc d) h KH:=by
  rw[gM]
  exact fun n t=>hK n _ (V.push t.free (by simp))
theorem Vs.NZ (V:Vs h L){esz bytes l:Nat}{z:D}(hb:l*bytes<=140737488355328) (hl:l<=9223372036854775807) (hK:∀n h',Vs h' ((n,.arr esz (List.replicate l z))::L)->KH (.ms n 0 l) h'):aa P (.mk esz bytes z (.c (.int .i64 (l:Int))) (.c (.int .i64 (l:Int)))) h KH:=by
  rw[Nt]
  refine⟨by omega,by omega,by have:=Int.ofNat_le.2 hb;simpa using this,by omega,fun n t=>?_⟩
  rw[Int.toNat_natCast]
  exact hK n _ (V.push t.free (by simp))
theorem Vs.DA (V:Vs h L) (i:Nat){n s:Nat}{cs cs':List D}(hi:L[i]?=some (n,.box (.agg cs))) (hl:cs.length=s) (hl':cs'.length=s) (ho:∀x,x∈cs'->x.one=true)
    (hK:∀h',Vs h' (L.set i (n,.box (.agg cs')))->KH .undef h'):aa P (.st (.c (.ptr n 0 0)) (.c (.agg cs')) s) h KH:=by
  rw[jS,V.get i _ _ hi]
  refine⟨hl',ho,rfl,by simp[hl],?_⟩
  have e:setCells (.agg cs) 0 (D.agg cs').cells=.agg cs':=by
    show D.agg (cs.take 0++cs'++cs.drop (0+cs'.length))=_
    rw[List.take_zero,List.nil_append,Nat.zero_add,List.drop_of_length_le (by omega),List.append_nil]
  rw[e]
  exact hK _ (V.cc i hi (by simp))
theorem Vs.Lm (V:Vs h L) (i:Nat){n j:Nat}{cs:List D}{d:D}(hi:L[i]?=some (n,.box (.agg cs))) (hj:j<cs.length) (ho:d.one=true)
    (hK:∀h',Vs h' (L.set i (n,.box (.agg (cs.set j d))))->KH .undef h'):aa P (.st (.c (.ptr n 0 j)) (.c d) 1) h KH:=by
  rw[jS,V.get i _ _ hi]
  have hc:d.cells=[d]:=by cases d<;>first|rfl|cases ho
  refine⟨by rw[hc];rfl,fun x hx=>by rw[hc]at hx;simp at hx;subst hx;exact ho,rfl,by simp;omega,?_⟩
  have e:setCells (.agg cs) j d.cells=.agg (cs.set j d):=by
    rw[hc]
    show D.agg (cs.take j++[d]++cs.drop (j+1))=_
    rw[List.set_eq_take_append_cons_drop,if_pos hj]
    simp
  rw[e]
  exact hK _ (V.cc i hi (by simp))
theorem Vs.MM (V:Vs h L) (i:Nat){n j:Nat}{els:List D}{d:D}(hi:L[i]?=some (n,.arr 1 els)) (hj:j<els.length) (ho:d.one=true) (h1:∀x∈els,x.one=true)
    (hK:∀h',Vs h' (L.set i (n,.arr 1 (els.set j d)))->KH .undef h'):aa P (.st (.c (.ptr n j 0)) (.c d) 1) h KH:=by
  rw[jS,V.get i _ _ hi]
  have hc:∀d:D,d.one=true->d.cells=[d]:=fun d ho=>by cases d<;>first|rfl|cases ho
  refine⟨by rw[hc d ho];rfl,fun x hx=>by rw[hc d ho]at hx;simp at hx;subst hx;exact ho,hj,by omega,fun y hy=>?_⟩
  have hy1:=h1 y (List.mem_of_getElem? hy)
  have e:setCells y 0 d.cells=d:=by rw[hc d ho];cases y<;>first|rfl|cases hy1
  rw[e]
  exact hK _ (V.cc i hi (by simp))
theorem Vs.fa (V:Vs h L) (i:Nat){n o:Nat}{s:Slot}(hi:L[i]?=some (n,s)):aa P (.fadd (.c (.ptr n 0 0)) o) h KH=KH (.ptr n 0 o) h:=by
  have:=V.get i n s hi
  rw[pB,this]
  have hu:s.used=true:=Slot.zW (V.lv i n s hi)
  apply propext
  exact⟨fun hh=>by simpa using hh.2,fun hk=>⟨hu,by simpa using hk⟩⟩
theorem Vs.q8 (V:Vs h L) (i:Nat){n j:Nat}{cs:List D}{e:D}(hi:L[i]?=some (n,.box (.agg cs))) (he:cs[j]?=some e):aa P (.ld (.c (.ptr n 0 j)) 1 false) h KH=KH e h:=Fq (V.get i _ _ hi) he
theorem Vs.uZ (V:Vs h L) (i:Nat){n s:Nat}{cs:List D}(hi:L[i]?=some (n,.box (.agg cs))) (hl:cs.length=s):aa P (.ld (.c (.ptr n 0 0)) s true) h KH=KH (.agg cs) h:=by rw[<- hl,Go.Am.uZ (V.get i _ _ hi)]
theorem Vs.Nz (V:Vs h L) (i:Nat){n s:Nat}{cs:List D}(hi:L[i]?=some (n,.box (.agg cs))) (hl:cs.length=s):ae P (.ld (.c (.ptr n 0 0)) s true) h K=K (.agg cs):=by rw[qH,V.uZ i hi hl]
theorem Vs.ia (V:Vs h L) (i:Nat){n l esz:Nat}{els:List D}{a:Int}(hi:L[i]?=some (n,.arr esz els)) (h0:0<=a) (h1:a<l):aa P (.iadd (.c (.ms n 0 l)) (.c (.int .i64 a)) esz) h KH=KH (.ptr n a.toNat 0) h:=by
  rw[pA]
  apply propext
  constructor
  · exact fun hh=>by simpa using hh.2.2.2
  · exact fun hk=>⟨h0,h1,⟨els,by rw[V.get i _ _ hi];rfl⟩,by simpa using hk⟩
theorem Vs.Mq (V:Vs h L) (i:Nat){n l esz:Nat}{els:List D}{a:Int}(hi:L[i]?=some (n,.arr esz els)) (h0:0<=a) (h1:a<l):ae P (.iadd (.c (.ms n 0 l)) (.c (.int .i64 a)) esz) h K=K (.ptr n a.toNat 0):=by rw[ku,V.ia i hi h0 h1]
theorem Vs.Nh (V:Vs h L) (i:Nat){n j:Nat}{els:List D}{d:D}(hi:L[i]?=some (n,.arr 1 els)) (hd:els[j]?=some d) (h1:d.one=true):aa P (.ld (.c (.ptr n j 0)) 1 false) h KH=KH d h:=by
  rw[u6,V.get i _ _ hi]
  obtain⟨hl,he⟩:=List.getElem?_eq_some_iff.1 hd
  have hc:d.cells=[d]:=by cases d<;>first|rfl|cases h1
  simp[ec,hl,he,hc]
theorem Vs.IG (V:Vs h L) (i:Nat){n j:Nat}{els:List D}{d:D}(hi:L[i]?=some (n,.arr 1 els)) (hd:els[j]?=some d) (h1:d.one=true):ae P (.ld (.c (.ptr n j 0)) 1 false) h K=K d:=by rw[qH,V.Nh i hi hd h1]
theorem mL {xs:List D}{a:Int}{esz:Nat}{d:D}(h0:0<=a) (hd:xs[a.toNat]?=some d) (hc:d.cells.length=esz):aa P (.iadd (.c (.sl xs)) (.c (.int .i64 a)) esz) h KH=KH (.vp d 0) h:=by
  rw[yi]
  have hl:=(List.getElem?_eq_some_iff.1 hd).1
  apply propext
  constructor
  · exact fun hh=>(hh.2.2 d hd).2
  · exact fun hk=>⟨h0,by omega,fun d' hd'=>by rw[hd]at hd';cases hd';exact⟨hc,hk⟩⟩
theorem Nw {d:D}{o:Nat}:aa P (.fadd (.c (.vp d 0)) o) h KH=KH (.vp d o) h:=by rw[Iu,Nat.zero_add]
theorem L5 {cs:List D}{j:Nat}{e:D}(he:cs[j]?=some e):aa P (.ld (.c (.vp (.agg cs) j)) 1 false) h KH=KH e h:=by rw[yh,ec];simp[he]
theorem Bq {d:D}(h1:d.one=true):aa P (.ld (.c (.vp d 0)) 1 false) h KH=KH d h:=by
  have hc:d.cells=[d]:=by cases d<;>first|rfl|cases h1
  rw[yh,ec,hc];rfl
theorem Jz {d:D}(h1:d.one=true):ae P (.ld (.c (.vp d 0)) 1 false) h K=K d:=by rw[qH,Bq h1]
end Go.Am
