/- How blocks and rows of records lie in memory; what the power grid, the quiet channel and the registers compute, each method by its contract. For every such object in memory. -/
import Derived.WalkKit
import Derived.ProofKit
import Derived.Below
import Derived.Lib.Hide
import Derived.Lib.SmallJoins
import Derived.Deep.Draws
import Derived.Deep.QuietTactic
import Derived.Deep.OwnRows
import Derived.Test.YtpekoejdnhaohaaGreatDoorProg
import Derived.BigQuiet
import Derived.Deep.RegionHeld3
import Derived.Laws.AppendOwnNone
import Derived.WalkSpells
import Derived.Deep.RegionWith
namespace Go.Proofs.YtpekoejdnhaohaaGreatDoor
open Go.RowKit Tryz
set_option maxRecDepth 100000
set_option maxHeartbeats 40000000
set_option linter.all false
variable {a a':Act} {p:Addr} {kept:Bool} {d:Int} {r:List Nat} {l news xs:List Value} {G K b base bn bs c cap cm e gd i j k n s size u:Nat} {f g ret:Nat->Bool} {now reset saved:Nat->Int} {m:Nat->Nat} {S V:Nat->Prop} {ρ:Operand->Value} {am ao:Option Addr} {P:Program} {v:Value} {w w':World}
structure AG (p:Prop):Prop where
 out:p
theorem Ae {p:Prop} (h:p):AG p:=⟨h⟩
structure AD (S:Nat->Prop) (w w':World):Prop where
 os:w'.os=w.os
 tape:w'.tape=w.tape
 output:w'.output=w.output
 size:w.heap.size<=w'.heap.size
 block:∀k,k<w.heap.size->¬S k->w'.heap[k]?=w.heap[k]?
namespace AD
variable {S T:Nat->Prop} {a w w':World}
theorem refl (S:Nat->Prop) (w:World):AD S w w:=⟨rfl,rfl,rfl,Nat.le_refl _,fun _ _ _=>rfl⟩
theorem mono (h:AD S w w') (e:∀k,S k->T k):AD T w w':=⟨h.os,h.tape,h.output,h.size,fun k hk hn=>h.block k hk (fun s=>hn (e k s))⟩
theorem trans (h:AD S a w) (k:AD T w w') (e:∀j,j<a.heap.size->T j->S j):AD S a w':=
 ⟨k.os.trans h.os,k.tape.trans h.tape,k.output.trans h.output,Nat.le_trans h.size k.size,fun j hj hn=>(k.block j (Nat.lt_of_lt_of_le hj h.size) (fun t=>hn (e j hj t))).trans (h.block j hj hn)⟩
theorem then_ (h:AD S a w) (k:AD S w w'):AD S a w':=h.trans k fun _ _ s=>s
theorem drew (h:AD S a w):AD S a w.drew:=⟨h.os,h.tape,h.output,h.size,h.block⟩
theorem drewN (h:AD S a w) (n:Nat):AD S a (w.drewN n):=⟨h.os,h.tape,h.output,h.size,h.block⟩
theorem alloc (h:AD S a w) (o:Obj):AD S a (w.alloc o):=
 ⟨h.os,h.tape,h.output,by have:=h.size;simp;omega,fun k hk hn=>(heap_alloc_lt w o k (Nat.lt_of_lt_of_le hk h.size)).trans (h.block k hk hn)⟩
where heap_alloc_lt (w:World) (o:Obj) (k:Nat) (hk:k<w.heap.size):(w.alloc o).heap[k]?=w.heap[k]?:=by
        show(w.heap.push o)[k]?=w.heap[k]?;rw [Array.getElem?_push_lt hk,Array.getElem?_eq_getElem hk]
theorem setCell (h:AD S a w) (hp:p.block<a.heap.size->S p.block) (v:Value):AD S a (w.setCell p v):=
 ⟨h.os,h.tape,h.output,by rw [World.size_setCell];exact h.size,fun k hk hn=>by
  have:k≠p.block:=fun e=>hn (e ▸ hp (e ▸ hk));rw [show(w.setCell p v).heap[k]?=w.heap[k]? by simp [World.setCell,Array.getElem?_modify];intro e;exact absurd e.symm this];exact h.block k hk hn⟩
theorem grown (h:AD S a w) {row:Option Nat} (g:w.grownBy w' row) (hr:∀k,row=some k->k<a.heap.size->S k):AD S a w':=
 ⟨g.os.trans h.os,g.tape.trans h.tape,g.output.trans h.output,Nat.le_trans h.size g.size,fun k hk hn=>(g.block k (Nat.lt_of_lt_of_le hk h.size) (fun e=>hn (hr k e.symm hk))).trans (h.block k hk hn)⟩
theorem below {B:Nat} (h:AD S w w') (hB:∀k,k<B->¬S k) (hs:B<=w.heap.size):Below B w w':=⟨h.os,h.tape,h.output,h.size,fun k hk=>h.block k (by omega) (hB k hk)⟩
theorem cell (h:AD S w w') (hp:p.block<w.heap.size) (hn:¬S p.block):w'.cell? p=w.cell? p:=World.cell?_of_block (h.block _ hp hn)
theorem frozen (h:AD S w w') (hp:p.block<w.heap.size) (hn:¬S p.block):w'.frozen? p=w.frozen? p:=World.frozen?_of_block (h.block _ hp hn)
end AD
abbrev AJ (w w':World):Prop:=AD (fun _=>False) w w'
theorem Aq (h:b≠c):(⟨b,i,none⟩:Addr)≠⟨c,j,none⟩:=fun e=>h (by injection e)
theorem Lc (h:i≠j):(⟨b,i,none⟩:Addr)≠⟨b,j,none⟩:=fun e=>h (by injection e)
def AF (w:World) (b:Nat) (t:TypeId) (xs:List Value):Prop:=w.heap[b]?=some (.cells xs.toArray t (0,0))
namespace AF
variable {w w':World} {b:Nat} {t:TypeId} {xs:List Value}
theorem lt (h:AF w b t xs):b<w.heap.size:=(Array.getElem?_eq_some_iff.1 h).1
theorem cell (h:AF w b t xs) (i:Nat):w.cell? ⟨b,i,none⟩=xs[i]?:=by
 unfold AF at h;simp [World.cell?,h]
theorem frozen (h:AF w b t xs) (i:Nat):w.frozen? ⟨b,i,none⟩=false:=by
 unfold AF at h;simp [World.frozen?,h]
theorem keep (h:AF w b t xs) (k:AD S w w') (hn:¬S b):AF w' b t xs:=(k.block b h.lt hn).trans h
theorem new (w:World) (xs:List Value) (t:TypeId):AF (w.alloc (.cells xs.toArray t)) w.heap.size t xs:=by
 show(w.heap.push _)[w.heap.size]?=_;simp
theorem alloc (h:AF w b t xs) (o:Obj):AF (w.alloc o) b t xs:=h.keep ((AD.refl (fun _=>False) w).alloc o) id
theorem set (h:AF w b t xs) (i:Nat) (v:Value):AF (w.setCell ⟨b,i,none⟩ v) b t (xs.set i v):=by
 unfold AF at h ⊢;simp [World.setCell,Array.getElem?_modify,h]
theorem far (h:AF w b t xs) (hp:p.block≠b) (v:Value):AF (w.setCell p v) b t xs:=by
 unfold AF at h ⊢;simp [World.setCell,Array.getElem?_modify,hp,h]
theorem drew (h:AF w b t xs):AF w.drew b t xs:=h
theorem drewN (h:AF w b t xs) (n:Nat):AF (w.drewN n) b t xs:=h
end AF
def Al (w:World) (b:Nat) (t:TypeId) (K n:Nat) (f:Nat->Nat->Value):Prop:=
 ∃c:Array Value,w.heap[b]?=some (.cells c t (0,0))∧n*K<=c.size∧∀i j,i<n->j<K->c[i*K+j]?=some (f i j)
theorem Zy {i' j':Nat} (h:j<K) (h':j'<K) (e:i*K+j=i'*K+j'):i=i'∧j=j':=by
 have a:(i*K+j) / K=i:=by rw [Nat.mul_comm,Nat.mul_add_div (by omega),Nat.div_eq_of_lt h,Nat.add_zero]
 have b:(i'*K+j') / K=i':=by rw [Nat.mul_comm,Nat.mul_add_div (by omega),Nat.div_eq_of_lt h',Nat.add_zero]
 have:i=i':=by rw [<-a, <-b,e]
 subst this;exact⟨rfl,by omega⟩
theorem Rl (hi:i<n) (hj:j<K):i*K+j<n*K:=by
 have:(i+1)*K<=n*K:=Nat.mul_le_mul_right _ hi;rw [Nat.succ_mul] at this;omega
namespace Al
variable {w w':World} {b:Nat} {t:TypeId} {K n:Nat} {f g:Nat->Nat->Value}
theorem lt (h:Al w b t K n f):b<w.heap.size:=by obtain⟨c,hb,_⟩:=h;exact(Array.getElem?_eq_some_iff.1 hb).1
theorem cell (h:Al w b t K n f) (i j:Nat) (hi:i<n) (hj:j<K):w.cell? ⟨b,i*K+j,none⟩=some (f i j):=by
 obtain⟨c,hb,_,hc⟩:=h;simp [World.cell?,hb,hc i j hi hj]
theorem frozen (h:Al w b t K n f) (o:Nat):w.frozen? ⟨b,o,none⟩=false:=by
 obtain⟨c,hb,_⟩:=h;simp [World.frozen?,hb]
theorem keep (h:Al w b t K n f) (k:AD S w w') (hn:¬S b):Al w' b t K n f:=by
 have hl:=h.lt;obtain⟨c,hb,hs,hc⟩:=h;exact⟨c,(k.block b hl hn).trans hb,hs,hc⟩
theorem congr (h:Al w b t K n f) (e:∀i j,i<n->j<K->f i j=g i j):Al w b t K n g:=by
 obtain⟨c,hb,hs,hc⟩:=h;exact⟨c,hb,hs,fun i j hi hj=>by rw [hc i j hi hj,e i j hi hj]⟩
theorem set (h:Al w b t K n f) (i j:Nat) (hi:i<n) (hj:j<K) (v:Value):Al (w.setCell ⟨b,i*K+j,none⟩ v) b t K n (fun i' j'=>if i'=i∧j'=j then v else f i' j'):=by
 obtain⟨c,hb,hs,hc⟩:=h;refine⟨c.setIfInBounds (i*K+j) v,by simp [World.setCell,Array.getElem?_modify,hb],by simpa using hs,fun i' j' hi' hj'=>?_⟩;rw [Array.getElem?_setIfInBounds];by_cases e:i*K+j=i'*K+j'
 . obtain⟨rfl,rfl⟩:=Zy hj hj' e;have:=Rl hi hj;simp [show i*K+j<c.size by omega]
 . rw [if_neg e];show c[i'*K+j']?=some (if i'=i∧j'=j then v else f i' j');rw [if_neg (fun h=>e (by rw [h.1,h.2]))];exact hc i' j' hi' hj'
theorem far (h:Al w b t K n f) (hp:p.block≠b) (v:Value):Al (w.setCell p v) b t K n f:=by
 obtain⟨c,hb,hs,hc⟩:=h;exact⟨c,by simp [World.setCell,Array.getElem?_modify,hp,hb],hs,hc⟩
theorem alloc (h:Al w b t K n f) (o:Obj):Al (w.alloc o) b t K n f:=h.keep ((AD.refl (fun _=>False) w).alloc o) id
theorem drew (h:Al w b t K n f):Al w.drew b t K n f:=h
theorem drewN (h:Al w b t K n f) (m:Nat):Al (w.drewN m) b t K n f:=h
end Al
theorem AF.z {t:TypeId} (h:AF w b t xs) (i:Nat) (e:xs[i]?=some v:=by rfl):w.cell? ⟨b,i,none⟩=some v:=(h.cell i).trans e
theorem te {d} (ha:a'.eval=(Act.mk l.toArray d).eval) (i:Nat) (e:l[i]?=some v:=by rfl):a'.tmps[i]?.getD undef=v:=by
 have h:=congrFun ha (.tmp i);simp only [Act.eval,Array.getD_eq_getD_getElem?,List.getElem?_toArray,e] at h;simpa using h
theorem tv {d} (h:a'.eval (.tmp i)=(Act.mk l.toArray d).eval (.tmp i)) (e:l[i]?=some v:=by rfl):a'.tmps[i]?.getD undef=v:=by
 simp only [Act.eval,Array.getD_eq_getD_getElem?,List.getElem?_toArray,e] at h;simpa using h
theorem ex {α:Sort _} (x:α):∃y,x=y:=⟨_,rfl⟩
theorem et (h:a.eval (.tmp i)=v):a.tmps[i]?.getD undef=v:=by simpa [Act.eval] using h
theorem tr (ha:a.eval=ρ) (h:ρ (.tmp i)=v):a.tmps[i]?.getD undef=v:=et ((congrFun ha _).trans h)
theorem tf (v:Value) (ha:a.eval=ρ) (i:Nat) (h:ρ (.tmp i)=v):a.tmps[i]?.getD undef=v:=tr ha h
theorem ef (v:Value) (h:a.eval (.tmp i)=v):a.tmps[i]?.getD undef=v:=et h
theorem td (v:Value) (ha:a.eval=ρ) (t:Nat) {x:Value} {p:Nat->Prop} (h:x=v∧∀t,p t->ρ (.tmp t)=x) (e:p t:=by rfl):a.tmps[t]?.getD undef=v:=tr ha ((h.2 t e).trans h.1)
theorem kr_ (S:Nat->Prop) (w:World):AD S w w:=AD.refl S w
theorem kx_:AD S w w:=AD.refl S w
theorem he_ {C:Nat->Prop} (h:∀j ∈ r,C j->V j) (j:Nat) (a:j ∈ r:=by first | decide | simp) (b:C j:=by kernel_rfl):V j:=h j a b
theorem Jh (h:∀j ∈ r,V j) (j:Nat) (a:j ∈ r:=by first | decide | simp):V j:=h j a
theorem nr (w:World):AD (fun _=>False) w w:=AD.refl _ w
theorem AD.t {a b c:World} (h:AD S a b) (k:AD S b c):AD S a c:=h.trans k fun _ _ e=>e
theorem pu {d}:(Act.mk l.toArray d).put (some i) v=Act.mk (l.set i v).toArray d:=by simp only [Act.put,List.setIfInBounds_toArray]
theorem s0 {α:Type _} {a b:α} {l:List α}:(a::l).set 0 b=b::l:=rfl
theorem s1 {α:Type _} {a b:α} {l:List α}:(a::l).set (n+1) b=a::l.set n b:=rfl
theorem m1 {α:Type _} {a b:α} {l:List α}:(a ∈ b::l)=(a=b∨a ∈ l):=propext List.mem_cons
theorem m0 {α:Type _} {a:α}:(a ∈ ([]:List α))=False:=propext (List.mem_nil_iff _)
theorem mf:∀ (fn:Fn) (first cap:Array Value) (w:World),(Instr.makeFunc fn first cap).run P w= .ok (.func fn first cap) w:=fun _ _ _ _=>rfl
instance:Coe Nat (Option Addr):=⟨fun b=>some ⟨b,0,none⟩⟩
instance:CoeFun Nat (fun _=>Nat->Addr):=⟨fun b o=>⟨b,o,none⟩⟩
theorem cv_ (v:Value) {a:Addr} (h:w.cell? a=some v):w.cell? a=some v:=h
theorem th_ (v:Value) {f f':Operand->Value} {C:Operand->Prop} (ha:a.eval=f) (hf:∀x,C x->f x=f' x) (t:Nat) (h:f' (.tmp t)=v:=by rfl) (c:C (.tmp t):=by kernel_rfl):a.tmps[t]?.getD undef=v:=tr ha ((hf _ c).trans h)
theorem mn_ {n:FuncId} {a:Array Value} {W:World} {E:Ending} {Q:Ending->World->Prop} (h:Calls P n a w fun e w'=>e=E∧w'=W) (k:Q E W):Calls P n a w Q:=h.mono (by rintro e w' ⟨rfl,rfl⟩;exact k)
abbrev inf_ (P:Program) (t:TypeId):=(P.info? t).map fun i=>(i.zero,i.size,i.bytes)
abbrev IA:=@World.cell?_setCell_other
abbrev Bk:=@List.getElem?_cons_zero
abbrev Bl:=@List.getElem?_cons_succ
abbrev Ci:=@Array.getElem?_eq_some_iff
abbrev Ay:=@World.size_alloc
abbrev Bo:=@Nat.lt_of_lt_of_le
abbrev De:=@List.getElem?_toArray
abbrev CV:=@World.rowIs_made
abbrev Gc:=@List.eq_nil_of_length_eq_zero
abbrev Ag:=@Nat.zero_add
abbrev al11_:=@Nat.le_refl
abbrev CX:=@List.length_append
abbrev CM:=@Option.bind_some
abbrev CK:=@List.nil_append
abbrev G8:=@List.getElem?_eq_some_iff
abbrev Dz:=@List.mem_singleton
abbrev Hj:=@Int.tmod_eq_emod_of_nonneg
abbrev Dy:=@List.length_cons
abbrev al19_:=@List.mem_cons_of_mem
abbrev EH:=@List.cons_append
abbrev DE:=@Nat.lt_irrefl
abbrev al22_:=@World.block_lt_of_cell?
abbrev Fg:=@World.size_setCell
abbrev Ek:=@List.length_nil
abbrev Ji:=@Nat.lt_succ_iff_lt_or_eq
abbrev ME:=@List.getElem?_append_right
abbrev F0:=@Bool.and_eq_true
abbrev Eu:=@Bool.or_eq_true
abbrev Hi:=@Nat.pow_le_pow_right
theorem FI {a b:Addr} (h:a≠b):(w.setCell a v).cell? b=w.cell? b:=World.cell?_setCell_other _ _ _ _ h
def upd {α:Type} (f:Nat->α) (i:Nat) (x:α):Nat->α:=fun k=>if k=i then x else f k
theorem upd_same {α:Type} (f:Nat->α) (i:Nat) (x:α):upd f i x i=x:=by simp [upd]
theorem UX {α:Type} (f:Nat->α) (x:α) (h:k≠i):upd f i x k=f k:=by simp [upd,h]
structure Dm where
 above:Int
 delay:Int
 ret:Bool
 phase:Int
 left:Int
 kept:Bool
 keep:Bool
def Dm.cells (d:Dm):Nat->Value
 | 0=> .int .i64 d.above
 | 1=> .int .i64 d.delay
 | 2=> .bool d.ret
 | 3=> .int .u8 d.phase
 | 4=> .int .i64 d.left
 | 5=> .bool d.kept
 | 6=> .bool d.keep
 | _=>undef
structure Ah (w:World) (G gd n cap:Nat) (ds:Nat->Dm):Prop where
 g:AF w G 175 [.slice gd n cap]
 d:Al w gd 177 7 n (fun i j=>(ds i).cells j)
 ne:G≠gd
 few:n<=6
namespace Ah
variable {w w':World} {G gd n cap:Nat} {ds:Nat->Dm}
theorem keep (h:Ah w G gd n cap ds) (k:AD S w w') (h1:¬S G) (h2:¬S gd):Ah w' G gd n cap ds:=⟨h.g.keep k h1,h.d.keep k h2,h.ne,h.few⟩
theorem field (h:Ah w G gd n cap ds):w.cell? (G 0)=some (.slice gd n cap):=by have:=h.g.cell 0;simpa using this
theorem put (h:Ah w G gd n cap ds) (i j:Nat) (hi:i<n) (hj:j<7) (v:Value) (d:Dm) (hd:∀k,k<7->d.cells k=if k=j then v else(ds i).cells k):Ah (w.setCell (gd (i*7+j)) v) G gd n cap (upd ds i d):=by
 refine⟨h.g.far (fun e=>h.ne e.symm) v,(h.d.set i j hi hj v).congr fun a b ha hb=>?_,h.ne,h.few⟩;by_cases e:a=i
 . subst e;rw [upd_same,hd b hb];by_cases e2:b=j <;> simp [e2]
 . rw [UX _ _ e];simp [e]
theorem c0 (h:Ah w G gd n cap ds) (i:Nat) (hi:i<n):w.cell? (gd (i*7))=some (.int .i64 (ds i).above):=h.d.cell i 0 hi (by omega)
theorem c1 (h:Ah w G gd n cap ds) (i:Nat) (hi:i<n):w.cell? (gd (i*7+1))=some (.int .i64 (ds i).delay):=h.d.cell i 1 hi (by omega)
theorem c2 (h:Ah w G gd n cap ds) (i:Nat) (hi:i<n):w.cell? (gd (i*7+2))=some (.bool (ds i).ret):=h.d.cell i 2 hi (by omega)
theorem c3 (h:Ah w G gd n cap ds) (i:Nat) (hi:i<n):w.cell? (gd (i*7+3))=some (.int .u8 (ds i).phase):=h.d.cell i 3 hi (by omega)
theorem c4 (h:Ah w G gd n cap ds) (i:Nat) (hi:i<n):w.cell? (gd (i*7+4))=some (.int .i64 (ds i).left):=h.d.cell i 4 hi (by omega)
theorem c5 (h:Ah w G gd n cap ds) (i:Nat) (hi:i<n):w.cell? (gd (i*7+5))=some (.bool (ds i).kept):=h.d.cell i 5 hi (by omega)
theorem c6 (h:Ah w G gd n cap ds) (i:Nat) (hi:i<n):w.cell? (gd (i*7+6))=some (.bool (ds i).keep):=h.d.cell i 6 hi (by omega)
end Ah
theorem Jz {ds:Nat->Dm} (h:Ah w G gd n cap ds) (i:Nat) (hi:i<n):
 Calls prog 220 #[.pointer G, .int .i64 i] w fun e w'=>e= .returned (.pointer (some (gd (i*7))))∧w'=w:=by
 have c0:=h.field;have hf:=h.few;clear h;go_in;go_wp2;go_ret;exact⟨rfl,rfl⟩
theorem IY {ds:Nat->Dm} (h:Ah w G gd n cap ds) (i:Nat) (hi:i<n) {p:Int} (hp:(ds i).phase=p):
 Calls prog 152 #[.pointer G, .int .i64 i] w fun e w'=>e= .returned (.int .u8 p)∧w'=w:=by
 have c3:=h.c3 i hi;rw [hp] at c3;have H:=Ae h;clear h hp;go_in;go_wp2_with fail;refine mn_ (Jz H.out i hi) ?_;go_wp2;go_ret;exact⟨rfl,rfl⟩
def Dm.tick (d:Dm):Dm:=
 if d.phase=114 then(if 0<d.left then { d with left:=d.left - 1 } else { d with phase:=104 })
 else if d.phase=104 then { d with phase:=49 }
 else if d.phase=99 then(if d.keep then { d with phase:=116 } else { d with phase:=48 })
 else d
def Dm.told (d:Dm):Int:=
 if d.phase=114 then(if 0<d.left then 0 else if d.kept then 114 else 110)
 else if d.phase=104 then 111
 else if d.phase=99 then(if d.keep then 115 else 108)
 else 0
def TickD (w:World) (G gd n cap:Nat) (ds:Nat->Dm) (i:Nat) (e:Ending) (w':World):Prop:=
 e= .returned (.int .u8 (ds i).told)∧AD (· =gd) w w'∧Ah w' G gd n cap (upd ds i (ds i).tick)
theorem MD {P:Nat->Prop} (h0:P 0) (h1:P 1) (h2:P 2) (h3:P 3) (h4:P 4) (h5:P 5) (h6:P 6):∀k,k<7->P k
 | 0,_=>h0 | 1,_=>h1 | 2,_=>h2 | 3,_=>h3 | 4,_=>h4 | 5,_=>h5 | 6,_=>h6
theorem retU8 {a b:Int} (h:a=b):Ending.returned (.int .u8 a)= .returned (.int .u8 b):=by rw [h]
theorem keeps_set {o:Nat} (v:Value):AD (· =b) w (w.setCell (b o) v):=AD.setCell (S:=(· =b)) (p:=(b o)) (AD.refl _ w) (fun _=>rfl) v
theorem QY {ds:Nat->Dm} (h:Ah w G gd n cap ds) (i:Nat) (hi:i<n) (l0:0<=(ds i).left) (l1:(ds i).left<=1000):
 Calls prog 226 #[.pointer (some (gd (i*7)))] w (TickD w G gd n cap ds i):=by
 have c3:=h.c3 i hi;have c4:=h.c4 i hi;have c5:=h.c5 i hi;have c6:=h.c6 i hi;have f3:=h.d.frozen (i*7+3);have f4:=h.d.frozen (i*7+4);have H:=Ae h;clear h;obtain⟨d,hd⟩:=ex (ds i);have HD:=Ae hd;rw [hd] at c3 c4 c5 c6 l0 l1;clear hd;obtain⟨above,delay,ret,phase,left,kept,keep⟩:=d;dsimp only at c3 c4 c5 c6 l0 l1;have fin:∀ (p:Nat) (v:Value) (d':Dm) (t:Int),p<7->(∀k,k<7->d'.cells k=if k=p then v else Dm.cells ⟨above,delay,ret,phase,left,kept,keep⟩ k)->d'=Dm.tick ⟨above,delay,ret,phase,left,kept,keep⟩->t=Dm.told ⟨above,delay,ret,phase,left,kept,keep⟩->TickD w G gd n cap ds i (.returned (.int .u8 t)) (w.setCell (gd (i*7+p)) v):=by
  intro p v d' t hp hc h1 h2;exact⟨retU8 (by rw [HD.out];exact h2),keeps_set v,by rw [HD.out, <-h1];exact H.out.put i p hi hp v d' (by rw [HD.out];exact hc)⟩
 have FIN:=Ae fin;clear fin;by_cases h1:phase=114
 . subst h1;by_cases h2:0<left
   . go_in;go_wp2;go_ret;exact FIN.out 4 _ ⟨above,delay,ret,114,left - 1,kept,keep⟩ _ (by omega) (MD rfl rfl rfl rfl rfl rfl rfl) (by simp [Dm.tick,h2]) (by simp [Dm.told,h2])
   . have h3:left<=0:=by omega
     have h4:¬0<left:=h2;cases kept
     . go_in;go_wp2;go_ret;exact FIN.out 3 _ ⟨above,delay,ret,104,left,false,keep⟩ _ (by omega) (MD rfl rfl rfl rfl rfl rfl rfl) (by simp [Dm.tick,h2]) (by simp [Dm.told,h2])
     . go_in;go_wp2;go_ret;exact FIN.out 3 _ ⟨above,delay,ret,104,left,true,keep⟩ _ (by omega) (MD rfl rfl rfl rfl rfl rfl rfl) (by simp [Dm.tick,h2]) (by simp [Dm.told,h2])
 . by_cases h2:phase=104
   . subst h2;go_in;go_wp2;go_ret;exact FIN.out 3 _ ⟨above,delay,ret,49,left,kept,keep⟩ _ (by omega) (MD rfl rfl rfl rfl rfl rfl rfl) (by simp [Dm.tick]) (by simp [Dm.told])
   . by_cases h3:phase=99
     . subst h3;cases keep
       . go_in;go_wp2;go_ret;exact FIN.out 3 _ ⟨above,delay,ret,48,left,kept,false⟩ _ (by omega) (MD rfl rfl rfl rfl rfl rfl rfl) (by simp [Dm.tick]) (by simp [Dm.told])
       . go_in;go_wp2;go_ret;exact FIN.out 3 _ ⟨above,delay,ret,116,left,kept,true⟩ _ (by omega) (MD rfl rfl rfl rfl rfl rfl rfl) (by simp [Dm.tick]) (by simp [Dm.told])
     . have e1:(phase==114)=false:=by rw [beq_eq_false_iff_ne];exact h1
       have e2:(phase==104)=false:=by rw [beq_eq_false_iff_ne];exact h2
       have e3:(phase==99)=false:=by rw [beq_eq_false_iff_ne];exact h3
       have HN:AG ((ds i).told=0∧upd ds i (ds i).tick=ds):=⟨by
        rw [HD.out];refine⟨by simp [Dm.told,h1,h2,h3],?_⟩;funext k;by_cases e:k=i
        . subst e;rw [upd_same,HD.out];simp [Dm.tick,h1,h2,h3]
        . rw [UX _ _ e]⟩
       clear h1 h2 h3;go_in;go_wp2;go_ret;exact⟨retU8 HN.out.1.symm,kx_,by rw [HN.out.2];exact H.out⟩
theorem uo_ {α:Type} {f:Nat->α} {x:α} (h:k≠i):upd f i x k=f k:=UX f x h
structure Ck where
 kind:Int
 m:Nat
 src:Nat->Nat
 rate:Int
 mul:Int
 div:Int
 lock:Int
structure Do where
 above:Int
 delay:Int
 ret:Bool
structure Rg where
 reset:Int
 ret:Bool
structure Dv where
 clock:Nat
 dom:Nat
 line:Nat
 clamp:Int
 nreg:Nat
 reg:Nat->Rg
 nneed:Nat
 need:Nat->Nat
structure AE where
 nc:Nat
 ck:Nat->Ck
 nd:Nat
 dm:Nat->Do
 nr:Nat
 rs:Nat->Int
 nv:Nat
 dv:Nat->Dv
structure Ck.Ok (c:Ck) (i:Nat):Prop where
 kinds:c.kind=111∨c.kind=112∨c.kind=100∨c.kind=103∨c.kind=109
 osc:c.kind=111->c.m=0∧1<=c.rate∧c.rate<=1000000
 one:c.kind=112∨c.kind=100∨c.kind=103->c.m=1
 mux:c.kind=109->1<=c.m∧c.m<=4
 few:c.m<=4
 less:∀j,j<c.m->c.src j<i
 mul:c.kind=112->1<=c.mul∧c.mul<=1000
 div:c.kind=112∨c.kind=100->1<=c.div∧c.div<=1000
 lock:c.kind=112->0<=c.lock∧c.lock<=3
structure Do.Ok (d:Do) (i:Nat):Prop where
 above:d.above= -1∨(0<=d.above∧d.above<i)
 delay:0<=d.delay∧d.delay<=3
structure AE.Ok (s:AE):Prop where
 c1:1<=s.nc
 c2:s.nc<=9
 d1:1<=s.nd
 d2:s.nd<=4
 r1:1<=s.nr
 r2:s.nr<=3
 v1:1<=s.nv
 v2:s.nv<=4
 ck:∀i,i<s.nc->(s.ck i).Ok i
 dm:∀i,i<s.nd->(s.dm i).Ok i
 rs:∀i,i<s.nr->0<=s.rs i∧s.rs i<=3
 clock:∀i,i<s.nv->(s.dv i).clock<s.nc
 dom:∀i,i<s.nv->(s.dv i).dom<s.nd
 line:∀i,i<s.nv->(s.dv i).line<s.nr
 regs:∀i,i<s.nv->(s.dv i).nreg<=4
 needs:∀i,i<s.nv->(s.dv i).nneed<=2
 need:∀i,i<s.nv->∀j,j<(s.dv i).nneed->(s.dv i).need j<i
def Aa (b n cap:Nat):Value:=if n=0 then .slice none 0 0 else .slice b n cap
theorem Dj (h:0<n):Aa b n cap= .slice b n cap:=by rw [Aa,if_neg (by omega)]
structure Bx where
 cb:Nat
 cc:Nat
 db:Nat
 dc:Nat
 rb:Nat
 rc:Nat
 vb:Nat
 vc:Nat
 fb:Nat->Nat
 fc:Nat->Nat
 gb:Nat->Nat
 gc:Nat->Nat
 qb:Nat->Nat
 qc:Nat->Nat
def Cf (c:Ck) (fb fc:Nat):Nat->Value
 | 0=> .int .u8 c.kind
 | 1=>Aa fb c.m fc
 | 2=> .int .u64 c.rate
 | 3=> .int .i64 c.mul
 | 4=> .int .i64 c.div
 | 5=> .int .i64 c.lock
 | _=>undef
def D8 (d:Do):Nat->Value
 | 0=> .int .i64 d.above
 | 1=> .int .i64 d.delay
 | 2=> .bool d.ret
 | _=>undef
def CR (d:Dv) (gb gc qb qc:Nat):Nat->Value
 | 0=> .int .i64 d.clock
 | 1=> .int .i64 d.dom
 | 2=> .int .i64 d.line
 | 3=> .int .u32 d.clamp
 | 4=>Aa gb d.nreg gc
 | 5=>Aa qb d.nneed qc
 | _=>undef
def Ed (r:Rg):Nat->Value
 | 0=> .int .u32 r.reset
 | 1=> .bool r.ret
 | _=>undef
abbrev Fx (v:Bx) (s:AE):List Value:=[.slice v.cb s.nc v.cc, .slice v.db s.nd v.dc, .slice v.rb s.nr v.rc, .slice v.vb s.nv v.vc]
abbrev BI (v:Bx) (s:AE):Array Value:= #[.slice v.cb s.nc v.cc, .slice v.db s.nd v.dc, .slice v.rb s.nr v.rc, .slice v.vb s.nv v.vc]
def Kv (s:AE) (v:Bx):Value:= .agg #[.slice v.cb s.nc v.cc, .slice v.db s.nd v.dc, .slice v.rb s.nr v.rc, .slice v.vb s.nv v.vc]
structure A6 (w:World) (v:Bx) (s:AE):Prop where
 ck:Al w v.cb 62 6 s.nc (fun i=>Cf (s.ck i) (v.fb i) (v.fc i))
 dm:Al w v.db 47 3 s.nd (fun i=>D8 (s.dm i))
 rs:Al w v.rb 64 1 s.nr (fun i _=> .int .i64 (s.rs i))
 dv:Al w v.vb 40 6 s.nv (fun i=>CR (s.dv i) (v.gb i) (v.gc i) (v.qb i) (v.qc i))
 src:∀i,i<s.nc->0<(s.ck i).m->Al w (v.fb i) 3 1 (s.ck i).m (fun j _=> .int .i64 ((s.ck i).src j:Int))
 reg:∀i,i<s.nv->0<(s.dv i).nreg->Al w (v.gb i) 45 2 (s.dv i).nreg (fun j=>Ed ((s.dv i).reg j))
 need:∀i,i<s.nv->0<(s.dv i).nneed->Al w (v.qb i) 3 1 (s.dv i).nneed (fun j _=> .int .i64 ((s.dv i).need j:Int))
def Bx.In (v:Bx) (s:AE) (b:Nat):Prop:=
 b=v.cb∨b=v.db∨b=v.rb∨b=v.vb∨(∃i,i<s.nc∧0<(s.ck i).m∧b=v.fb i)∨(∃i,i<s.nv∧0<(s.dv i).nreg∧b=v.gb i)∨(∃i,i<s.nv∧0<(s.dv i).nneed∧b=v.qb i)
namespace A6
variable {w w':World} {v:Bx} {s:AE}
theorem keep (h:A6 w v s) (k:AD S w w') (n:∀b,v.In s b->¬S b):A6 w' v s:=
 ⟨h.ck.keep k (n _ (.inl rfl)),h.dm.keep k (n _ (.inr (.inl rfl))),h.rs.keep k (n _ (.inr (.inr (.inl rfl)))),h.dv.keep k (n _ (.inr (.inr (.inr (.inl rfl))))),
  fun i hi hm=>(h.src i hi hm).keep k (n _ (.inr (.inr (.inr (.inr (.inl ⟨i,hi,hm,rfl⟩)))))),
  fun i hi hm=>(h.reg i hi hm).keep k (n _ (.inr (.inr (.inr (.inr (.inr (.inl ⟨i,hi,hm,rfl⟩))))))),
  fun i hi hm=>(h.need i hi hm).keep k (n _ (.inr (.inr (.inr (.inr (.inr (.inr ⟨i,hi,hm,rfl⟩)))))))⟩
theorem new (h:A6 w v s) (k:AJ w w'):A6 w' v s:=h.keep k fun _ _=>id
theorem lt (h:A6 w v s):∀b,v.In s b->b<w.heap.size:=by
 rintro b (rfl | rfl | rfl | rfl | ⟨i,hi,hm,rfl⟩ | ⟨i,hi,hm,rfl⟩ | ⟨i,hi,hm,rfl⟩)
 . exact h.ck.lt
 . exact h.dm.lt
 . exact h.rs.lt
 . exact h.dv.lt
 . exact(h.src i hi hm).lt
 . exact(h.reg i hi hm).lt
 . exact(h.need i hi hm).lt
end A6
theorem ik_ {t:TypeId} {z:Value} (h:(P.info? t).map (fun i=>(i.zero,i.size,i.bytes))=some (some z,s,b)):∃i,AG (P.info? t=some i)∧AG (i.zero=some z)∧AG (i.size=s)∧AG (i.bytes=b):=by
 obtain⟨i,a,b,c,d⟩:=info_parts h;exact⟨i,⟨a⟩,⟨b⟩,⟨c⟩,⟨d⟩⟩
theorem Gs {e:TypeId}:w.ownsRow b e s (.slice none 0 0) 0 []:=World.ownsRow_nil w b e s
abbrev WT:=@World.ownsRow_nil
theorem xD:inf_ prog 238=some (some (.agg #[.int .u8 0, .int .i64 0]),2,16):=by kernel_rfl
def C9 (ds:Nat->Dm) (k:Nat):Nat->Dm:=fun j=>if j<k then(ds j).tick else ds j
def I9 (ds:Nat->Dm):Nat->List Value
 | 0=>[]
 | k+1=>I9 ds k++(if(ds k).told=0 then [] else [.int .u8 (ds k).told, .int .i64 k])
theorem PQ (ds:Nat->Dm):C9 ds 0=ds:=by funext j;simp [C9]
theorem U9 (ds:Nat->Dm) (k:Nat):C9 ds k k=ds k:=by simp [C9]
theorem PT (ds:Nat->Dm) (k:Nat):upd (C9 ds k) k (ds k).tick=C9 ds (k+1):=by
 funext j;by_cases e:j=k
 . subst e;rw [upd_same];simp [C9]
 . rw [uo_ e];by_cases h:j<k
   . simp [C9,h,show j<k+1 by omega]
   . simp [C9,h,show¬j<k+1 by omega]
theorem Zi (w:World) (x y:Value) (t:TypeId):∀j s,[x,y][j]?=some s->(w.alloc (.cells #[x,y] t)).cell? (((w.heap.size 0):Addr).add j)=some s:=by
 intro j s hj
 match j,hj with
 | 0,hj=>simp at hj;subst hj;simp [Addr.add]
 | 1,hj=>simp at hj;subst hj;simp [Addr.add]
 | k+2,hj=>simp at hj
theorem BN (h:w.ownsRow base e size v n xs) (k:AD S w w') (hS:∀j,base<=j->¬S j):w'.ownsRow base e size v n xs:=by
 refine⟨h.1,?_⟩;rcases h.2 with h0 | ⟨g,cap,cur,hv,hb,hg,r⟩
 . exact .inl h0
 . exact .inr ⟨g,cap,cur,hv,hb,(k.block g (Ci.1 hg).1 (hS g hb)).trans hg,r⟩
theorem AI (h:w.ownsRow base e size v n xs):∃ao cap,v= .slice ao n cap:=by
 rcases h.2 with⟨hv,h0⟩ | ⟨g,c,cur,hv,_⟩
 . exact⟨none,0,by rw [hv,h0]⟩
 . exact⟨_,_,hv⟩
def Wf (w:World) (G gd n cap:Nat) (ds:Nat->Dm) (e:Ending) (w':World):Prop:=
 ∃ao c m,e= .returned (.slice ao m c)∧AD (· =gd) w w'∧Ah w' G gd n cap (C9 ds n)∧w'.ownsRow w.heap.size 238 2 (.slice ao m c) m (I9 ds n)
theorem Lv {ds:Nat->Dm} (h:Ah w G gd n cap ds) (i:Nat) (hi:i<n) {d:Dm} {t:Int} (hd:ds i=d) (ht:d.told=t) (l0:0<=d.left) (l1:d.left<=1000):
 Calls prog 226 #[.pointer (some (gd (i*7)))] w fun e w'=>e= .returned (.int .u8 t)∧AD (· =gd) w w'∧Ah w' G gd n cap (upd ds i d.tick):=by
 subst hd ht;exact QY h i hi l0 l1
theorem VW {ds:Nat->Dm} (h:Ah w G gd n cap ds) (l:∀i,i<n->0<=(ds i).left∧(ds i).left<=1000):
 Calls prog 159 #[.pointer G] w (Wf w G gd n cap ds):=by
 obtain⟨i0,KI,KZ0,KZ1,KZ2⟩:=ik_ xD;have c0:=h.field;have hf:=h.few;have lg:=h.g.lt;have ld:=h.d.lt;have H:=Ae h;have L:=Ae l;clear h l;go_in;go_wp2_with fail;clear c0;go_loopw [3,13] (fun v i wr=>∃k:Nat,k<=n∧i= .int .i64 k∧∃ao c m,v= .slice ao m c∧m<=k∧AD (· =gd) w wr∧Ah wr G gd n cap (C9 ds k)∧wr.ownsRow w.heap.size 238 2 (.slice ao m c) m (I9 ds k)) (fun _ i _=>n - (intOf i).toNat);case atStart=>exact⟨0,by omega,rfl,none,0,0,rfl,by omega,kx_,by rw [PQ];exact H.out,Gs⟩
 case round=>
  obtain⟨k,hk,rfl,ao,c,m,rfl,hm,kp0,g0,o0⟩:=hrel;have KP:=Ae kp0;have KG:=Ae g0;have KO:=Ae o0;have hsz:=kp0.size;clear kp0 g0 o0;by_cases hlt:k<n
  . have c1:=KG.out.field;have LL:=L.out k hlt;obtain⟨t,ht⟩:=ex ((ds k).told);have HT:=Ae ht;have HL:=Ae LL;clear ht LL;go_wp2_with fail;clear c1;refine(Lv KG.out k hlt (U9 ds k) HT.out HL.out.1 HL.out.2).mono ?_;rintro z' w2 ⟨rfl,kp,gr⟩;have KP2:=Ae (KP.out.then_ kp);have KO2:=Ae (BN KO.out kp (fun j hj e=>by omega));have KG2:AG (Ah w2 G gd n cap (C9 ds (k+1))):=⟨by rw [<-PT];exact gr⟩;have hsz2:=KP2.out.size;clear kp gr;by_cases h0:t=0
    . subst h0;go_wp2;go_roundw;case rel=>exact⟨k+1,by omega,by go_num,ao,c,m,rfl,by omega,KP2.out,KG2.out,by unfold I9;rw [if_pos HT.out,List.append_nil];exact KO2.out⟩
      case measure=>simp [intOf];omega
    . have e0:(t !=0)=true:=by rw [bne_iff_ne];exact h0
      have h0':=Ae h0;clear h0;go_wp2_with (at_builtin;refine wpList_append_own _ rfl (.tmp 25) (.tmp 29) 235 rfl w.heap.size 238 i0 _ 2 16 underlying235 KI.out KZ0.out KZ1.out KZ2.out rfl (by decide) _ _ _ rfl (KO2.out.alloc _) (w2.heap.size 0) 1 1 [.int .u8 t, .int .i64 k] rfl rfl (Zi _ _ _ _) (by simp [Value.oneCell']) (by unfold maxLen;omega) (by omega) (by simp;omega) ?_;intro v' w3 own3 grow3 _;obtain⟨ao',c',hv⟩:=AI own3;subst hv;have KO3:=Ae own3;have KK:=Ae (((AD.refl (fun j=>some j=(Value.slice ao m c).ownBlock) w2).alloc (.cells #[.int .u8 t, .int .i64 k] 238)).grown grow3 (fun j e _=>e.symm));clear own3 grow3);have hrow:∀j,some j=(Value.slice ao m c).ownBlock->w.heap.size<=j:=fun j e=>(KO2.out.lt j e.symm).1;go_roundw;case rel=>
       refine⟨k+1,by omega,by go_num,ao',c',m+1,rfl,by omega,KP2.out.trans KK.out (fun j hj e=>absurd (hrow j e) (by omega)),KG2.out.keep KK.out (fun e=>absurd (hrow _ e) (by omega)) (fun e=>absurd (hrow _ e) (by omega)),?_⟩;unfold I9;rw [if_neg (by rw [HT.out];exact h0'.out),HT.out];exact KO3.out
      case measure=>simp [intOf];omega
  . go_wp2;go_ret;have hkn:k=n:=by omega
    subst hkn;exact⟨ao,c,m,rfl,KP.out,KG.out,KO.out⟩
theorem Ah.drewN {ds:Nat->Dm} (h:Ah w G gd n cap ds) (m:Nat):Ah (w.drewN m) G gd n cap ds:=⟨h.g.drewN m,h.d.drewN m,h.ne,h.few⟩
def Dm.isDown (d:Dm):Bool:=decide (d.phase=48∨d.phase=116)
theorem OF {a b:Bool} (h:a=b):Ending.returned (.bool a)= .returned (.bool b):=by rw [h]
theorem He {ds:Nat->Dm} (h:Ah w G gd n cap ds) (i:Nat) (hi:i<n) {b:Bool} (hb:(ds i).isDown=b):
 Calls prog 292 #[.pointer (some (gd (i*7)))] w fun e w'=>e= .returned (.bool b)∧w'=w:=by
 have c3:=h.c3 i hi;obtain⟨p,hp⟩:=ex ((ds i).phase);have HB:AG (decide (p=48∨p=116)=b):=⟨by rw [<-hb, <-hp];rfl⟩;rw [hp] at c3;clear h hb hp;by_cases h1:p=48
 . subst h1;go_in;go_wp2;go_ret;exact⟨OF (by rw [<-HB.out];rfl),rfl⟩
 . have e1:(p==48)=false:=by rw [beq_eq_false_iff_ne];exact h1
   by_cases h2:p=116
   . subst h2;clear h1 e1;go_in;go_wp2;go_ret;exact⟨OF (by rw [<-HB.out];rfl),rfl⟩
   . have e2:(p==116)=false:=by rw [beq_eq_false_iff_ne];exact h2
     have HB2:AG (b=false):=⟨by rw [<-HB.out];simp [h1,h2]⟩;clear h1 h2;go_in;go_wp2;go_ret;exact⟨OF HB2.out.symm,rfl⟩
def Dm.up (d:Dm):Dm:={ d with phase:=114,left:=d.delay,kept:=decide (d.phase=116) }
def Dm.down (d:Dm) (keep:Bool):Dm:={ d with phase:=99,keep:=keep }
def ZJ (w:World) (G gd n cap:Nat) (ds:Nat->Dm) (e:Ending) (w':World):Prop:=
 e= .returned (.int .i64 0)∧AD (· =gd) w w'∧Ah w' G gd n cap ds
theorem Ha {ds:Nat->Dm} (h:Ah w G gd n cap ds) (i:Nat) (hi:i<n) (j:Nat) (hj:j<7) (v:Value) (d d':Dm) (hd:ds i=d) (hc:∀k,k<7->d'.cells k=if k=j then v else d.cells k):
 Ah (w.setCell (gd (i*7+j)) v) G gd n cap (upd ds i d'):=h.put i j hi hj v d' (by rw [hd];exact hc)
theorem Js {α:Type} (f:Nat->α) (i:Nat) (x y:α):upd (upd f i x) i y=upd f i y:=by
 funext k;by_cases e:k=i <;> simp [upd,e]
theorem xI {ds:Nat->Dm} (h:Ah w G gd n cap ds) (i:Nat) (hi:i<n) (hdn:(ds i).isDown=true) (ab:(ds i).above= -1∨∃a:Nat,(ds i).above=(a:Int)∧a<n∧(ds a).phase=49):
 Calls prog 256 #[.pointer G, .int .i64 i] w (ZJ w G gd n cap (upd ds i (ds i).up)):=by
 obtain⟨d,hd⟩:=ex (ds i);have HD:=Ae hd;have HN:=Ae hdn;have H:=Ae h;have c0:=h.c0 i hi;have c1:=h.c1 i hi;have c3:=h.c3 i hi;have c4:=h.c4 i hi;have c5:=h.c5 i hi;have f3:=h.d.frozen (i*7+3);have f4:=h.d.frozen (i*7+4);have f5:=h.d.frozen (i*7+5);have cg:=h.field;have hf:=h.few;rw [hd] at c0 c1 c3 c4 c5 ab;obtain⟨above,delay,ret,phase,left,kept,keep⟩:=d;dsimp only at c0 c1 c3 c4 c5 ab;have fin:∀q,ZJ w G gd n cap (upd ds i (Dm.up ⟨above,delay,ret,phase,left,kept,keep⟩)) (.returned (.int .i64 0)) ((((w.drewN q).setCell (gd (i*7+5)) (.bool (phase==116))).setCell (gd (i*7+3)) (.int .u8 114)).setCell (gd (i*7+4)) (.int .i64 delay)):=by
  intro q;have g1:=Ha (h.drewN q) i hi 5 (by omega) (.bool (phase==116)) _ ⟨above,delay,ret,phase,left,phase==116,keep⟩ hd (MD rfl rfl rfl rfl rfl rfl rfl);have g2:=Ha g1 i hi 3 (by omega) (.int .u8 114) _ ⟨above,delay,ret,114,left,phase==116,keep⟩ (upd_same _ _ _) (MD rfl rfl rfl rfl rfl rfl rfl);have g3:=Ha g2 i hi 4 (by omega) (.int .i64 delay) _ ⟨above,delay,ret,114,delay,phase==116,keep⟩ (upd_same _ _ _) (MD rfl rfl rfl rfl rfl rfl rfl);rw [Js,Js] at g3;refine⟨rfl,((((AD.refl _ w).drewN q).then_ (keeps_set _)).then_ (keeps_set _)).then_ (keeps_set _),?_⟩;have e:Dm.up ⟨above,delay,ret,phase,left,kept,keep⟩=⟨above,delay,ret,114,delay,phase==116,keep⟩:=by
   unfold Dm.up;dsimp only;congr 1
  rw [e];exact g3
 have FIN:AG (∀q,ZJ w G gd n cap (upd ds i (ds i).up) (.returned (.int .i64 0)) ((((w.drewN q).setCell (gd (i*7+5)) (.bool (phase==116))).setCell (gd (i*7+3)) (.int .u8 114)).setCell (gd (i*7+4)) (.int .i64 delay))):=⟨by rw [hd];exact fin⟩;clear fin hd h hdn;rcases ab with rfl | ⟨a,rfl,ha,hpa⟩
 . go_in;go_wp2_with fail;refine(Jz H.out i hi).mono ?_;rintro z' w' ⟨rfl,rfl⟩;go_wp2_with fail;go_quiet ((go_at_call 292;exact Calls.quiet_of_same (He (H.out.drewN _) i hi HN.out)));go_wp2;go_ret;exact FIN.out nq
 . have ca:=H.out.c3 a ha;rw [hpa] at ca;have na:((a:Int) != -1)=true:=by rw [bne_iff_ne];omega
   go_in;go_wp2_with fail;refine(Jz H.out i hi).mono ?_;rintro z' w' ⟨rfl,rfl⟩;go_wp2_with fail;go_quiet ((go_at_call 292;exact Calls.quiet_of_same (He (H.out.drewN _) i hi HN.out)));go_wp2;go_ret;exact FIN.out nq
theorem VX {ds:Nat->Dm} (h:Ah w G gd n cap ds) (i:Nat) (hi:i<n) (b:Bool) (hp:(ds i).phase=49) (hb:b=true->(ds i).ret=true) (lo:∀j,j<n->(ds j).above=(i:Int)->(ds j).isDown=true):
 Calls prog 260 #[.pointer G, .int .i64 i, .bool b] w (ZJ w G gd n cap (upd ds i ((ds i).down b))):=by
 obtain⟨d,hd⟩:=ex (ds i);have HD:=Ae hd;have H:=Ae h;have LO:=Ae lo;have c2:=h.c2 i hi;have c3:=h.c3 i hi;have c6:=h.c6 i hi;have f3:=h.d.frozen (i*7+3);have f6:=h.d.frozen (i*7+6);have cg:=h.field;have hf:=h.few;rw [hp] at c3;rw [hd] at c2 c6 hb hp;obtain⟨above,delay,ret,phase,left,kept,keep⟩:=d;dsimp only at c2 c6 hb hp;have FIN:AG (ZJ w G gd n cap (upd ds i ((ds i).down b)) (.returned (.int .i64 0)) ((w.setCell (gd (i*7+3)) (.int .u8 99)).setCell (gd (i*7+6)) (.bool b))):=⟨by
  have g1:=Ha h i hi 3 (by omega) (.int .u8 99) _ ⟨above,delay,ret,99,left,kept,keep⟩ hd (MD rfl rfl rfl rfl rfl rfl rfl);have g2:=Ha g1 i hi 6 (by omega) (.bool b) _ ⟨above,delay,ret,99,left,kept,b⟩ (upd_same _ _ _) (MD rfl rfl rfl rfl rfl rfl rfl);rw [Js] at g2;refine⟨rfl,(keeps_set _).then_ (keeps_set _),?_⟩;rw [HD.out];exact g2⟩
 have hbr:(b&&!ret)=false:=by cases b <;> simp_all
 clear hd h lo hp hb;cases b
 all_goals
  first | (have hr:ret=true:=by simpa using hbr);subst hr | skip
  clear hbr;go_in;go_wp2_with fail;refine(Jz H.out i hi).mono ?_;rintro z' w' ⟨rfl,rfl⟩;go_wp2;go_loopw [33] (fun t wr=>∃k:Nat,k<=n∧t= .int .i64 k∧wr=w') (fun t _=>n - (intOf t).toNat);case atStart=>exact⟨0,by omega,rfl,rfl⟩
  case round=>
   obtain⟨k,hk,rfl,rfl⟩:=hrel;by_cases hlt:k<n
   . have ck:=H.out.c0 k hlt;obtain⟨a,ha⟩:=ex ((ds k).above);have HA:=Ae ha;rw [ha] at ck;clear ha;by_cases e:a=(i:Int)
     . subst e;have HD2:=Ae (LO.out k hlt HA.out);go_wp2_with fail;refine(He H.out k hlt HD2.out).mono ?_;rintro z' w' ⟨rfl,rfl⟩;go_wp2;go_roundw;case rel=>exact⟨k+1,by omega,by go_num,by trivial⟩
       case measure=>simp [intOf];omega
     . have e1:(a==(i:Int))=false:=by rw [beq_eq_false_iff_ne];exact e
       clear e;go_wp2;go_roundw;case rel=>exact⟨k+1,by omega,by go_num,by trivial⟩
       case measure=>simp [intOf];omega
   . go_wp2;go_ret;exact FIN.out
structure Ai (w:World):Prop where
 l0:w.cell? ⟨1,0,none⟩=some (.int .u8 114)
 l1:w.cell? ⟨1,1,none⟩=some (.int .u8 97)
 l2:w.cell? ⟨1,2,none⟩=some (.int .u8 115)
 l3:w.cell? ⟨1,3,none⟩=some (.int .u8 100)
 lt:1<w.heap.size
theorem Ai.keep (h:Ai w) (k:AD S w w') (n:¬S 1):Ai w':=
 ⟨(k.cell (p:=⟨1,0,none⟩) h.lt n).trans h.l0,(k.cell (p:=⟨1,1,none⟩) h.lt n).trans h.l1,(k.cell (p:=⟨1,2,none⟩) h.lt n).trans h.l2,(k.cell (p:=⟨1,3,none⟩) h.lt n).trans h.l3,Bo h.lt k.size⟩
def Er (a:Nat):Int:=match a with | 0=>114 | 1=>97 | 2=>115 | _=>100
def Df (w:World) (b:Nat) (a:Nat) (d:Int):Prop:=AF w b 187 [.int .i64 a, .int .i64 d]
theorem Lz {a:Nat} (h:Df w b a d) (L:Ai w) (ha:a<=3):
 Calls prog 257 #[.pointer b] w fun e w'=>e= .returned (.int .u8 (Er a))∧w'=w:=by
 have l0:=L.l0;have l1:=L.l1;have l2:=L.l2;have l3:=L.l3;have c0:w.cell? (b 0)=some (.int .i64 a):=by have:=AF.cell h 0;simpa using this
 clear h L
 match a,ha with
 | 0,_=>go_in;go_wp2_with fail;go_ret;exact⟨rfl,rfl⟩
 | 1,_=>go_in;go_wp2_with fail;go_ret;exact⟨rfl,rfl⟩
 | 2,_=>go_in;go_wp2_with fail;go_ret;exact⟨rfl,rfl⟩
 | 3,_=>go_in;go_wp2_with fail;go_ret;exact⟨rfl,rfl⟩
def ChanP (w:World) (b a:Nat) (d:Int) (e:Ending) (w':World):Prop:=e= .returned (.int .i64 0)∧AD (· =b) w w'∧Df w' b a d
theorem Yn (h:Df w b 0 d):
 Calls prog 293 #[.pointer b] w (ChanP w b 1 d):=by
 have c0:w.cell? (b 0)=some (.int .i64 0):=by have:=AF.cell h 0;simpa using this
 have f0:=AF.frozen h 0;have H:=Ae (AF.set h 0 (.int .i64 1));clear h;go_in;go_wp2;go_ret;exact⟨rfl,keeps_set _,H.out⟩
theorem Sz {a:Nat} (h:Df w b a d) (ha:a=2∨a=3):
 Calls prog 258 #[.pointer b] w (ChanP w b 0 d):=by
 have c0:w.cell? (b 0)=some (.int .i64 a):=by have:=AF.cell h 0;simpa using this
 have f0:=AF.frozen h 0;have H:=Ae (AF.set h 0 (.int .i64 0));clear h;rcases ha with rfl | rfl
 . go_in;go_wp2;go_ret;exact⟨rfl,keeps_set _,H.out⟩
 . go_in;go_wp2;go_ret;exact⟨rfl,keeps_set _,H.out⟩
def En (a:Nat):Nat:=if a=1 then 2 else a
def Ib (a:Nat) (d:Int):Int:=if a=1 then 0 else d
theorem WC {a:Nat} (h:Df w b a d):
 Calls prog 156 #[.pointer b, .bool false, .bool false] w fun e w'=>e= .returned (.tuple #[])∧AD (· =b) w w'∧Df w' b (En a) (Ib a d):=by
 have c0:w.cell? (b 0)=some (.int .i64 a):=by have:=AF.cell h 0;simpa using this
 have c1:w.cell? (b 1)=some (.int .i64 d):=by have:=AF.cell h 1;simpa using this
 have f0:=AF.frozen h 0;have f1:=AF.frozen h 1;by_cases e:a=1
 . subst e;have H:=Ae (AF.set (AF.set h 0 (.int .i64 2)) 1 (.int .i64 0));clear h;go_in;go_wp2;go_end0;exact⟨rfl,(keeps_set _).then_ (keeps_set _),H.out⟩
 . have e1:((a:Int) !=1)=true:=by rw [bne_iff_ne];omega
   have H:AG (Df w b (En a) (Ib a d)):=⟨by rw [En,Ib,if_neg e,if_neg e];exact h⟩;clear h e;go_in;go_wp2_with fail
   first | go_end0 | refine bodyPost_ret (results_none rfl _ _ _) rfl ?_
   exact⟨rfl,kx_,H.out⟩
theorem Ym (w:World):
 Calls prog 28 #[] w fun e w'=>e= .returned (.pointer w.heap.size)∧w'=w.alloc (.cells #[.int .i64 0, .int .i64 0] 187):=by
 go_in;go_wp2;go_ret;exact⟨rfl,rfl⟩
theorem OE {a b:Int} (h:a=b):Ending.returned (.int .u32 a)= .returned (.int .u32 b):=by rw [h]
theorem rowIs_keep {t:TypeId} {f:Nat->Value} (h:w.rowIs b t n f) (k:AD S w w') (hn:¬S b):w'.rowIs b t n f:=h.of_block (k.block b h.lt hn)
def Dw (reset:Nat->Int) (ret:Nat->Bool) (i j:Nat):Value:=if j=0 then .int .u32 (reset i) else .bool (ret i)
structure AV (w:World) (b bn bs:Nat) (am:Option Addr) (n cm:Nat) (reset:Nat->Int) (ret:Nat->Bool) (now saved:Nat->Int) (kept:Bool):Prop where
 f:AF w b 185 [.slice am n cm, .slice bn n n, .slice bs n n, .bool kept]
 made:n≠0->∃bm,am=some ⟨bm,0,none⟩∧Al w bm 45 2 n (Dw reset ret)∧bm≠b∧bm≠bn∧bm≠bs
 now:w.rowIs bn 37 n (fun i=> .int .u32 (now i))
 saved:w.rowIs bs 37 n (fun i=> .int .u32 (saved i))
 ne1:b≠bn
 ne2:b≠bs
 ne3:bn≠bs
 few:n<=8
namespace AV
variable {w w':World} {b bn bs:Nat} {am:Option Addr} {n cm:Nat} {reset:Nat->Int} {ret:Nat->Bool} {now saved now' saved':Nat->Int} {kept:Bool}
theorem c0 (h:AV w b bn bs am n cm reset ret now saved kept):w.cell? (b 0)=some (.slice am n cm):=by have:=h.f.cell 0;simpa using this
theorem c1 (h:AV w b bn bs am n cm reset ret now saved kept):w.cell? (b 1)=some (.slice bn n n):=by have:=h.f.cell 1;simpa using this
theorem c2 (h:AV w b bn bs am n cm reset ret now saved kept):w.cell? (b 2)=some (.slice bs n n):=by have:=h.f.cell 2;simpa using this
theorem c3 (h:AV w b bn bs am n cm reset ret now saved kept):w.cell? (b 3)=some (.bool kept):=by have:=h.f.cell 3;simpa using this
theorem keep (h:AV w b bn bs am n cm reset ret now saved kept) (k:AD S w w') (h1:¬S b) (h2:¬S bn) (h3:¬S bs) (h4:∀bm,am=some ⟨bm,0,none⟩->¬S bm):AV w' b bn bs am n cm reset ret now saved kept:=
 ⟨h.f.keep k h1,fun e=>by obtain⟨bm,e1,r,x⟩:=h.made e;exact⟨bm,e1,r.keep k (h4 bm e1),x⟩,rowIs_keep h.now k h2,rowIs_keep h.saved k h3,h.ne1,h.ne2,h.ne3,h.few⟩
theorem new (h:AV w b bn bs am n cm reset ret now saved kept) (k:AJ w w'):AV w' b bn bs am n cm reset ret now saved kept:=h.keep k id id id fun _ _=>id
theorem setNow (h:AV w b bn bs am n cm reset ret now saved kept) (i:Nat) (v:Int) (e:∀j,j<n->now' j=if j=i then v else now j):AV (w.setCell (bn i) (.int .u32 v)) b bn bs am n cm reset ret now' saved kept:=
 ⟨h.f.far (fun e=>h.ne1 e.symm) _,fun e=>by obtain⟨bm,e1,r,x1,x2,x3⟩:=h.made e;exact⟨bm,e1,r.far (fun e=>x2 e.symm) _,x1,x2,x3⟩,(h.now.set i (.int .u32 v)).congr fun j hj=>by rw [e j hj];by_cases c:j=i <;> simp [c],h.saved.setOther (fun e=>h.ne3 e.symm) _,h.ne1,h.ne2,h.ne3,h.few⟩
theorem setSaved (h:AV w b bn bs am n cm reset ret now saved kept) (i:Nat) (v:Int) (e:∀j,j<n->saved' j=if j=i then v else saved j):AV (w.setCell (bs i) (.int .u32 v)) b bn bs am n cm reset ret now saved' kept:=
 ⟨h.f.far (fun e=>h.ne2 e.symm) _,fun e=>by obtain⟨bm,e1,r,x1,x2,x3⟩:=h.made e;exact⟨bm,e1,r.far (fun e=>x3 e.symm) _,x1,x2,x3⟩,h.now.setOther h.ne3 _,(h.saved.set i (.int .u32 v)).congr fun j hj=>by rw [e j hj];by_cases c:j=i <;> simp [c],h.ne1,h.ne2,h.ne3,h.few⟩
theorem setKept (h:AV w b bn bs am n cm reset ret now saved kept) (v:Bool):AV (w.setCell (b 3) (.bool v)) b bn bs am n cm reset ret now saved v:=
 ⟨h.f.set 3 (.bool v),fun e=>by obtain⟨bm,e1,r,x1,x2,x3⟩:=h.made e;exact⟨bm,e1,r.far (fun e=>x1 e.symm) _,x1,x2,x3⟩,h.now.setOther (fun e=>h.ne1 e.symm) _,h.saved.setOther (fun e=>h.ne2 e.symm) _,h.ne1,h.ne2,h.ne3,h.few⟩
theorem congr (h:AV w b bn bs am n cm reset ret now saved kept) (e1:∀j,j<n->now j=now' j) (e2:∀j,j<n->saved j=saved' j):AV w b bn bs am n cm reset ret now' saved' kept:=
 ⟨h.f,h.made,h.now.congr fun j hj=>by rw [e1 j hj],h.saved.congr fun j hj=>by rw [e2 j hj],h.ne1,h.ne2,h.ne3,h.few⟩
theorem drewN (h:AV w b bn bs am n cm reset ret now saved kept) (m:Nat):AV (w.drewN m) b bn bs am n cm reset ret now saved kept:=h.new ((kx_).drewN m)
end AV
section
variable {w:World} {b bn bs:Nat} {am:Option Addr} {n cm:Nat} {reset:Nat->Int} {ret:Nat->Bool} {now saved:Nat->Int} {kept:Bool}
theorem E8 (h:AV w b bn bs am n cm reset ret now saved kept):
 Calls prog 27 #[.pointer b] w fun e w'=>e= .returned (.int .i64 n)∧w'=w:=by
 have c0:=h.c0;clear h;go_in;go_wp2;go_ret;exact⟨rfl,rfl⟩
theorem Ve (h:AV w b bn bs am n cm reset ret now saved kept) (i:Nat) (hi:i<n) {v:Int} (hv:now i=v):
 Calls prog 223 #[.pointer b, .int .i64 i] w fun e w'=>e= .returned (.tuple #[.int .u32 v, .int .i64 0])∧w'=w:=by
 have c1:=h.c1;have q:=h.now.cell hi;rw [hv] at q;have H:=Ae h;have hf:=h.few;clear h hv;go_in;go_wp2_with fail;refine mn_ (E8 H.out) ?_;go_wp2;go_ret2;exact⟨rfl,rfl⟩
theorem Sj (h:AV w b bn bs am n cm reset ret now saved kept) (i:Nat) (hi:i<n) (v:Int):
 Calls prog 224 #[.pointer b, .int .i64 i, .int .u32 v] w fun e w'=>e= .returned (.int .i64 0)∧AD (· =bn) w w'∧AV w' b bn bs am n cm reset ret (upd now i v) saved kept:=by
 have c1:=h.c1;have q:=h.now.cell hi;have q2:=h.now.frozen i;have H:=Ae h;have hf:=h.few;clear h;go_in;go_wp2_with fail;refine mn_ (E8 H.out) ?_;go_wp2;go_ret;exact⟨rfl,keeps_set _,H.out.setNow i v fun j _=>rfl⟩
end
def FC (reset:Nat->Int) (ret:Nat->Bool) (saved:Nat->Int) (kept:Bool) (i:Nat):Int:=reset i
theorem UU (h:AV w b bn bs am n cm reset ret now saved kept) (k:Nat) (hk:k<n):
 Calls prog 133 #[.int .i64 k, .agg #[.int .u32 (reset k), .bool (ret k)]] w fun e w'=>e= .returned (.int .u32 (FC reset ret saved kept k))∧AJ w w':=by
 obtain⟨r,hr⟩:=ex (reset k);have HR:AG (r=FC reset ret saved kept k):=⟨hr ▸ rfl⟩;rw [hr];clear hr h hk;go_in;go_wp2;go_ret;exact⟨OE HR.out,(AD.refl _ w).alloc _⟩
def WW (w:World) (b bn bs:Nat) (am:Option Addr) (n cm:Nat) (reset:Nat->Int) (ret:Nat->Bool) (now saved:Nat->Int) (kept:Bool) (k:Nat) (e:Ending) (w':World):Prop:=
 e= .returned (.tuple #[])∧AD (· =bn) w w'∧AV w' b bn bs am n cm reset ret (upd now k (FC reset ret saved kept k)) saved kept
theorem Uf (h:AV w b bn bs am n cm reset ret now saved kept) (wb fb:Nat) (hwb:AF w wb 220 [.func (.func 133) #[] #[]]) (hfb:AF w fb 104 [.pointer b]) (nwb:wb≠bn) (nfb:fb≠bn) (k:Nat) (hk:k<n):
 Calls prog 191 #[.int .i64 k, .agg #[.int .u32 (reset k), .bool (ret k)], .pointer wb, .pointer fb] w (WW w b bn bs am n cm reset ret now saved kept k):=by
 have H:=Ae h;have lb:=h.f.lt;have ln:=h.now.lt;have lw:=hwb.lt;have lf:=hfb.lt;have hfw:=h.few;have HWB:=Ae hwb;have HFB:=Ae hfb
 skip
 have cf:=hfb.z 0;have cw:=hwb.z 0;have c1:=h.c1;clear h hwb hfb;go_in;go_wp2_with fail;go_region_held3 (fun w'=>w'.cell? (fb 0)=some (.pointer b)∧w'.cell? (wb 0)=some (.func (.func 133) #[] #[])∧w'.cell? (b 1)=some (.slice bn n n)∧w'.cell? (w.heap.size 0)=some (.int .u32 (reset k))∧w'.cell? (w.heap.size 1)=some (.bool (ret k))) (first | exact S2 | exact S3 _ | go_keep) (first | (go_at_call 133;refine(UU (H.out.new ((AD.refl _ w).alloc _).drew) k hk ).mono ?_;rintro e w2 ⟨rfl,k2⟩;have KN:=Ae (((nr w).alloc (.cells #[.int .u32 (reset k), .bool (ret k)] 45)).drew.then_ k2);have S2:w2.cell? (fb 0)=some (.pointer b)∧w2.cell? (wb 0)=some (.func (.func 133) #[] #[])∧w2.cell? (b 1)=some (.slice bn n n)∧w2.cell? (w.heap.size 0)=some (.int .u32 (reset k))∧w2.cell? (w.heap.size 1)=some (.bool (ret k)):=⟨(HFB.out.keep KN.out id).cell 0,(HWB.out.keep KN.out id).cell 0,(H.out.new KN.out).c1,(k2.cell (p:=(w.heap.size 0)) (by simp) id).trans (by simp),(k2.cell (p:=(w.heap.size 1)) (by simp) id).trans (by simp)⟩;have nb:=H.out.ne1;have S3:=fun(v:Value)=>(⟨(IA w2 (bn k) _ v (Aq (fun e=>nfb e.symm))).trans S2.1,(IA w2 (bn k) _ v (Aq (fun e=>nwb e.symm))).trans S2.2.1,(IA w2 (bn k) _ v (Aq (fun e=>nb e.symm))).trans S2.2.2.1,(IA w2 (bn k) _ v (Aq (by omega))).trans S2.2.2.2.1,(IA w2 (bn k) _ v (Aq (by omega))).trans S2.2.2.2.2⟩:(w2.setCell (bn k) v).cell? (fb 0)=some (.pointer b)∧(w2.setCell (bn k) v).cell? (wb 0)=some (.func (.func 133) #[] #[])∧(w2.setCell (bn k) v).cell? (b 1)=some (.slice bn n n)∧(w2.setCell (bn k) v).cell? (w.heap.size 0)=some (.int .u32 (reset k))∧(w2.setCell (bn k) v).cell? (w.heap.size 1)=some (.bool (ret k)));have q2:=(H.out.new KN.out).now.cell hk;have f2:=(H.out.new KN.out).now.frozen k;clear k2));clear S2 S3;go_end0;exact⟨rfl,(KN.out.mono (fun _ h=>h.elim)).then_ (keeps_set _),(H.out.new KN.out).setNow k _ (fun j _=>rfl)⟩
theorem Vg (h:AV w b bn bs am n cm reset ret now saved kept) (wb fb:Nat) (hwb:AF w wb 220 [.func (.func 133) #[] #[]]) (hfb:AF w fb 104 [.pointer b]) (nwb:wb≠bn) (nfb:fb≠bn):
 Calls prog 190 #[.pointer b, .func (.func 191) #[] #[.pointer wb, .pointer fb]] w fun e w'=>e= .returned (.tuple #[])∧AD (· =bn) w w'∧AV w' b bn bs am n cm reset ret (FC reset ret saved kept) saved kept:=by
 have H:=Ae h;have hf:=h.few;clear h;go_in;go_wp2_with fail;refine(E8 H.out).mono ?_;rintro e w' ⟨rfl,rfl⟩;go_wp2;go_loopw [7] (fun i wr=>∃k:Nat,k<=n∧i= .int .i64 k∧AD (· =bn) w' wr∧AV wr b bn bs am n cm reset ret (fun j=>if j<k then FC reset ret saved kept j else now j) saved kept) (fun i _=>n - (intOf i).toNat);case atStart=>exact⟨0,by omega,rfl,kx_,H.out.congr (fun j _=>by simp) (fun j _=>by simp)⟩
 case round=>
  obtain⟨k,hk,rfl,k0,f0⟩:=hrel;have KK:=Ae k0;have KF:=Ae f0;clear k0 f0;by_cases hlt:k<n
  . obtain⟨bm,e1,rm,_⟩:=KF.out.made (by omega);have c0:=KF.out.c0;have r0:wr.cell? (bm (k*2))=some (.int .u32 (reset k)):=rm.cell k 0 hlt (by omega);have r1:wr.cell? (bm (k*2+1))=some (.bool (ret k)):=rm.cell k 1 hlt (by omega);rw [e1] at c0;clear e1 rm;go_wp2_with fail;clear c0 r0 r1;refine(Uf KF.out wb fb (hwb.keep KK.out nwb) (hfb.keep KK.out nfb) nwb nfb k hlt).mono ?_;rintro e w2 ⟨rfl,k2,f2⟩;have K2:=Ae (KK.out.then_ k2);have F2:=Ae f2;clear k2 f2;go_wp2;go_roundw;case rel=>exact⟨k+1,by omega,by go_num,K2.out,F2.out.congr (fun j hj=>by
     by_cases c:j=k
     . subst c;simp [upd]
     . simp only [upd,if_neg c];by_cases d:j<k
       . rw [if_pos d,if_pos (by omega)]
       . rw [if_neg d,if_neg (by omega)]) (fun j hj=>rfl)⟩
    case measure=>simp [intOf];omega
  . go_wp2;go_end0;exact⟨rfl,KK.out,KF.out.congr (fun j hj=>by rw [if_pos (by omega)]) (fun j hj=>rfl)⟩
theorem Qi (h:AV w b bn bs am n cm reset ret now saved kept):
 Calls prog 132 #[.pointer b, .func (.func 133) #[] #[]] w fun e w'=>e= .returned (.tuple #[])∧AD (· =bn) w w'∧AV w' b bn bs am n cm reset ret (FC reset ret saved kept) saved kept:=by
 have hmf:=mf (P:=prog);have H:=Ae h;have lb:=h.f.lt;have ln:=h.now.lt;clear h;go_in;go_wp2_with fail;have KN:=((nr w).alloc (.cells #[.pointer b] 104)).alloc (.cells #[.func (.func 133) #[] #[]] 220);have B1:=(AF.new w [.pointer b] 104).alloc (.cells #[.func (.func 133) #[] #[]] 220);have B2:=AF.new (w.alloc (.cells #[.pointer b] 104)) [.func (.func 133) #[] #[]] 220;rw [Ay] at B2;refine(Vg (H.out.new KN) (w.heap.size+1) w.heap.size B2 B1 (by omega) (by omega)).mono ?_;rintro e w2 ⟨rfl,k2,f2⟩;go_wp2;go_end0;exact⟨rfl,(KN.mono (fun _ h=>h.elim)).then_ k2,f2⟩
theorem Cz (h:AV w b bn bs am n cm reset ret now saved kept):
 Calls prog 74 #[.pointer b] w fun e w'=>e= .returned (.tuple #[])∧AD (fun k=>k=b∨k=bn) w w'∧AV w' b bn bs am n cm reset ret reset saved false:=by
 have H:=Ae h;clear h;go_in;go_wp2_with fail;refine(Qi H.out).mono ?_;rintro e w2 ⟨rfl,k2,f2⟩;have c3:=f2.c3;have q3:=f2.f.frozen 3;have K2:=Ae k2;have F2:=Ae f2;clear k2 f2;go_wp2;go_end0;exact⟨rfl,AD.setCell (S:=fun k=>k=b∨k=bn) (p:=(b 3)) (K2.out.mono (fun _ h=>Or.inr h)) (fun _=>Or.inl rfl) _,(F2.out.setKept false).congr (fun j _=>rfl) (fun j _=>rfl)⟩
def Bi (reset:Nat->Int) (ret:Nat->Bool) (saved:Nat->Int) (kept:Bool) (i:Nat):Int:=if kept&&ret i then saved i else reset i
theorem PI (h:AV w b bn bs am n cm reset ret now saved kept) (k:Nat) (hk:k<n) (rb:Nat) (hrb:AF w rb 104 [.pointer b]) (nrb:rb≠bn):
 Calls prog 267 #[.int .i64 k, .agg #[.int .u32 (reset k), .bool (ret k)], .pointer rb] w fun e w'=>e= .returned (.int .u32 (Bi reset ret saved kept k))∧AJ w w':=by
 obtain⟨r,hr⟩:=ex (reset k);obtain⟨t,ht⟩:=ex (ret k);obtain⟨sv,hs⟩:∃s,saved k=s:=⟨_,rfl⟩;have HR:AG (Bi reset ret saved kept k=if kept&&t then sv else r):=⟨by unfold Bi;rw [hr,ht,hs]⟩;have q:=h.saved.cell hk;have c2:=h.c2;have c3:=h.c3;have cr:=hrb.z 0;have lb:=h.f.lt;have lr:=hrb.lt;have ls:=h.saved.lt;have hf:=h.few;rw [hs] at q;rw [hr,ht];clear hr ht hs h hrb nrb;cases kept
 . go_in;go_wp2;go_ret;exact⟨OE HR.out.symm,(AD.refl _ w).alloc _⟩
 . cases t
   . go_in;go_wp2;go_ret;exact⟨OE HR.out.symm,(AD.refl _ w).alloc _⟩
   . go_in;go_wp2;go_ret;exact⟨OE HR.out.symm,(AD.refl _ w).alloc _⟩
def Qq (w:World) (b bn bs:Nat) (am:Option Addr) (n cm:Nat) (reset:Nat->Int) (ret:Nat->Bool) (now saved:Nat->Int) (kept:Bool) (k:Nat) (e:Ending) (w':World):Prop:=
 e= .returned (.tuple #[])∧AD (· =bn) w w'∧AV w' b bn bs am n cm reset ret (upd now k (Bi reset ret saved kept k)) saved kept
theorem PZ (h:AV w b bn bs am n cm reset ret now saved kept) (wb fb:Nat) (rb:Nat) (hwb:AF w wb 220 [.func (.func 267) #[] #[.pointer rb]]) (hfb:AF w fb 104 [.pointer b]) (nwb:wb≠bn) (nfb:fb≠bn) (hrb:AF w rb 104 [.pointer b]) (nrb:rb≠bn) (k:Nat) (hk:k<n):
 Calls prog 191 #[.int .i64 k, .agg #[.int .u32 (reset k), .bool (ret k)], .pointer wb, .pointer fb] w (Qq w b bn bs am n cm reset ret now saved kept k):=by
 have H:=Ae h;have lb:=h.f.lt;have ln:=h.now.lt;have lw:=hwb.lt;have lf:=hfb.lt;have hfw:=h.few;have HWB:=Ae hwb;have HFB:=Ae hfb;have HRB:=Ae hrb;have cf:=hfb.z 0;have cw:=hwb.z 0;have c1:=h.c1;clear h hwb hfb hrb;go_in;go_wp2_with fail;go_region_held3 (fun w'=>w'.cell? (fb 0)=some (.pointer b)∧w'.cell? (wb 0)=some (.func (.func 267) #[] #[.pointer rb])∧w'.cell? (b 1)=some (.slice bn n n)∧w'.cell? (w.heap.size 0)=some (.int .u32 (reset k))∧w'.cell? (w.heap.size 1)=some (.bool (ret k))) (first | exact S2 | exact S3 _ | go_keep) (first | (go_at_call 267;refine(PI (H.out.new ((AD.refl _ w).alloc _).drew) k hk rb (HRB.out.keep ((nr w).alloc _).drew id) nrb).mono ?_;rintro e w2 ⟨rfl,k2⟩;have KN:=Ae (((nr w).alloc (.cells #[.int .u32 (reset k), .bool (ret k)] 45)).drew.then_ k2);have S2:w2.cell? (fb 0)=some (.pointer b)∧w2.cell? (wb 0)=some (.func (.func 267) #[] #[.pointer rb])∧w2.cell? (b 1)=some (.slice bn n n)∧w2.cell? (w.heap.size 0)=some (.int .u32 (reset k))∧w2.cell? (w.heap.size 1)=some (.bool (ret k)):=⟨(HFB.out.keep KN.out id).cell 0,(HWB.out.keep KN.out id).cell 0,(H.out.new KN.out).c1,(k2.cell (p:=(w.heap.size 0)) (by simp) id).trans (by simp),(k2.cell (p:=(w.heap.size 1)) (by simp) id).trans (by simp)⟩;have nb:=H.out.ne1;have S3:=fun(v:Value)=>(⟨(IA w2 (bn k) _ v (Aq (fun e=>nfb e.symm))).trans S2.1,(IA w2 (bn k) _ v (Aq (fun e=>nwb e.symm))).trans S2.2.1,(IA w2 (bn k) _ v (Aq (fun e=>nb e.symm))).trans S2.2.2.1,(IA w2 (bn k) _ v (Aq (by omega))).trans S2.2.2.2.1,(IA w2 (bn k) _ v (Aq (by omega))).trans S2.2.2.2.2⟩:(w2.setCell (bn k) v).cell? (fb 0)=some (.pointer b)∧(w2.setCell (bn k) v).cell? (wb 0)=some (.func (.func 267) #[] #[.pointer rb])∧(w2.setCell (bn k) v).cell? (b 1)=some (.slice bn n n)∧(w2.setCell (bn k) v).cell? (w.heap.size 0)=some (.int .u32 (reset k))∧(w2.setCell (bn k) v).cell? (w.heap.size 1)=some (.bool (ret k)));have q2:=(H.out.new KN.out).now.cell hk;have f2:=(H.out.new KN.out).now.frozen k;clear k2));clear S2 S3;go_end0;exact⟨rfl,(KN.out.mono (fun _ h=>h.elim)).then_ (keeps_set _),(H.out.new KN.out).setNow k _ (fun j _=>rfl)⟩
theorem QT (h:AV w b bn bs am n cm reset ret now saved kept) (wb fb:Nat) (rb:Nat) (hwb:AF w wb 220 [.func (.func 267) #[] #[.pointer rb]]) (hfb:AF w fb 104 [.pointer b]) (nwb:wb≠bn) (nfb:fb≠bn) (hrb:AF w rb 104 [.pointer b]) (nrb:rb≠bn):
 Calls prog 190 #[.pointer b, .func (.func 191) #[] #[.pointer wb, .pointer fb]] w fun e w'=>e= .returned (.tuple #[])∧AD (· =bn) w w'∧AV w' b bn bs am n cm reset ret (Bi reset ret saved kept) saved kept:=by
 have H:=Ae h;have hf:=h.few;clear h;go_in;go_wp2_with fail;refine(E8 H.out).mono ?_;rintro e w' ⟨rfl,rfl⟩;go_wp2;go_loopw [7] (fun i wr=>∃k:Nat,k<=n∧i= .int .i64 k∧AD (· =bn) w' wr∧AV wr b bn bs am n cm reset ret (fun j=>if j<k then Bi reset ret saved kept j else now j) saved kept) (fun i _=>n - (intOf i).toNat);case atStart=>exact⟨0,by omega,rfl,kx_,H.out.congr (fun j _=>by simp) (fun j _=>by simp)⟩
 case round=>
  obtain⟨k,hk,rfl,k0,f0⟩:=hrel;have KK:=Ae k0;have KF:=Ae f0;clear k0 f0;by_cases hlt:k<n
  . obtain⟨bm,e1,rm,_⟩:=KF.out.made (by omega);have c0:=KF.out.c0;have r0:wr.cell? (bm (k*2))=some (.int .u32 (reset k)):=rm.cell k 0 hlt (by omega);have r1:wr.cell? (bm (k*2+1))=some (.bool (ret k)):=rm.cell k 1 hlt (by omega);rw [e1] at c0;clear e1 rm;go_wp2_with fail;clear c0 r0 r1;refine(PZ KF.out wb fb rb (hwb.keep KK.out nwb) (hfb.keep KK.out nfb) nwb nfb (hrb.keep KK.out nrb) nrb k hlt).mono ?_;rintro e w2 ⟨rfl,k2,f2⟩;have K2:=Ae (KK.out.then_ k2);have F2:=Ae f2;clear k2 f2;go_wp2;go_roundw;case rel=>exact⟨k+1,by omega,by go_num,K2.out,F2.out.congr (fun j hj=>by
     by_cases c:j=k
     . subst c;simp [upd]
     . simp only [upd,if_neg c];by_cases d:j<k
       . rw [if_pos d,if_pos (by omega)]
       . rw [if_neg d,if_neg (by omega)]) (fun j hj=>rfl)⟩
    case measure=>simp [intOf];omega
  . go_wp2;go_end0;exact⟨rfl,KK.out,KF.out.congr (fun j hj=>by rw [if_pos (by omega)]) (fun j hj=>rfl)⟩
theorem Mj (h:AV w b bn bs am n cm reset ret now saved kept) (rb:Nat) (hrb:AF w rb 104 [.pointer b]) (nrb:rb≠bn):
 Calls prog 132 #[.pointer b, .func (.func 267) #[] #[.pointer rb]] w fun e w'=>e= .returned (.tuple #[])∧AD (· =bn) w w'∧AV w' b bn bs am n cm reset ret (Bi reset ret saved kept) saved kept:=by
 have hmf:=mf (P:=prog);have H:=Ae h;have HR:=Ae hrb;have lb:=h.f.lt;have ln:=h.now.lt;have lr:=hrb.lt;clear h hrb;go_in;go_wp2_with fail;have KN:=((nr w).alloc (.cells #[.pointer b] 104)).alloc (.cells #[.func (.func 267) #[] #[.pointer rb]] 220);have B1:=(AF.new w [.pointer b] 104).alloc (.cells #[.func (.func 267) #[] #[.pointer rb]] 220);have B2:=AF.new (w.alloc (.cells #[.pointer b] 104)) [.func (.func 267) #[] #[.pointer rb]] 220;rw [Ay] at B2;refine(QT (H.out.new KN) (w.heap.size+1) w.heap.size rb B2 B1 (by omega) (by omega) (HR.out.keep KN id) nrb).mono ?_;rintro e w2 ⟨rfl,k2,f2⟩;go_wp2;go_end0;exact⟨rfl,(KN.mono (fun _ h=>h.elim)).then_ k2,f2⟩
theorem Ob (h:AV w b bn bs am n cm reset ret now saved kept):
 Calls prog 228 #[.pointer b] w fun e w'=>e= .returned (.tuple #[])∧AD (· =bn) w w'∧AV w' b bn bs am n cm reset ret (Bi reset ret saved kept) saved kept:=by
 have hmf:=mf (P:=prog);have H:=Ae h;have ln:=h.now.lt;clear h;go_in;go_wp2_with fail;have KN:=(nr w).alloc (.cells #[.pointer b] 104);have B1:=AF.new w [.pointer b] 104;refine(Mj (H.out.new KN) w.heap.size B1 (by omega)).mono ?_;rintro e w2 ⟨rfl,k2,f2⟩;go_wp2;go_end0;exact⟨rfl,(KN.mono (fun _ h=>h.elim)).then_ k2,f2⟩
def J6 (ret:Nat->Bool) (now saved:Nat->Int) (k:Nat):Int:=if ret k then now k else saved k
theorem XC (h:AV w b bn bs am n cm reset ret now saved kept) (sb:Nat) (hsb:AF w sb 104 [.pointer b]) (nsb:sb≠bs) (k:Nat) (hk:k<n):
 Calls prog 266 #[.int .i64 k, .agg #[.int .u32 (reset k), .bool (ret k)], .pointer sb] w fun e w'=>e= .returned (.tuple #[])∧AD (· =bs) w w'∧AV w' b bn bs am n cm reset ret now (upd saved k (J6 ret now saved k)) kept:=by
 have HH:=Ae h;have H:=Ae (h.new ((AD.refl _ w).alloc (.cells #[.int .u32 (reset k), .bool (ret k)] 45)));have K0:=Ae ((AD.refl (· =bs) w).alloc (.cells #[.int .u32 (reset k), .bool (ret k)] 45));have cs:=hsb.z 0;have c1:=h.c1;have c2:=h.c2;have q1:=h.now.cell hk;have q2:=h.saved.cell hk;have f2:=h.saved.frozen k;have lb:=h.f.lt;have ln:=h.now.lt;have ls:=h.saved.lt;have lsb:=hsb.lt;have hf:=h.few;obtain⟨r,hr⟩:=ex (reset k);obtain⟨t,ht⟩:=ex (ret k);obtain⟨x,hx⟩:=ex (now k);have HS:AG (J6 ret now saved k=if t then x else saved k):=⟨by unfold J6;rw [ht,hx]⟩;rw [hx] at q1;rw [hr,ht] at H K0;rw [hr,ht];clear hr ht hx h hsb;cases t
 . go_in;go_wp2;go_end0;refine⟨rfl,K0.out,H.out.congr (fun j _=>rfl) (fun j _=>?_)⟩;by_cases c:j=k
   . subst c;rw [upd_same,HS.out];rfl
   . rw [uo_ c]
 . go_in;go_wp2_with fail;go_region;go_wp2;go_end0;refine⟨rfl,((keeps_set _).alloc _).drew,(HH.out.setSaved k x (fun j _=>?_)).new ((kx_).alloc _).drew⟩;by_cases c:j=k
   . subst c;rw [upd_same,HS.out,if_pos rfl];simp
   . rw [uo_ c,if_neg c]
theorem Y0 (h:AV w b bn bs am n cm reset ret now saved kept) (sb:Nat) (hsb:AF w sb 104 [.pointer b]) (nsb:sb≠bs):
 Calls prog 190 #[.pointer b, .func (.func 266) #[] #[.pointer sb]] w fun e w'=>e= .returned (.tuple #[])∧AD (· =bs) w w'∧AV w' b bn bs am n cm reset ret now (J6 ret now saved) kept:=by
 have H:=Ae h;have hf:=h.few;clear h;go_in;go_wp2_with fail;refine(E8 H.out).mono ?_;rintro e w' ⟨rfl,rfl⟩;go_wp2;go_loopw [7] (fun i wr=>∃k:Nat,k<=n∧i= .int .i64 k∧AD (· =bs) w' wr∧AV wr b bn bs am n cm reset ret now (fun j=>if j<k then J6 ret now saved j else saved j) kept) (fun i _=>n - (intOf i).toNat);case atStart=>exact⟨0,by omega,rfl,kx_,H.out.congr (fun j _=>by simp) (fun j _=>by simp)⟩
 case round=>
  obtain⟨k,hk,rfl,k0,f0⟩:=hrel;have KK:=Ae k0;have KF:=Ae f0;clear k0 f0;by_cases hlt:k<n
  . obtain⟨bm,e1,rm,_⟩:=KF.out.made (by omega);have c0:=KF.out.c0;have r0:wr.cell? (bm (k*2))=some (.int .u32 (reset k)):=rm.cell k 0 hlt (by omega);have r1:wr.cell? (bm (k*2+1))=some (.bool (ret k)):=rm.cell k 1 hlt (by omega);rw [e1] at c0;clear e1 rm;go_wp2_with fail;clear c0 r0 r1;refine(XC KF.out sb (hsb.keep KK.out nsb) nsb k hlt).mono ?_;rintro e w2 ⟨rfl,k2,f2⟩;have K2:=Ae (KK.out.then_ k2);have F2:=Ae f2;clear k2 f2;go_wp2;go_roundw;case rel=>exact⟨k+1,by omega,by go_num,K2.out,F2.out.congr (fun j hj=>rfl) (fun j hj=>by
     by_cases c:j=k
     . subst c;simp [upd,J6]
     . simp only [upd,if_neg c];by_cases d:j<k
       . rw [if_pos d,if_pos (by omega)]
       . rw [if_neg d,if_neg (by omega)])⟩
    case measure=>simp [intOf];omega
  . go_wp2;go_end0;exact⟨rfl,KK.out,KF.out.congr (fun j hj=>rfl) (fun j hj=>by rw [if_pos (by omega)])⟩
theorem Vd (h:AV w b bn bs am n cm reset ret now saved kept):
 Calls prog 227 #[.pointer b] w fun e w'=>e= .returned (.tuple #[])∧AD (fun k=>k=b∨k=bs) w w'∧AV w' b bn bs am n cm reset ret now (J6 ret now saved) true:=by
 have hmf:=mf (P:=prog);have H:=Ae h;have ls:=h.saved.lt;clear h;go_in;go_wp2_with fail;have KN:=(nr w).alloc (.cells #[.pointer b] 104);have B1:=AF.new w [.pointer b] 104;refine(Y0 (H.out.new KN) w.heap.size B1 (by omega)).mono ?_;rintro e w2 ⟨rfl,k2,f2⟩;have cs:=(B1.keep k2 (by omega)).z 0;have c3:=f2.c3;have q3:=f2.f.frozen 3;have K2:=Ae ((KN.mono (T:=fun k=>k=b∨k=bs) (fun _ h=>h.elim)).then_ (k2.mono (fun _ h=>Or.inr h)));have F2:=Ae f2;clear k2 f2 KN B1;go_wp2;go_end0;exact⟨rfl,AD.setCell (S:=fun k=>k=b∨k=bs) (p:=(b 3)) K2.out (fun _=>Or.inl rfl) _,F2.out.setKept true⟩
structure Src (w:World) (ao:Option Addr) (m c K:Nat) (news:List Value):Prop where
 none:ao=none->m=0∧c=0
 len:news.length=m*K
 lt:∀ad,ao=some ad->m≠0->ad.block<w.heap.size
 cells:∀ad,ao=some ad->∀j u,news[j]?=some u->w.cell? (ad.add j)=some u
 one:∀u ∈ news,u.oneCell'=true
theorem Src.keep {m:Nat} (h:Src w ao m c K news) (k:AD S w w') (hn:∀ad,ao=some ad->m≠0->¬S ad.block):Src w' ao m c K news:=by
 refine⟨h.none,h.len,fun ad e n=>Bo (h.lt ad e n) k.size,fun ad e j u hj=>?_,h.one⟩;have hm:m≠0:=by
  intro e0;have hl:=h.len;rw [e0,Nat.zero_mul] at hl;rw [Gc hl] at hj;simp at hj
 have hb:(ad.add j).block=ad.block:=by unfold Addr.add;split <;> rfl
 exact(k.cell (p:=ad.add j) (by rw [hb];exact h.lt ad e hm) (by rw [hb];exact hn ad e hm)).trans (h.cells ad e j u hj)
theorem Src.new {m:Nat} (h:Src w ao m c K news) (k:AJ w w'):Src w' ao m c K news:=h.keep k fun _ _ _=>id
theorem Ug (h:w.ownsRow base e K (.slice ao n cap) n xs) (ho:∀u ∈ xs,u.oneCell'=true):Src w ao n cap K xs:=by
 rcases h.2 with⟨hv,hn⟩ | ⟨g,c,cur,hv,hb,hh,r⟩
 . injection hv with h1 h2 h3;subst h1 h2 h3;exact⟨fun _=>⟨rfl,rfl⟩,h.1,fun ad e=>(by cases e),fun ad e=>(by cases e),ho⟩
 . injection hv with h1 h2 h3;subst h1 h3;refine⟨fun e=>(by cases e),h.1,fun ad e _=>?_,fun ad e j u hj=>?_,ho⟩
   . injection e with e;subst e;exact(h.lt g rfl).2
   . injection e with e;subst e;exact h.cells rfl j u hj
def MJ (E K:Nat) (w:World) (ao':Option Addr) (m:Nat) (xs:List Value) (e:Ending) (w':World):Prop:=
 ∃a c,e= .returned (.slice a m c)∧AJ w w'∧w'.ownsRow w.heap.size E K (.slice a m c) m xs∧(ao'=none->a=none)
theorem VR:inf_ prog 45=some (some (.agg #[.int .u32 0, .bool false]),2,8):=by kernel_rfl
theorem Vx (ao:Option Addr) (m c:Nat) (xs:List Value) (w:World) (src:Src w ao m c 2 xs) (hm:m<=100000):
 Calls prog 73 #[.slice ao m c] w (MJ 45 2 w ao m xs):=by
 obtain⟨i0,KI,KZ0,KZ1,KZ2⟩:=ik_ VR;have KS:=Ae src;clear src
 cases ao with
 | none=>
  obtain⟨rfl,rfl⟩:=KS.out.none rfl;have hx:xs=[]:=Gc (by have:=KS.out.len;omega);subst hx;have heq:=fun(W:World)=>Lib.run_eql_slice_nil (P:=prog) W 38 45 none 0 0 0 0 underlying38;go_in;go_wp2;go_ret
  exact⟨none,0,rfl,kx_,Gs,fun _=>rfl⟩
 | some ad=>
  have KO:=Ae (World.ownsRow_lit (base:=w.heap.size) (e:=45) (size:=2) w #[] 0 (al11_ _) (by omega) rfl);have KN:=Ae ((nr w).alloc (.cells #[] 45));have KC:=Ae (KS.out.new KN.out);have KM:=Ae (show 0+m<=maxLen by unfold maxLen;omega);have KL:=Ae (show w.heap.size<=(w.alloc (.cells #[] 45)).heap.size by simp);have heq:=fun(W:World)=>Lib.run_eql_slice_nil (P:=prog) W 38 45 (some ad) m c 0 0 underlying38;go_in;go_wp2_with (at_builtin;refine wpList_append_own _ rfl (.tmp 5) (.tmp 6) 38 rfl w.heap.size 45 i0 _ 2 8 underlying38 KI.out KZ0.out KZ1.out KZ2.out rfl (by decide) _ _ _ rfl KO.out ad m c xs rfl KC.out.len (KC.out.cells ad rfl) KC.out.one KM.out (by omega) KL.out ?_;intro v' w2 own2 grow2 _;obtain⟨a',c',hv⟩:=AI own2;subst hv;have KO2:=Ae own2;have K2:=Ae (KN.out.grown grow2 (fun j e hj=>absurd (KO.out.lt j e).1 (by omega)));clear own2 grow2);have own2:=KO2.out;simp only [Ag,CK] at own2;go_ret;exact⟨a',c',by simp,K2.out,own2,fun e=>by cases e⟩
theorem YJ:inf_ prog 37=some (some (.int .u32 0),1,4):=by kernel_rfl
theorem Q9 (ao:Option Addr) (m c:Nat) (xs:List Value) (w:World) (src:Src w ao m c 1 xs) (hm:m<=100000):
 Calls prog 19 #[.slice ao m c] w (MJ 37 1 w ao m xs):=by
 obtain⟨i0,KI,KZ0,KZ1,KZ2⟩:=ik_ YJ;have KS:=Ae src;clear src
 cases ao with
 | none=>
  obtain⟨rfl,rfl⟩:=KS.out.none rfl;have hx:xs=[]:=Gc (by have:=KS.out.len;omega);subst hx;have heq:=fun(W:World)=>Lib.run_eql_slice_nil (P:=prog) W 23 37 none 0 0 0 0 underlying23;go_in;go_wp2;go_ret
  exact⟨none,0,rfl,kx_,Gs,fun _=>rfl⟩
 | some ad=>
  have KO:=Ae (World.ownsRow_lit (base:=w.heap.size) (e:=37) (size:=1) w #[] 0 (al11_ _) (by omega) rfl);have KN:=Ae ((nr w).alloc (.cells #[] 37));have KC:=Ae (KS.out.new KN.out);have KM:=Ae (show 0+m<=maxLen by unfold maxLen;omega);have KL:=Ae (show w.heap.size<=(w.alloc (.cells #[] 37)).heap.size by simp);have heq:=fun(W:World)=>Lib.run_eql_slice_nil (P:=prog) W 23 37 (some ad) m c 0 0 underlying23;go_in;go_wp2_with (at_builtin;refine wpList_append_own _ rfl (.tmp 5) (.tmp 6) 23 rfl w.heap.size 37 i0 _ 1 4 underlying23 KI.out KZ0.out KZ1.out KZ2.out rfl (by decide) _ _ _ rfl KO.out ad m c xs rfl KC.out.len (KC.out.cells ad rfl) KC.out.one KM.out (by omega) KL.out ?_;intro v' w2 own2 grow2 _;obtain⟨a',c',hv⟩:=AI own2;subst hv;have KO2:=Ae own2;have K2:=Ae (KN.out.grown grow2 (fun j e hj=>absurd (KO.out.lt j e).1 (by omega)));clear own2 grow2);have own2:=KO2.out;simp only [Ag,CK] at own2;go_ret;exact⟨a',c',by simp,K2.out,own2,fun e=>by cases e⟩
theorem VS:inf_ prog 4=some (some (.bool false),1,1):=by kernel_rfl
theorem FF (ao:Option Addr) (m c:Nat) (xs:List Value) (w:World) (src:Src w ao m c 1 xs) (hm:m<=100000):
 Calls prog 200 #[.slice ao m c] w (MJ 4 1 w ao m xs):=by
 obtain⟨i0,KI,KZ0,KZ1,KZ2⟩:=ik_ VS;have KS:=Ae src;clear src
 cases ao with
 | none=>
  obtain⟨rfl,rfl⟩:=KS.out.none rfl;have hx:xs=[]:=Gc (by have:=KS.out.len;omega);subst hx;have heq:=fun(W:World)=>Lib.run_eql_slice_nil (P:=prog) W 115 4 none 0 0 0 0 underlying115;go_in;go_wp2;go_ret
  exact⟨none,0,rfl,kx_,Gs,fun _=>rfl⟩
 | some ad=>
  have KO:=Ae (World.ownsRow_lit (base:=w.heap.size) (e:=4) (size:=1) w #[] 0 (al11_ _) (by omega) rfl);have KN:=Ae ((nr w).alloc (.cells #[] 4));have KC:=Ae (KS.out.new KN.out);have KM:=Ae (show 0+m<=maxLen by unfold maxLen;omega);have KL:=Ae (show w.heap.size<=(w.alloc (.cells #[] 4)).heap.size by simp);have heq:=fun(W:World)=>Lib.run_eql_slice_nil (P:=prog) W 115 4 (some ad) m c 0 0 underlying115;go_in;go_wp2_with (at_builtin;refine wpList_append_own _ rfl (.tmp 5) (.tmp 6) 115 rfl w.heap.size 4 i0 _ 1 1 underlying115 KI.out KZ0.out KZ1.out KZ2.out rfl (by decide) _ _ _ rfl KO.out ad m c xs rfl KC.out.len (KC.out.cells ad rfl) KC.out.one KM.out (by omega) KL.out ?_;intro v' w2 own2 grow2 _;obtain⟨a',c',hv⟩:=AI own2;subst hv;have KO2:=Ae own2;have K2:=Ae (KN.out.grown grow2 (fun j e hj=>absurd (KO.out.lt j e).1 (by omega)));clear own2 grow2);have own2:=KO2.out;simp only [Ag,CK] at own2;go_ret;exact⟨a',c',by simp,K2.out,own2,fun e=>by cases e⟩
theorem YK:inf_ prog 3=some (some (.int .i64 0),1,8):=by kernel_rfl
theorem Qa (ao:Option Addr) (m c:Nat) (xs:List Value) (w:World) (src:Src w ao m c 1 xs) (hm:m<=100000):
 Calls prog 346 #[.slice ao m c] w (MJ 3 1 w ao m xs):=by
 obtain⟨i0,KI,KZ0,KZ1,KZ2⟩:=ik_ YK;have KS:=Ae src;clear src
 cases ao with
 | none=>
  obtain⟨rfl,rfl⟩:=KS.out.none rfl;have hx:xs=[]:=Gc (by have:=KS.out.len;omega);subst hx;have heq:=fun(W:World)=>Lib.run_eql_slice_nil (P:=prog) W 22 3 none 0 0 0 0 underlying22;go_in;go_wp2;go_ret
  exact⟨none,0,rfl,kx_,Gs,fun _=>rfl⟩
 | some ad=>
  have KO:=Ae (World.ownsRow_lit (base:=w.heap.size) (e:=3) (size:=1) w #[] 0 (al11_ _) (by omega) rfl);have KN:=Ae ((nr w).alloc (.cells #[] 3));have KC:=Ae (KS.out.new KN.out);have KM:=Ae (show 0+m<=maxLen by unfold maxLen;omega);have KL:=Ae (show w.heap.size<=(w.alloc (.cells #[] 3)).heap.size by simp);have heq:=fun(W:World)=>Lib.run_eql_slice_nil (P:=prog) W 22 3 (some ad) m c 0 0 underlying22;go_in;go_wp2_with (at_builtin;refine wpList_append_own _ rfl (.tmp 5) (.tmp 6) 22 rfl w.heap.size 3 i0 _ 1 8 underlying22 KI.out KZ0.out KZ1.out KZ2.out rfl (by decide) _ _ _ rfl KO.out ad m c xs rfl KC.out.len (KC.out.cells ad rfl) KC.out.one KM.out (by omega) KL.out ?_;intro v' w2 own2 grow2 _;obtain⟨a',c',hv⟩:=AI own2;subst hv;have KO2:=Ae own2;have K2:=Ae (KN.out.grown grow2 (fun j e hj=>absurd (KO.out.lt j e).1 (by omega)));clear own2 grow2);have own2:=KO2.out;simp only [Ag,CK] at own2;go_ret;exact⟨a',c',by simp,K2.out,own2,fun e=>by cases e⟩
def Av (n K:Nat) (f:Nat->Nat->Value):List Value:=(List.range n).flatMap fun i=>(List.range K).map (f i)
theorem BM (n K:Nat) (f:Nat->Nat->Value):Av (n+1) K f=Av n K f++(List.range K).map (f n):=by
 unfold Av;rw [List.range_succ,List.flatMap_append];simp
theorem recL_len (n K:Nat) (f:Nat->Nat->Value):(Av n K f).length=n*K:=by
 induction n with
 | zero=>simp [Av]
 | succ n ih=>rw [BM,CX,ih,List.length_map,List.length_range,Nat.succ_mul]
theorem X7 {f:Nat->Nat->Value}:∀ {i j:Nat},i<n->j<K->(Av n K f)[i*K+j]?=some (f i j):=by
 induction n with
 | zero=>intro i j hi _;omega
 | succ n ih=>
  intro i j hi hj;rw [BM];by_cases e:i=n
  . subst e;rw [ME (by rw [recL_len];omega),recL_len];simp [hj]
  . have hlt:=Rl (i:=i) (j:=j) (n:=n) (K:=K) (by omega) hj;rw [List.getElem?_append_left (by rw [recL_len];exact hlt)];exact ih (by omega) hj
theorem A5 {f:Nat->Nat->Value} (h:w.ownsRow base e K (.slice ao n cap) n (Av n K f)) (hn:n≠0):∃g,ao=some ⟨g,0,none⟩∧Al w g e K n f∧base<=g:=by
 rcases h.2 with⟨hv,h0⟩ | ⟨g,c,cur,hv,hb,hg,hle,hm,hs,ht⟩
 . exact absurd h0 hn
 . injection hv with h1 h2 h3;subst h1 h3;refine⟨g,rfl,⟨cur,hg,?_,fun i j hi hj=>?_⟩,hb⟩
   . rw [hs];exact Nat.mul_le_mul_right _ hle
   . have hlt:=Rl hi hj;have:=X7 (f:=f) hi hj;rw [<-ht,List.getElem?_take,if_pos hlt] at this;simpa using this
theorem Hx (hn:w.rowIs bn 37 n (fun _=> .int .u32 0)) (hs:w.rowIs bs 37 n (fun _=> .int .u32 0)) (hm:n≠0->∃bm,am=some ⟨bm,0,none⟩∧Al w bm 45 2 n (Dw reset ret)∧bm≠bn∧bm≠bs) (h1:bn≠bs) (few:n<=8) (hb:b=w.heap.size):
 AV (w.alloc (.cells #[.slice am n cm, .slice bn n n, .slice bs n n, .bool false] 185)) b bn bs am n cm reset ret (fun _=>0) (fun _=>0) false:=by
 subst hb;have a:=hn.lt;have b:=hs.lt;exact⟨AF.new w [.slice am n cm, .slice bn n n, .slice bs n n, .bool false] 185,fun e=>by
  obtain⟨bm,e1,r,x1,x2⟩:=hm e;have:=r.lt;exact⟨bm,e1,r.alloc _,by omega,x1,x2⟩,hn.alloc _,hs.alloc _,by omega,by omega,h1,few⟩
theorem info37:inf_ prog 37=some (some (.int .u32 0),1,4):=by kernel_rfl
def FileNew (w:World) (n:Nat) (reset:Nat->Int) (ret:Nat->Bool) (e:Ending) (w':World):Prop:=
 ∃b bn bs am cm,e= .returned (.tuple #[.pointer (some ⟨b,0,none⟩), .int .i64 0])∧AJ w w'∧AV w' b bn bs am n cm reset ret reset (fun _=>0) false∧w.heap.size<=b∧w.heap.size<=bn∧w.heap.size<=bs∧∀bm,am=some ⟨bm,0,none⟩->n≠0->w.heap.size<=bm
theorem X6 (ao:Option Addr) (n c:Nat) (reset:Nat->Int) (ret:Nat->Bool) (w:World) (src:Src w ao n c 2 (Av n 2 (Dw reset ret))) (few:n<=8):
 Calls prog 26 #[.slice ao n c] w (FileNew w n reset ret):=by
 have hm37:=fun(W:World)=>run_make_row' (P:=prog) 23 37 (.int .u32 0) 4 underlying23 info37 rfl .i64 .i64 n (by omega) (by omega) W;have KS:=Ae src;clear src;go_in;go_wp2_with fail;go_region_with (go_at_call 73;refine(Vx ao n c _ _ (by first | exact KS.out.new ((kx_).drew) | exact KS.out.new (((kx_).alloc _).drew) | exact KS.out.new ((((kx_).alloc _).alloc _).drew)) (by omega)).mono ?_;rintro e w2 ⟨am,cm,rfl,k2,o2,_⟩)
 . have hz:w.heap.size<=w2.heap.size:=by have:=k2.size;simpa using this
   have hmd:n≠0->∃bm,am=some ⟨bm,0,none⟩∧Al ((w2.alloc (.cells (madeCells #[.int .u32 0] n) 37)).alloc (.cells (madeCells #[.int .u32 0] n) 37)) bm 45 2 n (Dw reset ret)∧bm≠w2.heap.size∧bm≠w2.heap.size+1:=fun hn=>by
    obtain⟨bm,e1,r,hb⟩:=A5 o2 hn;have hl:=r.lt;have hb':w.heap.size<=bm:=by simpa using hb
    exact⟨bm,e1,((r).alloc (.cells (madeCells #[.int .u32 0] n) 37)).alloc (.cells (madeCells #[.int .u32 0] n) 37),by omega,by omega⟩
   have hlo:∀bm,am=some ⟨bm,0,none⟩->n≠0->w.heap.size<=bm:=fun bm e hn=>by
    obtain⟨bm',e1,r,hb⟩:=A5 o2 hn;have hb':w.heap.size<=bm':=by simpa using hb
    rw [e] at e1;injection e1 with e1;injection e1 with e1;omega
   have FW:=Ae (Hx (w:=((w2.alloc (.cells (madeCells #[.int .u32 0] n) 37)).alloc (.cells (madeCells #[.int .u32 0] n) 37))) (b:=w2.heap.size+1+1) (cm:=cm) ((CV w2 (.int .u32 0) n 37).alloc (.cells (madeCells #[.int .u32 0] n) 37)) ((by simpa using CV (w2.alloc (.cells (madeCells #[.int .u32 0] n) 37)) (.int .u32 0) n 37:World.rowIs _ (w2.heap.size+1) 37 n _)) hmd (by omega) few (by simp));have HLO:=Ae hlo;have KN:=Ae ((((((nr w)).drew.then_ k2).alloc (.cells (madeCells #[.int .u32 0] n) 37)).alloc (.cells (madeCells #[.int .u32 0] n) 37)).alloc (.cells #[.slice am n cm, .slice w2.heap.size n n, .slice (some ((w2.heap.size+1) 0)) n n, .bool false] 185));clear hmd hlo o2 k2 hm37;go_wp2_with fail;refine(Cz FW.out).mono ?_;rintro e w3 ⟨rfl,k3,f3⟩;go_wp2;go_ret2;exact⟨_,_,_,_,_,rfl,KN.out.trans k3 (fun j hj e=>by rcases e with e | e <;> omega),f3,by omega,by omega,by omega,HLO.out⟩
 . have hz:w.heap.size<=w2.heap.size:=by have:=k2.size;simpa using this
   have hmd:n≠0->∃bm,am=some ⟨bm,0,none⟩∧Al ((w2.alloc (.cells (madeCells #[.int .u32 0] n) 37)).alloc (.cells (madeCells #[.int .u32 0] n) 37)) bm 45 2 n (Dw reset ret)∧bm≠w2.heap.size+1∧bm≠w2.heap.size:=fun hn=>by
    obtain⟨bm,e1,r,hb⟩:=A5 o2 hn;have hl:=r.lt;have hb':w.heap.size<=bm:=by simpa using hb
    exact⟨bm,e1,((r).alloc (.cells (madeCells #[.int .u32 0] n) 37)).alloc (.cells (madeCells #[.int .u32 0] n) 37),by omega,by omega⟩
   have hlo:∀bm,am=some ⟨bm,0,none⟩->n≠0->w.heap.size<=bm:=fun bm e hn=>by
    obtain⟨bm',e1,r,hb⟩:=A5 o2 hn;have hb':w.heap.size<=bm':=by simpa using hb
    rw [e] at e1;injection e1 with e1;injection e1 with e1;omega
   have FW:=Ae (Hx (w:=((w2.alloc (.cells (madeCells #[.int .u32 0] n) 37)).alloc (.cells (madeCells #[.int .u32 0] n) 37))) (b:=w2.heap.size+1+1) (cm:=cm) ((by simpa using CV (w2.alloc (.cells (madeCells #[.int .u32 0] n) 37)) (.int .u32 0) n 37:World.rowIs _ (w2.heap.size+1) 37 n _)) ((CV w2 (.int .u32 0) n 37).alloc (.cells (madeCells #[.int .u32 0] n) 37)) hmd (by omega) few (by simp));have HLO:=Ae hlo;have KN:=Ae ((((((nr w)).drew.then_ k2).alloc (.cells (madeCells #[.int .u32 0] n) 37)).alloc (.cells (madeCells #[.int .u32 0] n) 37)).alloc (.cells #[.slice am n cm, .slice (some ((w2.heap.size+1) 0)) n n, .slice w2.heap.size n n, .bool false] 185));clear hmd hlo o2 k2 hm37;go_wp2_with fail;refine(Cz FW.out).mono ?_;rintro e w3 ⟨rfl,k3,f3⟩;go_wp2;go_ret2;exact⟨_,_,_,_,_,rfl,KN.out.trans k3 (fun j hj e=>by rcases e with e | e <;> omega),f3,by omega,by omega,by omega,HLO.out⟩
 . have hz:w.heap.size+1<=w2.heap.size:=by have:=k2.size;simpa using this
   have hmd:n≠0->∃bm,am=some ⟨bm,0,none⟩∧Al (w2.alloc (.cells (madeCells #[.int .u32 0] n) 37)) bm 45 2 n (Dw reset ret)∧bm≠w.heap.size∧bm≠w2.heap.size:=fun hn=>by
    obtain⟨bm,e1,r,hb⟩:=A5 o2 hn;have hl:=r.lt;have hb':w.heap.size+1<=bm:=by simpa using hb
    exact⟨bm,e1,(r).alloc (.cells (madeCells #[.int .u32 0] n) 37),by omega,by omega⟩
   have hlo:∀bm,am=some ⟨bm,0,none⟩->n≠0->w.heap.size<=bm:=fun bm e hn=>by
    obtain⟨bm',e1,r,hb⟩:=A5 o2 hn;have hb':w.heap.size+1<=bm':=by simpa using hb
    rw [e] at e1;injection e1 with e1;injection e1 with e1;omega
   have FW:=Ae (Hx (w:=(w2.alloc (.cells (madeCells #[.int .u32 0] n) 37))) (b:=w2.heap.size+1) (cm:=cm) ((rowIs_keep (w:=(w.alloc (.cells (madeCells #[.int .u32 0] n) 37)).drew) (CV w (.int .u32 0) n 37) k2 id).alloc (.cells (madeCells #[.int .u32 0] n) 37)) (CV w2 (.int .u32 0) n 37) hmd (by omega) few (by simp));have HLO:=Ae hlo;have KN:=Ae ((((((nr w).alloc (.cells (madeCells #[.int .u32 0] n) 37))).drew.then_ k2).alloc (.cells (madeCells #[.int .u32 0] n) 37)).alloc (.cells #[.slice am n cm, .slice w.heap.size n n, .slice w2.heap.size n n, .bool false] 185));clear hmd hlo o2 k2 hm37;go_wp2_with fail;refine(Cz FW.out).mono ?_;rintro e w3 ⟨rfl,k3,f3⟩;go_wp2;go_ret2;exact⟨_,_,_,_,_,rfl,KN.out.trans k3 (fun j hj e=>by rcases e with e | e <;> omega),f3,by omega,by omega,by omega,HLO.out⟩
 . have hz:w.heap.size+1+1<=w2.heap.size:=by have:=k2.size;simpa using this
   have hmd:n≠0->∃bm,am=some ⟨bm,0,none⟩∧Al w2 bm 45 2 n (Dw reset ret)∧bm≠w.heap.size∧bm≠w.heap.size+1:=fun hn=>by
    obtain⟨bm,e1,r,hb⟩:=A5 o2 hn;have hl:=r.lt;have hb':w.heap.size+1+1<=bm:=by simpa using hb
    exact⟨bm,e1,r,by omega,by omega⟩
   have hlo:∀bm,am=some ⟨bm,0,none⟩->n≠0->w.heap.size<=bm:=fun bm e hn=>by
    obtain⟨bm',e1,r,hb⟩:=A5 o2 hn;have hb':w.heap.size+1+1<=bm':=by simpa using hb
    rw [e] at e1;injection e1 with e1;injection e1 with e1;omega
   have FW:=Ae (Hx (w:=w2) (b:=w2.heap.size) (cm:=cm) (rowIs_keep (w:=((w.alloc (.cells (madeCells #[.int .u32 0] n) 37)).alloc (.cells (madeCells #[.int .u32 0] n) 37)).drew) ((CV w (.int .u32 0) n 37).alloc (.cells (madeCells #[.int .u32 0] n) 37)) k2 id) (rowIs_keep (w:=((w.alloc (.cells (madeCells #[.int .u32 0] n) 37)).alloc (.cells (madeCells #[.int .u32 0] n) 37)).drew) ((by have:=CV (w.alloc (.cells (madeCells #[.int .u32 0] n) 37)) (.int .u32 0) n 37;simp only [Ay] at this;exact this)) k2 id) hmd (by omega) few (by simp));have HLO:=Ae hlo;have KN:=Ae ((((((nr w).alloc (.cells (madeCells #[.int .u32 0] n) 37)).alloc (.cells (madeCells #[.int .u32 0] n) 37))).drew.then_ k2).alloc (.cells #[.slice am n cm, .slice w.heap.size n n, .slice (some ((w.heap.size+1) 0)) n n, .bool false] 185));clear hmd hlo o2 k2 hm37;go_wp2_with fail;refine(Cz FW.out).mono ?_;rintro e w3 ⟨rfl,k3,f3⟩;go_wp2;go_ret2;exact⟨_,_,_,_,_,rfl,KN.out.trans k3 (fun j hj e=>by rcases e with e | e <;> omega),f3,by omega,by omega,by omega,HLO.out⟩
 . have hz:w.heap.size+1<=w2.heap.size:=by have:=k2.size;simpa using this
   have hmd:n≠0->∃bm,am=some ⟨bm,0,none⟩∧Al (w2.alloc (.cells (madeCells #[.int .u32 0] n) 37)) bm 45 2 n (Dw reset ret)∧bm≠w2.heap.size∧bm≠w.heap.size:=fun hn=>by
    obtain⟨bm,e1,r,hb⟩:=A5 o2 hn;have hl:=r.lt;have hb':w.heap.size+1<=bm:=by simpa using hb
    exact⟨bm,e1,(r).alloc (.cells (madeCells #[.int .u32 0] n) 37),by omega,by omega⟩
   have hlo:∀bm,am=some ⟨bm,0,none⟩->n≠0->w.heap.size<=bm:=fun bm e hn=>by
    obtain⟨bm',e1,r,hb⟩:=A5 o2 hn;have hb':w.heap.size+1<=bm':=by simpa using hb
    rw [e] at e1;injection e1 with e1;injection e1 with e1;omega
   have FW:=Ae (Hx (w:=(w2.alloc (.cells (madeCells #[.int .u32 0] n) 37))) (b:=w2.heap.size+1) (cm:=cm) (CV w2 (.int .u32 0) n 37) ((rowIs_keep (w:=(w.alloc (.cells (madeCells #[.int .u32 0] n) 37)).drew) (CV w (.int .u32 0) n 37) k2 id).alloc (.cells (madeCells #[.int .u32 0] n) 37)) hmd (by omega) few (by simp));have HLO:=Ae hlo;have KN:=Ae ((((((nr w).alloc (.cells (madeCells #[.int .u32 0] n) 37))).drew.then_ k2).alloc (.cells (madeCells #[.int .u32 0] n) 37)).alloc (.cells #[.slice am n cm, .slice w2.heap.size n n, .slice w.heap.size n n, .bool false] 185));clear hmd hlo o2 k2 hm37;go_wp2_with fail;refine(Cz FW.out).mono ?_;rintro e w3 ⟨rfl,k3,f3⟩;go_wp2;go_ret2;exact⟨_,_,_,_,_,rfl,KN.out.trans k3 (fun j hj e=>by rcases e with e | e <;> omega),f3,by omega,by omega,by omega,HLO.out⟩
 . have hz:w.heap.size+1+1<=w2.heap.size:=by have:=k2.size;simpa using this
   have hmd:n≠0->∃bm,am=some ⟨bm,0,none⟩∧Al w2 bm 45 2 n (Dw reset ret)∧bm≠w.heap.size+1∧bm≠w.heap.size:=fun hn=>by
    obtain⟨bm,e1,r,hb⟩:=A5 o2 hn;have hl:=r.lt;have hb':w.heap.size+1+1<=bm:=by simpa using hb
    exact⟨bm,e1,r,by omega,by omega⟩
   have hlo:∀bm,am=some ⟨bm,0,none⟩->n≠0->w.heap.size<=bm:=fun bm e hn=>by
    obtain⟨bm',e1,r,hb⟩:=A5 o2 hn;have hb':w.heap.size+1+1<=bm':=by simpa using hb
    rw [e] at e1;injection e1 with e1;injection e1 with e1;omega
   have FW:=Ae (Hx (w:=w2) (b:=w2.heap.size) (cm:=cm) (rowIs_keep (w:=((w.alloc (.cells (madeCells #[.int .u32 0] n) 37)).alloc (.cells (madeCells #[.int .u32 0] n) 37)).drew) ((by have:=CV (w.alloc (.cells (madeCells #[.int .u32 0] n) 37)) (.int .u32 0) n 37;simp only [Ay] at this;exact this)) k2 id) (rowIs_keep (w:=((w.alloc (.cells (madeCells #[.int .u32 0] n) 37)).alloc (.cells (madeCells #[.int .u32 0] n) 37)).drew) ((CV w (.int .u32 0) n 37).alloc (.cells (madeCells #[.int .u32 0] n) 37)) k2 id) hmd (by omega) few (by simp));have HLO:=Ae hlo;have KN:=Ae ((((((nr w).alloc (.cells (madeCells #[.int .u32 0] n) 37)).alloc (.cells (madeCells #[.int .u32 0] n) 37))).drew.then_ k2).alloc (.cells #[.slice am n cm, .slice (some ((w.heap.size+1) 0)) n n, .slice w.heap.size n n, .bool false] 185));clear hmd hlo o2 k2 hm37;go_wp2_with fail;refine(Cz FW.out).mono ?_;rintro e w3 ⟨rfl,k3,f3⟩;go_wp2;go_ret2;exact⟨_,_,_,_,_,rfl,KN.out.trans k3 (fun j hj e=>by rcases e with e | e <;> omega),f3,by omega,by omega,by omega,HLO.out⟩
def cnt (f:Nat->Bool):Nat->Nat
 | 0=>0
 | k+1=>cnt f k+if f k then 1 else 0
theorem Vw (h:∀i,i<k->f i=g i):cnt f k=cnt g k:=by
 induction k with
 | zero=>rfl
 | succ k ih=>rw [cnt,cnt,ih (fun i hi=>h i (by omega)),h k (by omega)]
theorem Sv (f:Nat->Bool) (k:Nat):cnt f k<=k:=by
 induction k with
 | zero=>simp [cnt]
 | succ k ih=>rw [cnt];split <;> omega
theorem Q8 (h:∀i,i<k->f i=false):cnt f k=0:=by
 induction k with
 | zero=>rfl
 | succ k ih=>rw [cnt,ih (fun i hi=>h i (by omega)),h k (by omega)];simp
theorem Yg (f:Nat->Bool) {a:Nat} (h:a<=b):cnt f a<=cnt f b:=by
 induction h with
 | refl=>exact al11_ _
 | step _ ih=>rw [cnt];split <;> omega
theorem Yf (hu:u<n) (hf:f u=false) (hg:g u=true) (h:∀i,i≠u->g i=f i):cnt g n=cnt f n+1:=by
 induction n with
 | zero=>omega
 | succ n ih=>
  rw [cnt,cnt];by_cases e:u=n
  . subst e;rw [Vw (fun i hi=>h i (by omega)),hf,hg];simp
  . rw [ih (by omega),h n (by omega)];omega
theorem Ye (hb:b<=n) (h:∀i,b<=i->i<n->f i=false):cnt f n=cnt f b:=by
 induction n with
 | zero=>rw [show b=0 by omega]
 | succ n ih=>
  by_cases e:b=n+1
  . rw [e]
  . rw [cnt,ih (by omega) (fun i h1 h2=>h i h1 (by omega)),h n (by omega) (by omega)];simp
def Dc (ek:Nat->Nat):Nat->Nat->Bool
 | 0,_=>false
 | j+1,u=>decide (u=ek j)||Dc ek j u
theorem XJ (ek:Nat->Nat) (j u:Nat):Dc ek j u=true ↔ ∃i,i<j∧ek i=u:=by
 induction j with
 | zero=>simp [Dc]
 | succ j ih=>
  rw [Dc,Eu,ih,decide_eq_true_eq];constructor
  . rintro(h | ⟨i,hi,h⟩)
    . exact⟨j,by omega,h.symm⟩
    . exact⟨i,by omega,h⟩
  . rintro⟨i,hi,h⟩;by_cases e:i=j
    . subst e;exact .inl h.symm
    . exact .inr ⟨i,by omega,h⟩
def Hz (m:Nat->Nat) (e:Nat->Nat->Nat) (v u:Nat):Bool:=Dc (e v) (m v) u
def CW (m:Nat->Nat) (e:Nat->Nat->Nat) (v u:Nat):List Nat:=(List.range v).filter fun x=>Hz m e x u
theorem RN (m:Nat->Nat) (e:Nat->Nat->Nat) (v u:Nat):CW m e (v+1) u=CW m e v u++(if Hz m e v u then [v] else []):=by
 unfold CW;rw [List.range_succ,List.filter_append];by_cases h:Hz m e v u=true
 . simp [h]
 . simp [h]
theorem Vl {e:Nat->Nat->Nat} {v:Nat} (h:∀j,j<m v->e v j<v) (u:Nat) (hu:v<=u):Hz m e v u=false:=by
 rw [Bool.eq_false_iff];intro hd;obtain⟨i,hi,he⟩:=(XJ _ _ _).1 hd;have:=h i hi;omega
def left (m:Nat->Nat) (e:Nat->Nat->Nat) (n k v:Nat):Int:=(cnt (Hz m e v) n:Int) - (cnt (Hz m e v) k:Int)
theorem VI {e:Nat->Nat->Nat} (hk:k<n) (h:∀j,j<m k->e k j<k):left m e n k k=0:=by
 unfold left;rw [Ye (b:=k) (by omega) (fun i h1 h2=>Vl h i h1)];omega
theorem SJ (m:Nat->Nat) (e:Nat->Nat->Nat) (n v:Nat):left m e n 0 v=(cnt (Hz m e v) n:Int):=by simp [left,cnt]
theorem VJ (m:Nat->Nat) (e:Nat->Nat->Nat) (n k v:Nat):left m e n (k+1) v=left m e n k v - (if Hz m e v k then 1 else 0):=by
 unfold left;rw [cnt];split <;> simp <;> omega
theorem SP (m:Nat->Nat) (e:Nat->Nat->Nat) (hk:k<=n) (v:Nat):0<=left m e n k v∧left m e n k v<=n:=by
 unfold left;have a:=Yg (Hz m e v) hk;have b:=Sv (Hz m e v) n;omega
def Ca (m:Nat->Nat) (e:Nat->Nat->Nat) (n k j v:Nat):Int:=left m e n k v - (if v ∈ (CW m e n k).take j then 1 else 0)
theorem Pr (m:Nat->Nat) (e:Nat->Nat->Nat) (n k v:Nat):Ca m e n k 0 v=left m e n k v:=by simp [Ca]
theorem SV (m:Nat->Nat) (e:Nat->Nat->Nat) {v:Nat} (hv:v<n):Ca m e n k (CW m e n k).length v=left m e n (k+1) v:=by
 unfold Ca;rw [List.take_length,VJ];have:v ∈ CW m e n k ↔ Hz m e v k=true:=by simp [CW,hv]
 by_cases h:Hz m e v k=true
 . rw [if_pos (this.2 h),if_pos h]
 . rw [if_neg (fun c=>h (this.1 c)),if_neg h]
theorem PM (m:Nat->Nat) (e:Nat->Nat->Nat) (v u:Nat):(CW m e v u).Nodup:=List.nodup_range.filter _
theorem Wp {e:Nat->Nat->Nat} {v x:Nat} (h:x ∈ CW m e v u):x<v:=by simp [CW] at h;exact h.1
theorem Mr (m:Nat->Nat) (e:Nat->Nat->Nat) (v u:Nat):(CW m e v u).length<=v:=by
 have:=List.length_filter_le (fun x=>Hz m e x u) (List.range v);simpa [CW] using this
theorem Ps (m:Nat->Nat) (e:Nat->Nat->Nat) (hj:j<(CW m e n k).length) (v:Nat):
 Ca m e n k (j+1) v=if v=(CW m e n k)[j] then Ca m e n k j v - 1 else Ca m e n k j v:=by
 unfold Ca;have hnd:=PM m e n k;generalize CW m e n k=l at*;have hm:v ∈ l.take (j+1) ↔ v ∈ l.take j∨v=l[j]:=by rw [List.take_succ_eq_append_getElem hj,List.mem_append,Dz]
 by_cases h:v=l[j]
 . have hn:v ∉ l.take j:=by
    rw [h];intro hc;obtain⟨i,hi,he⟩:=List.mem_iff_getElem.1 hc;rw [List.getElem_take] at he;have hi':i<j:=by rw [List.length_take] at hi;omega
    exact List.pairwise_iff_getElem.1 hnd i j (by omega) hj hi' he
   rw [if_pos (hm.2 (.inr h)),if_pos h,if_neg hn];omega
 . rw [if_neg h];by_cases h2:v ∈ l.take j
   . rw [if_pos (hm.2 (.inl h2)),if_pos h2]
   . rw [if_neg (fun c=>(hm.1 c).elim h2 h),if_neg h2]
theorem OL (m:Nat->Nat) (e:Nat->Nat->Nat) (hk:k<=n) (j v:Nat): -1<=Ca m e n k j v∧Ca m e n k j v<=n:=by
 have:=SP m e hk v;unfold Ca;split <;> omega
end Go.Proofs.YtpekoejdnhaohaaGreatDoor
