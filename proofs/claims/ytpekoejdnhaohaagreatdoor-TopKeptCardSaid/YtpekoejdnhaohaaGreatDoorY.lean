/- What the script's runner, its state, the audit's effect and order, and the check behind it compute at the fixed script of awake. -/
import Derived.Test.YtpekoejdnhaohaaGreatDoorX
namespace Go.Proofs.YtpekoejdnhaohaaGreatDoor
open Go.RowKit Tryz
set_option maxRecDepth 100000
set_option maxHeartbeats 40000000
set_option linter.all false
variable {s:AE} {a:Act} {listed:Array Bool} {v:Bx} {F:Fence} {xs:List Value} {NB R RB b fuel gb i n t u:Nat} {lab:Nat->Lb} {f:Nat->Value} {o:Oper} {w:World}
def Oy (w:World) (b t:Nat):Prop:=∃c,w.heap[b]?=some (.cells c t (0,0))
theorem Oy.ne {a:Nat} (h:Oy w a t) (k:Oy w b u) (n:t≠u):a≠b:=fun e=>by
 subst e;obtain⟨c,h⟩:=h;obtain⟨d,k⟩:=k;rw [h] at k;injection k with k;injection k with _ k;exact n k
theorem AF.ty (h:AF w b t xs):Oy w b t:=⟨_,h⟩
theorem Al.ty {K:Nat} {f:Nat->Nat->Value} (h:Al w b u K n f):Oy w b u:=by obtain⟨c,h,_⟩:=h;exact⟨c,h⟩
theorem Row.ty (h:Row w b t n f):Oy w b t:=by obtain⟨c,h,_⟩:=h;exact⟨c,h⟩
theorem XU (h:w.rowIs b t n f):Oy w b t:=(Row.of_is h).ty
abbrev Far (t:Nat):Prop:=t≠62∧t≠47∧t≠64∧t≠40∧t≠3∧t≠45∧t≠4∧t≠22
theorem F7 (h:A6 w v s) (b:Oy w R t) (f:Far t):∀j,v.In s j->j≠R:=fun j hj=>by
 rcases hj with e | e | e | e | ⟨i,hi,hm,e⟩ | ⟨i,hi,hm,e⟩ | ⟨i,hi,hm,e⟩
 . rw [e];exact h.ck.ty.ne b f.1.symm
 . rw [e];exact h.dm.ty.ne b f.2.1.symm
 . rw [e];exact h.rs.ty.ne b f.2.2.1.symm
 . rw [e];exact h.dv.ty.ne b f.2.2.2.1.symm
 . rw [e];exact(h.src i hi hm).ty.ne b f.2.2.2.2.1.symm
 . rw [e];exact(h.reg i hi hm).ty.ne b f.2.2.2.2.2.1.symm
 . rw [e];exact(h.need i hi hm).ty.ne b f.2.2.2.2.1.symm
section
variable {w w':World} {lab lab':Nat->Lb} {s:AE} {B:Wb} {X:St}
theorem AH.relab0 {b:Hb} {x:Hw} (h:AH w lab s b x) (e:∀j,lab j≠ .obj 0->lab' j=lab j):AH w lab' s b x:=by
 have k:∀ {j l},lab j=l->l≠ .obj 0->lab' j=l:=fun {j l} h n=>(e j (by rw [h];exact n)).trans h;have lh:=h.lh;have lt:=h.lt;have lg:=h.lg;have ll:=h.ll;have lb:=h.lb;exact⟨h.h,h.d,h.tree,h.grid,h.lines,by
  obtain⟨qs,hb,hq⟩:=h.bus;exact⟨qs,hb,fun i hi=>⟨(hq i hi).1,fun j e=>⟨k ((hq i hi).2 j e).1 (fun e=>by cases e),((hq i hi).2 j e).2⟩⟩⟩,h.file,h.port,
  ⟨k lh.1 (by decide),k lh.2 (by decide)⟩,⟨k lt.1 (by decide),k lt.2 (by decide)⟩,fun i hi hm=>k (h.lf i hi hm) (by decide),⟨k lg.1 (by decide),k lg.2 (by decide)⟩,⟨k ll.1 (by decide),k ll.2 (by decide)⟩,
  ⟨k lb.1 (fun e=>by cases e),k lb.2.1 (fun e=>by cases e),k lb.2.2 (fun e=>by cases e)⟩,fun i hi=>⟨k (h.lfile i hi).1 (fun e=>by cases e),k (h.lfile i hi).2.1 (fun e=>by cases e),k (h.lfile i hi).2.2.1 (fun e=>by cases e),fun j e hp=>k ((h.lfile i hi).2.2.2 j e hp) (fun e=>by cases e)⟩,fun i hi=>k (h.lport i hi) (fun e=>by cases e)⟩
theorem AN.own (h:AN w lab s B X) (b:Oy w R t) (f:Far t) (l0:lab R= .obj 0) (n1:1≠R) (lt:R<w.heap.size) (hst:X.rm.steps=[]) (hq:X.q= .none):AN w (upd lab R (.obj 20)) s B X:=by
 have e:∀j,lab j≠ .obj 0->upd lab R (.obj 20) j=lab j:=fun j hj=>uo_ (fun c=>hj (by rw [c];exact l0));have k:∀ {j l},lab j=l->l≠ .obj 0->upd lab R (.obj 20) j=l:=fun {j l} h n=>(e j (by rw [h];exact n)).trans h;have o:∀ {j},j≠R->lab j= .obj 0->upd lab R (.obj 20) j= .obj 0:=fun {j} n h=>(uo_ n).trans h;have hf:=h.firm;have hr:=h.rpm;have hc:=h.cnt;refine⟨h.hard.relab0 e,⟨hf.f,hf.soc,hf.wish,k hf.lF (by decide),fun j hj=>o (F7 hf.soc b f j hj) (hf.lsoc j hj),fun g j hg hj=>o ((hf.wish g j hg hj).1.ty.ne b f.2.2.2.2.2.2.1.symm) (hf.lwish g j hg hj)⟩,
  ⟨hr.r,hr.soc,hr.wd,?_,k hr.lR (by decide),fun j hj=>o (F7 hr.soc b f j hj) (hr.lsoc j hj),fun j hj=>o ((hr.wd j hj).ty.ne b f.2.2.2.2.2.2.1.symm) (hr.lwd j hj)⟩,
  ⟨hc.c,hc.g,hc.m,hc.ne,k hc.lC (by decide),k hc.lM (by decide),fun j hj=>o ?_ (hc.lg j hj),trivial⟩,h.wd,⟨h.ev.own,fun j hj=>k (h.ev.lab j hj) (by decide)⟩,k h.lW (by decide),fun j hj=>o (by omega) (h.fr j hj),h.le,o n1 h.l1,by rw [hq];trivial⟩
 . obtain⟨a,c,e1,e2⟩:=hr.st;exact⟨a,c,e1,fun hn=>absurd hst hn⟩
 . rcases hj with rfl | ⟨i,hi,hm,e1⟩
   . exact(XU hc.g.r).ne b f.2.2.2.2.2.2.2.symm
   . rcases hc.g.i i hi with h0 | ⟨q,e2,r⟩
     . rw [h0] at hm;exact absurd hm (DE _)
     . rw [e1] at e2;injection e2 with e2;injection e2 with e2;rw [e2];exact r.ty.ne b f.2.2.2.2.1.symm
theorem AN.mine (h:AN w lab s B X) {nb:Nat} (h20:lab nb= .obj 20) (k:AD (fun j=>j=nb) w w'):AN w' lab s B X:=by
 have k1:AD (SL lab fun q=>decide (q= .obj 20)) w w':=k.mono fun j e=>by rw [show j=nb from e];show decide (lab nb= .obj 20)=true;rw [h20];rfl
 have e0:∀j,j<w.heap.size->lab j=lab j:=fun _ _=>rfl;refine⟨h.hard_k e0 k1 fun q hq=>?_,h.firm_k e0 k1 rfl rfl,h.rpm_k e0 k1 rfl rfl,h.cnt_k e0 k1 rfl rfl rfl,h.wd_k k1 rfl,h.ev_k e0 k1 rfl,h.lW,h.fr_k k1,h.le_k k1 rfl,h.l1,h.q_k e0 k1 rfl⟩
 cases q with
 | obj k=>simp [Lb.isHard] at hq ⊢;omega
 | sub k i=>rfl
end
def AM:AE:=⟨1,fun _=>⟨111,0,fun _=>0,9,0,0,0⟩,1,fun _=>⟨-1,0,true⟩,1,fun _=>0,1,fun _=>⟨0,0,0,0,0,fun _=>⟨0,false⟩,0,fun _=>0⟩⟩
theorem ER:AM.Ok where
 c1:=by decide
 c2:=by decide
 d1:=by decide
 d2:=by decide
 r1:=by decide
 r2:=by decide
 v1:=by decide
 v2:=by decide
 ck:=fun i hi=>⟨.inl rfl,fun _=>⟨rfl,by show(1:Int)<=9;decide,by show(9:Int)<=1000000;decide⟩,fun h=>by simp [AM] at h,fun h=>by simp [AM] at h,Nat.zero_le _,fun j hj=>absurd hj (Nat.not_lt_zero _),fun h=>by simp [AM] at h,fun h=>by simp [AM] at h,fun h=>by simp [AM] at h⟩
 dm:=fun i hi=>⟨.inl rfl,by show(0:Int)<=0∧(0:Int)<=3;decide⟩
 rs:=fun i hi=>by show(0:Int)<=0∧(0:Int)<=3;decide
 clock:=fun i hi=>by show 0<1;decide
 dom:=fun i hi=>by show 0<1;decide
 line:=fun i hi=>by show 0<1;decide
 regs:=fun i hi=>Nat.zero_le _
 needs:=fun i hi=>Nat.zero_le _
 need:=fun i hi j hj=>absurd hj (Nat.not_lt_zero _)
theorem XM {b1 b2 b3 b4 c1 c2 c3 c4:Nat} {a1 a2 a3 a4:Option Addr}
 (o1:w.ownsRow b1 62 6 (.slice a1 1 c1) 1 [.int .u8 111, .slice none 0 0, .int .u64 9, .int .i64 0, .int .i64 0, .int .i64 0])
 (o2:w.ownsRow b2 47 3 (.slice a2 1 c2) 1 [.int .i64 (-1), .int .i64 0, .bool true])
 (o3:w.ownsRow b3 64 1 (.slice a3 1 c3) 1 [.int .i64 0])
 (o4:w.ownsRow b4 40 6 (.slice a4 1 c4) 1 [.int .i64 0, .int .i64 0, .int .i64 0, .int .u32 0, .slice none 0 0, .slice none 0 0]):
 ∃v,a1=some ⟨v.cb,0,none⟩∧c1=v.cc∧a2=some ⟨v.db,0,none⟩∧c2=v.dc∧a3=some ⟨v.rb,0,none⟩∧c3=v.rc∧a4=some ⟨v.vb,0,none⟩∧c4=v.vc∧A6 w v AM:=by
 obtain⟨g1,rfl,r1,_⟩:=A5 (n:=1) (K:=6) (f:=fun i=>Cf (AM.ck i) 0 0) o1 (by decide);obtain⟨g2,rfl,r2,_⟩:=A5 (n:=1) (K:=3) (f:=fun i=>D8 (AM.dm i)) o2 (by decide);obtain⟨g3,rfl,r3,_⟩:=A5 (n:=1) (K:=1) (f:=fun i _=> .int .i64 (AM.rs i)) o3 (by decide);obtain⟨g4,rfl,r4,_⟩:=A5 (n:=1) (K:=6) (f:=fun i=>CR (AM.dv i) 0 0 0 0) o4 (by decide);exact⟨⟨g1,c1,g2,c2,g3,c3,g4,c4,fun _=>0,fun _=>0,fun _=>0,fun _=>0,fun _=>0,fun _=>0⟩,rfl,rfl,rfl,rfl,rfl,rfl,rfl,rfl,r1,r2,r3,r4,fun i _ h=>absurd h (Nat.not_lt_zero _),fun i _ h=>absurd h (Nat.not_lt_zero _),fun i _ h=>absurd h (Nat.not_lt_zero _)⟩
structure RunAt (w0 w:World) (lab:Nat->Lb) (B:Wb) (X:St) (v:Bx) (R T RW:Nat) (tv:Nat->Value):Prop where
 k:AJ w0 w
 low:∀j,j<w0.heap.size->lab j= .obj 0
 h:AN w lab AM B X
 r:AF w R 88 [.string ⟨#[]⟩, .slice v.cb 1 v.cc, .slice v.db 1 v.dc, .slice v.rb 1 v.rc, .slice v.vb 1 v.vc, .pointer B.W, .int .i64 0]
 t:Row w T 59 9 tv
 rows:AF w RW 9 (LH.map Value.string)
 soc:A6 w v AM
 lR:lab R= .obj 20
 lT:lab T= .obj 20
 lW:lab RW= .obj 0
 lv:∀j,v.In AM j->lab j= .obj 0
namespace RunAt
variable {w0 w w':World} {lab lab':Nat->Lb} {B B':Wb} {X X':St} {v:Bx} {R T RW:Nat} {tv:Nat->Value}
theorem turn (h:RunAt w0 w lab B X v R T RW tv) (q:Cs w lab AM B X' w' lab' B'):RunAt w0 w' lab' B' X' v R T RW tv:=by
 have m:∀ {j l},lab j=l->l.mut=false->¬(SL lab Lb.mut) j:=fun {j l} e f c=>by
  have c:(lab j).mut=true:=c;rw [e,f] at c;cases c
 have e:∀ {j l},j<w.heap.size->lab j=l->lab' j=l:=fun {j l} hj e=>(q.e j hj).trans e;have lv:∀j,v.In AM j->j<w.heap.size:=fun j hj=>by
  have g:=h.soc;rcases hj with e | e | e | e | ⟨i,hi,hm,e⟩ | ⟨i,hi,hm,e⟩ | ⟨i,hi,hm,e⟩
  . rw [e];exact g.ck.lt
  . rw [e];exact g.dm.lt
  . rw [e];exact g.rs.lt
  . rw [e];exact g.dv.lt
  . rw [e];exact(g.src i hi hm).lt
  . rw [e];exact(g.reg i hi hm).lt
  . rw [e];exact(g.need i hi hm).lt
 exact {
  k:=h.k.trans q.k fun j hj=>m (h.low j hj) rfl
  low:=fun j hj=>e (Bo hj h.k.size) (h.low j hj)
  h:=q.h
  r:=by rw [q.b.W];exact h.r.keep q.k (m h.lR rfl)
  t:=h.t.keep q.k (m h.lT rfl)
  rows:=h.rows.keep q.k (m h.lW rfl)
  soc:=h.soc.keep q.k fun j hj=>m (h.lv j hj) rfl
  lR:=e h.r.lt h.lR
  lT:=e h.t.lt h.lT
  lW:=e h.rows.lt h.lW
  lv:=fun j hj=>e (lv j hj) (h.lv j hj) }
theorem new (h:RunAt w0 w lab B X v R T RW tv) (k:AJ w w'):RunAt w0 w' lab B X v R T RW tv:=h.turn (h.h.turn_new k)
theorem stay (hb:AF w b t xs) (l:lab b= .obj 0) (q:Cs w lab AM B X' w' lab' B'):AF w' b t xs∧lab' b= .obj 0:=
 ⟨hb.keep q.k (fun c=>by have c:(lab b).mut=true:=c;rw [l] at c;cases c),(q.e b hb.lt).trans l⟩
theorem store (h:RunAt w0 w lab B X v R T RW tv) (i:Nat) (x:Value):RunAt w0 (w.setCell (T i) x) lab B X v R T RW (fun j=>if j=i then x else tv j) where
 k:=h.k.trans (keeps_set _) fun j hj e=>by have a:=h.low j hj;rw [show j=T from e,h.lT] at a;cases a
 low:=h.low
 h:=h.h.mine h.lT (keeps_set _)
 r:=h.r.keep (keeps_set _) fun e=>h.r.ty.ne h.t.ty (by decide) e
 t:=h.t.set i x
 rows:=h.rows.keep (keeps_set _) fun e=>h.rows.ty.ne h.t.ty (by decide) e
 soc:=h.soc.keep (keeps_set _) fun j hj e=>F7 h.soc h.t.ty (by decide) j hj e
 lR:=h.lR
 lT:=h.lT
 lW:=h.lW
 lv:=h.lv
end RunAt
structure Fh (w0 w:World) (t:ByteArray) (R T RW:Nat) (tv:Nat->Value):Prop where
 k:AJ w0 w
 r:AF w R 88 [.string t, .slice none 0 0, .slice none 0 0, .slice none 0 0, .slice none 0 0, .pointer none, .int .i64 0]
 t:Row w T 59 9 tv
 rows:AF w RW 9 (LH.map Value.string)
 l:w0.heap.size<=R∧w0.heap.size<=T
namespace Fh
variable {w0 w w':World} {t:ByteArray} {R T RW:Nat} {tv:Nat->Value}
theorem new (h:Fh w0 w t R T RW tv) (k:AJ w w'):Fh w0 w' t R T RW tv:=⟨h.k.then_ k,h.r.keep k id,h.t.keep k id,h.rows.keep k id,h.l⟩
theorem store (h:Fh w0 w t R T RW tv) (i:Nat) (x:Value):Fh w0 (w.setCell (T i) x) t R T RW (fun j=>if j=i then x else tv j):=
 ⟨h.k.trans (keeps_set _) fun j hj e=>by have:=h.l;rw [show j=T from e] at hj;omega,h.r.keep (keeps_set _) fun e=>h.r.ty.ne h.t.ty (by decide) e,h.t.set i x,h.rows.keep (keeps_set _) fun e=>h.rows.ty.ne h.t.ty (by decide) e,h.l⟩
theorem text (h:Fh w0 w t R T RW tv) (u:ByteArray):Fh w0 (w.setCell (R 0) (.string u)) u R T RW tv:=
 ⟨h.k.trans (keeps_set _) fun j hj e=>by have:=h.l;rw [show j=R from e] at hj;omega,h.r.set 0 _,h.t.keep (keeps_set _) fun e=>h.t.ty.ne h.r.ty (by decide) e,h.rows.keep (keeps_set _) fun e=>h.rows.ty.ne h.r.ty (by decide) e,h.l⟩
end Fh
section
theorem ix_bar (h):(({ data:= #[124] }:ByteArray)[0]'h).toNat=124:=rfl
attribute [local go_sem] ix_bar
section
variable {w0 w:World} {t:ByteArray} {R T RW:Nat} {tv:Nat->Value}
theorem Y3 (h:Fh w0 w t R T RW tv) (row:ByteArray) (ws:List ByteArray) (n:Nat) (hw:Lib.goFieldsP I2 row=⟨#[124]⟩::ws) (hi:Lib.indexByte row.data.toList 124=0) (hs:row.size=n+2) (hn:n<900) (ht:t.size<1000) (he:(row.extract 1 (n+2)).toList.isEmpty=false):
 Calls prog 21 #[.pointer R, .string row] w fun e w'=>e= .returned (.slice none 0 0)∧Fh w0 w' (t++((row.extract 1 (n+2)).extract 1 (n+1)++⟨#[10]⟩)) R T RW tv:=by
 have H:=Ae h;have WD:=Ae (fun W=>DQ W row (by omega) _ hw (by simp));have WR:=Ae (fun W t xs hB=>Nx W R t row xs n hB hi hs (by omega));have HT:=Ae (And.intro ht he);clear h hw hi hs ht he;go_in;go_wp2_with fail;refine(WD.out w).mono ?_;rintro e w2 ⟨A,rfl,k2,hA,row2⟩;have c0:w2.cell? (A 0)=some (.string ⟨#[124]⟩):=row2.cell (i:=0) (by simp);have H2:=Ae (H.out.new k2);have l1:(0:Int)<((ws.length+1:Nat):Int):=by omega
 have l2:((ws.length:Int)+1==0)=false:=by simp;omega
 clear k2 row2;rw [Dy];go_wp2_with fail;refine mn_ (WR.out w2 t _ H2.out.r HT.out.1 HT.out.2) ?_;go_wp2;go_ret;exact⟨rfl,H2.out.text _⟩
end
end
section
variable {w0 w:World} {lab:Nat->Lb} {B:Wb} {X:St} {v:Bx} {R T RW:Nat} {tv:Nat->Value}
theorem Yq (h:RunAt w0 w lab B X v R T RW tv) (h0:(X.rm.tk 0).st=0) {PB:Nat} (rb:AF w RB 148 [.pointer R]) (pb:AF w PB 80 [.int .u8 99, .int .i64 0, .int .u8 103, .int .i64 0, .int .i64 0, .int .u32 0, .int .u32 0, .slice none 0 0]) (lr:lab RB= .obj 0) (lp:lab PB= .obj 0):
 Calls prog 172 #[.pointer RB, .pointer PB] w fun e w'=>∃a n c,e= .returned (.slice a n c)∧∃lab' B',RunAt w0 w' lab' B' (X.called 0 ⟨103,0,0,0⟩) v R T RW tv:=by
 have H:=Ae h;have RBw:=Ae rb;have PBw:=Ae pb;have LL:=Ae (And.intro lr lp);have GO:AG (Ez AM 14 (fun B=> #[.pointer B.W, .agg #[.int .u8 99, .int .i64 0, .int .u8 103, .int .i64 0, .int .i64 0, .int .u32 0, .int .u32 0, .slice none 0 0]]) (.int .i64 0) X (X.called 0 ⟨103,0,0,0⟩)):=⟨UD 0 (.inl rfl) h0 ⟨103,0,0,0⟩ (.inl rfl)⟩;clear h rb pb lr lp;go_in;go_wp2_with fail;obtain⟨Y,hY⟩:=ex w.drew;have T0:=Ae (show Cs w lab AM B X Y lab B by rw [<-hY];exact H.out.h.turn_new (kr_ _ _).drew);have SH:=Ae (show ∀W X' lab' B',Cs w lab AM B X' W lab' B'->(W.cell? ⟨RB,0,none⟩=some (.pointer R)∧W.cell? ⟨R,5,none⟩=some (.pointer B.W)∧W.cell? ⟨PB,0,none⟩=some (.int .u8 99)∧W.cell? ⟨PB,1,none⟩=some (.int .i64 0)∧W.cell? ⟨PB,2,none⟩=some (.int .u8 103)∧W.cell? ⟨PB,3,none⟩=some (.int .i64 0)∧W.cell? ⟨PB,4,none⟩=some (.int .i64 0)∧W.cell? ⟨PB,5,none⟩=some (.int .u32 0)∧W.cell? ⟨PB,6,none⟩=some (.int .u32 0)∧W.cell? ⟨PB,7,none⟩=some (.slice none 0 0)) from fun W X' lab' B' q=>by
  have r:=(RunAt.stay RBw.out LL.out.1 q).1;have p:=(RunAt.stay PBw.out LL.out.2 q).1;have g:=(H.out.turn q).r.cell 5;rw [q.b.W] at g;exact⟨r.cell 0,g,p.cell 0,p.cell 1,p.cell 2,p.cell 3,p.cell 4,p.cell 5,p.cell 6,p.cell 7⟩)
 refine rh_ (fun wz=>wz.cell? ⟨RB,0,none⟩=some (.pointer R)∧wz.cell? ⟨R,5,none⟩=some (.pointer B.W)∧wz.cell? ⟨PB,0,none⟩=some (.int .u8 99)∧wz.cell? ⟨PB,1,none⟩=some (.int .i64 0)∧wz.cell? ⟨PB,2,none⟩=some (.int .u8 103)∧wz.cell? ⟨PB,3,none⟩=some (.int .i64 0)∧wz.cell? ⟨PB,4,none⟩=some (.int .i64 0)∧wz.cell? ⟨PB,5,none⟩=some (.int .u32 0)∧wz.cell? ⟨PB,6,none⟩=some (.int .u32 0)∧wz.cell? ⟨PB,7,none⟩=some (.slice none 0 0)) (by rw [hY];exact SH.out _ _ _ _ T0.out) (fun hE=>?_);rw [hY] at hE ⊢;clear hY;refine tk 0 hE ?_;refine tk 1 hE ?_;refine tk 2 hE ?_;refine tk 3 hE ?_;refine tk 4 hE ?_
 refine JZ (fuel:=2) [5,6] (fun i vals W=>match i with
  | 5=>vals 5= .int .i64 0
  | _=>∃h,vals 6= .slice (some ⟨h,0,none⟩) 1 1)
  (fun done _ W=>(done 5=false->Cs w lab AM B X W lab B)∧(done 5=true->∃lab' B',Cs w lab AM B (X.called 0 ⟨103,0,0,0⟩) W lab' B')) (fun _ _ _=>True) rfl (by kernel_rfl) (by kernel_rfl) (by kernel_rfl) (by kernel_rfl) ⟨fun _=>T0.out,fun h=>by cases h⟩ ?lstep ?lstab ?lcong ?lfin
 case lstep=>
  intro i hi o ho done vals ρ W hdn hJ hd hf;simp only [m1,m0,or_false] at hi;rcases hi with rfl | rfl
  . cases ho;intro a' K Q ha hK;have e6:=th_ (.pointer B.W) ha hf 6;have e7:=th_ (.agg #[.int .u8 99, .int .i64 0, .int .u8 103, .int .i64 0, .int .i64 0, .int .u32 0, .int .u32 0, .slice none 0 0]) ha hf 7;clear ha;go_simp;have q:=hJ.1 hdn;refine((GO.out.next q rfl)).mono ?_;rintro e w5 ⟨rfl,lab',B',q2⟩;exact hK _ _ ⟨trivial,⟨fun h=>(by rw [AQ] at h;cases h),fun _=>⟨lab',B',q2⟩⟩,SH.out _ _ _ _ q2,Ap⟩
  . cases ho;intro a' K Q ha hK;clear ha;go_simp;have o6:∀x,turn done 6 x 5=done 5:=fun x=>turn_other _ _ (by decide);have nk:=(nr W).alloc (.cells #[.string ⟨#[111,107]⟩] 9);refine hK _ _ ⟨trivial,⟨fun h=>?_,fun h=>?_⟩,?_,W.heap.size,Ap⟩
    . have q:=hJ.1 (by rw [<-o6];exact h);exact q.trans (q.h.turn_new nk)
    . obtain⟨lab',B',q⟩:=hJ.2 (by rw [<-o6];exact h);exact⟨lab',B',q.trans (q.h.turn_new nk)⟩
    . cases c:done 5 with
      | false=>have q:=hJ.1 c;exact SH.out _ _ _ _ (q.trans (q.h.turn_new nk))
      | true=>obtain⟨lab',B',q⟩:=hJ.2 c;exact SH.out _ _ _ _ (q.trans (q.h.turn_new nk))
 case lstab=>
  intro k' hk' i hi hne hw vals W W' hR;exact fun h=>h
 case lcong=>
  intro k' hk' vals vals' W he hd;simp only [m1,m0,or_false] at hk';rcases hk' with rfl | rfl
  . exact fun h=>he.symm.trans h
  . exact fun⟨g,h1⟩=>⟨g,he.symm.trans h1⟩
 case lfin=>
 intro done vals W hdn hJ hV;obtain⟨lab',B',q⟩:=hJ.2 (hdn 5 (by simp));have v5:=hV 5 (by simp);obtain⟨g,v6⟩:=hV 6 (by simp);simp only [Am,AR,dstOf,List.getElem?_toArray,List.getElem?_cons_succ,List.getElem?_cons_zero,Option.bind_some,pu,s0,s1,if_true];rw [v5,v6];have hq:=SH.out _ _ _ _ q;have QK:=Ae (H.out.turn q);clear hV v5 v6 hJ q;refine Nk (i:=7) (d:=10) rfl rfl (by kernel_rfl) (by kernel_rfl) (C:=fun v wx=>v= .slice g 1 1∧wx=W) ?a_g7 ?a_n7;case a_g7=>
  intro a' K Q ha hK;have e0:=te ha 8;have e1:=te ha 9;clear ha;go_simp;refine(Rz _ _ _ _).mono ?_;rintro e w2 ⟨rfl,rfl⟩;exact hK _ _ ⟨rfl,rfl⟩
 case a_n7=>
 rintro v2 w2 ⟨rfl,rfl⟩;refine⟨hq,?_⟩;simp only [pu,s0,s1];refine tk 8 hq ?_;refine⟨by kernel_rfl,?_⟩;go_wp2_with fail;go_ret;exact⟨_,_,_,rfl,lab',B',QK.out⟩
theorem WS (h:RunAt w0 w lab B X v R T RW tv) (go:Ez AM 179 (fun B=> #[.pointer B.W, .int .i64 0]) (.bool true) X X) (rb:AF w RB 148 [.pointer R]) (nb:AF w NB 251 [.slice gb 1 1]) (gg:AF w gb 60 [.int .u64 0]) (lr:lab RB= .obj 0) (ln:lab NB= .obj 0) (lg:lab gb= .obj 0):
 Calls prog 178 #[.pointer RB, .pointer NB] w fun e w'=>∃g lab' B',e= .returned (.slice (some ⟨g,0,none⟩) 1 1)∧RunAt w0 w' lab' B' X v R T RW tv∧AF w' g 9 [.string ⟨#[121,101,115]⟩]∧lab' g= .obj 0:=by
 have H:=Ae h;have RBw:=Ae rb;have NBw:=Ae nb;have GGw:=Ae gg;have LL:=Ae (And.intro lr (And.intro ln lg));have GO:=Ae go;clear h go rb nb gg lr ln lg;go_in;go_wp2_with fail;obtain⟨Y,hY⟩:=ex w.drew;have T0:=Ae (show Cs w lab AM B X Y lab B by rw [<-hY];exact H.out.h.turn_new (kr_ _ _).drew);have SH:=Ae (show ∀W X' lab' B',Cs w lab AM B X' W lab' B'->(W.cell? ⟨RB,0,none⟩=some (.pointer R)∧W.cell? ⟨R,5,none⟩=some (.pointer B.W)∧W.cell? ⟨NB,0,none⟩=some (.slice gb 1 1)∧W.cell? ⟨gb,0,none⟩=some (.int .u64 0)) from fun W X' lab' B' q=>by
  have g:=(H.out.turn q).r.cell 5;rw [q.b.W] at g;exact⟨(RunAt.stay RBw.out LL.out.1 q).1.cell 0,g,(RunAt.stay NBw.out LL.out.2.1 q).1.cell 0,(RunAt.stay GGw.out LL.out.2.2 q).1.cell 0⟩)
 have wz:IntKind.i64.wrap 0=0:=rfl;refine wp_region_held_drew (S:=fun wz=>wz.cell? ⟨RB,0,none⟩=some (.pointer R)∧wz.cell? ⟨R,5,none⟩=some (.pointer B.W)∧wz.cell? ⟨NB,0,none⟩=some (.slice gb 1 1)∧wz.cell? ⟨gb,0,none⟩=some (.int .u64 0)) (by kernel_rfl) (by rw [hY];exact SH.out _ _ _ _ T0.out) (fun hE=>?_);rw [hY] at hE ⊢;clear hY;refine tk 0 hE ?_;refine tk 1 hE ?_;refine tk 2 hE ?_;refine tk 3 hE ?_;refine tk 4 hE ?_;refine tk 5 hE ?_;refine tk 6 hE ?_;refine tk 7 hE ?_;refine Nk (i:=8) (d:=11) rfl rfl (by kernel_rfl) (by kernel_rfl) (C:=fun v wx=>v= .bool true∧∃lab' B',Cs w lab AM B X wx lab' B') ?b_g8 ?b_n8;case b_g8=>
  intro a' K Q ha hK;have e0:=te ha 6;have e1:=te ha 10;clear ha;go_simp;refine(GO.out.next T0.out rfl).mono ?_;rintro e w5 ⟨rfl,lab',B',q2⟩;exact hK _ _ ⟨rfl,lab',B',q2⟩
 case b_n8=>
 rintro v2 w2 ⟨rfl,lab2,B2,q2⟩;refine⟨SH.out _ _ _ _ q2,?_⟩;simp only [pu,s0,s1];have Q2:=Ae q2;clear q2;have nk:AJ w2 (w2.alloc (.cells #[.string ⟨#[121,101,115]⟩] 9)):=(kr_ _ _).alloc _;have T3:=Ae (Q2.out.trans (Q2.out.h.turn_new nk));refine Nk (i:=9) (d:=12) rfl rfl (by kernel_rfl) (by kernel_rfl) (C:=fun v wx=>v= .slice w2.heap.size 1 1∧wx=w2.alloc (.cells #[.string ⟨#[121,101,115]⟩] 9)) ?b_g9 ?b_n9;case b_g9=>
  intro a' K Q ha hK;have e0:=te ha 11;clear ha;go_simp;refine(Lt _ _ _).mono ?_;rintro e w5 ⟨rfl,rfl⟩;exact hK _ _ ⟨rfl,rfl⟩
 case b_n9=>
 rintro v3 w3 ⟨rfl,rfl⟩;refine⟨SH.out _ _ _ _ T3.out,?_⟩;simp only [pu,s0,s1];have hq:=SH.out _ _ _ _ T3.out;refine tk 10 hq ?_;refine⟨by kernel_rfl,?_⟩;go_wp2_with fail;go_ret;exact⟨w2.heap.size,lab2,B2,rfl,H.out.turn T3.out,AF.new w2 [.string ⟨#[121,101,115]⟩] 9,Q2.out.h.fr _ (Nat.le_refl _)⟩
theorem Xw {n:Nat} (h:0<n) (h2:n<=99):IntKind.u64.wrap ((n:Int) - 1)=((n - 1:Nat):Int):=by simp [IntKind.wrap,IntKind.bits,IntKind.signed];omega
theorem XV (h:RunAt w0 w lab B X v R T RW tv) {X':St} {k:Nat} (k98:k<=98) (rr:Bp AM k X X') {cw:Nat->Nat->Bool} (re:IB AM X' cw) (rb:AF w RB 148 [.pointer R]) (nb:AF w NB 251 [.slice gb 1 1]) (gg:AF w gb 60 [.int .u64 99]) (lr:lab RB= .obj 0):
 Calls prog 175 #[.pointer NB, .pointer RB] w fun e w'=>∃a n c lab' B',e= .returned (.slice a n c)∧RunAt w0 w' lab' B' X' v R T RW tv:=by
 have H:=Ae h;have RBw:=Ae rb;have LR:=Ae lr;have RR:=Ae rr;have RE:=Ae re;have n0:=nb.z 0;have g0:=gg.z 0;have SH:=Ae (show ∀W X' lab' B',Cs w lab AM B X' W lab' B'->(W.cell? (RB 0)=some (.pointer R)∧W.cell? (R 5)=some (.pointer B.W)) from fun W X' lab' B' q=>by
  have g:=(H.out.turn q).r.cell 5;rw [q.b.W] at g;exact⟨(RunAt.stay RBw.out LR.out q).1.cell 0,g⟩)
 clear h rb lr rr re nb gg;go_in;go_wp2_with fail;go_loopw [3] (fun i wr=>∃j:Nat,j<=k∧i= .int .u64 ((99 - j:Nat):Int)∧∃Y lab1 B1,Cs w lab AM B Y wr lab1 B1∧Bp AM (k - j) Y X') (fun i _=>(intOf i).toNat);case atStart=>exact⟨0,by omega,rfl,_,_,_,H.out.h.turn_new (kx_),RR.out⟩
 case round=>
  clear n0 g0;obtain⟨j,hj,rfl,Y,lab1,B1,TY,RY⟩:=hrel;obtain⟨n,hn⟩:=ex (99 - j);rw [hn];have n1:0<n:=by omega
  have hc:(0:Int)<n:=by omega
  have hsub:=Xw n1 (by omega);obtain⟨p0,p1⟩:=SH.out _ _ _ _ TY;have TY:=Ae TY;obtain⟨m,hm⟩:=ex (k - j);rw [hm] at RY
  cases RY with
  | zero X=>
   have idle:=(EJ true (by rw [decide_eq_true RE.out.quiet])).next TY.out (by rw [TY.out.b.W]);have ID:=Ae idle;clear idle;go_wp2_with fail;refine ID.out.mono ?_;rintro e w4 ⟨rfl,lab4,B4,T4⟩;obtain⟨p0,p1⟩:=SH.out _ _ _ _ T4;have T4:=Ae T4;have ID4:=Ae ((EJ (X:=X') true (by rw [decide_eq_true RE.out.quiet])).next T4.out (by rw [T4.out.b.W]));go_wp2_with fail;refine ID4.out.mono ?_;rintro e w5 ⟨rfl,lab5,B5,T5⟩;have T5:=Ae T5;go_wp2_with fail;refine mn_ (Lt _ _ _) ?_;go_wp2;go_ret
   exact⟨_,_,_,lab5,B5,rfl,(H.out.turn T5.out).new ((kx_).alloc _)⟩
  | @succ m' _ Y1 _ bz gr ry=>
   obtain⟨u,hu,bz⟩:=bz;have busy:=(EJ false (X:=Y) (Eq.symm (decide_eq_false (by
    rintro⟨⟨q0,q1,q2⟩, -⟩;rcases hu with rfl | rfl | rfl
    . exact bz q0
    . exact bz q1
    . exact bz q2)))).next TY.out (by rw [TY.out.b.W])
   have ID:=Ae busy;have GR:=Ae gr;have RY:=Ae ry;have hjk:j+1<=k:=by omega
   have hm2:k - (j+1)=m':=by omega
   clear busy bz gr ry hm;go_wp2_with fail;refine ID.out.mono ?_;rintro e w4 ⟨rfl,lab4,B4,T4⟩;obtain⟨p0,p1⟩:=SH.out _ _ _ _ T4;have T4:=Ae T4;go_wp2_with fail;refine(GR.out.next T4.out (by rw [T4.out.b.W])).mono ?_;rintro e w5 ⟨rfl,lab5,B5,T5⟩;have T5:=Ae T5;go_wp2;go_roundw;case rel=>exact⟨j+1,hjk,by rw [show 99 - (j+1)=n - 1 by omega],Y1,lab5,B5,T5.out,by rw [hm2];exact RY.out⟩
   case measure=>simp [intOf];omega
end
theorem Sk {b:Cb} {XB vb vc:Nat} (h:A7 w lab AM b 0 (fun _=>0) false) (bx:AF w XB 328 (.slice vb 1 vc:: .pointer b.C:: .int .i64 0::xs)) (ne:XB≠b.M) (lM:b.M<w.heap.size):
 Calls prog 243 #[.pointer XB, .int .i64 0, .agg #[.int .u8 103, .int .i64 0, .int .i64 0, .int .u32 0]] w fun e w'=>e= .returned (.int .i64 0)∧AD (fun j=>j=XB∨j=b.M) w w':=by
 have k1:=(nr w).alloc (.cells #[.int .u8 103, .int .i64 0, .int .i64 0, .int .u32 0] 43);have b1:=AF.new w [.int .u8 103, .int .i64 0, .int .i64 0, .int .u32 0] 43;obtain⟨W1,hW1⟩:=ex (w.alloc (.cells #[.int .u8 103, .int .i64 0, .int .i64 0, .int .u32 0] 43));obtain⟨CB,hCB⟩:=ex w.heap.size;have B1:=Ae (show AF W1 CB 43 [.int .u8 103, .int .i64 0, .int .i64 0, .int .u32 0] by rw [<-hW1, <-hCB];exact b1);rw [hW1] at k1;have K1:=Ae k1;have X1:=Ae (bx.keep k1 id);have H1:=Ae (h.keep k1 fun _ _=>id);have lX:=bx.lt;have c1:=B1.out.z 1;have c0:=B1.out.z 0;have x0:=X1.out.z 0;clear b1 k1 bx h;go_in;go_wp2_with fail;go_quiet (skip);go_wp2_with fail;obtain⟨Y,hY⟩:=ex ((W1.drewN nq).drew);have kY:AJ W1 Y:=by rw [<-hY];exact((kx_).drewN nq).drew
 have KY:=Ae (K1.out.then_ kY);have XY:=Ae (X1.out.keep kY id);have BY:=Ae (B1.out.keep kY id);have HY:=Ae (H1.out.keep kY fun _ _=>id);have nC:CB≠b.M:=by omega
 have SH:=Ae (show ∀W,AD (· =b.M) Y W->(W.cell? (XB 1)=some (.pointer b.C)∧W.cell? (CB 1)=some (.int .i64 0)) from fun W k=>⟨(XY.out.keep k ne).cell 1,(BY.out.keep k nC).cell 1⟩);refine rh_ (fun wz=>wz.cell? (XB 1)=some (.pointer b.C)∧wz.cell? (CB 1)=some (.int .i64 0)) (by rw [hY];exact SH.out _ (kx_)) (fun hE=>?_);rw [hY] at hE ⊢;clear hY kY c1 c0 x0 hW1;refine tk 0 hE ?_;refine tk 1 hE ?_;refine tk 2 hE ?_;refine tk 3 hE ?_;refine tk 4 hE ?_;refine tk 5 hE ?_;refine oA_ 6 33 (fun v wx=>v= .int .i64 0∧AD (· =b.M) Y wx) ?a_g6 ?a_n6;case a_g6=>
  intro a' K Q ha hK;have e0:=te ha 30;have e1:=te ha 32;clear ha;go_simp;refine(N5 HY.out (by omega) 0 (by decide) (by decide)).mono ?_;rintro e w5 ⟨rfl,k5,_⟩;exact hK _ _ ⟨rfl,k5⟩
 case a_n6=>
 rintro v2 w2 ⟨rfl,k2⟩;refine⟨SH.out _ k2,?_⟩;simp only [pu,s0,s1];have hq:=SH.out _ k2;have K2:=Ae k2;clear k2 hE;refine tk 7 hq ?_;refine⟨by kernel_rfl,?_⟩;clear hq SH;go_wp2_with fail;obtain⟨Z,hZ⟩:=ex w2.drew;have kZ:AJ w2 Z:=by rw [<-hZ];exact(kx_).drew
 have KZ:=Ae (K2.out.trans kZ fun _ _ e=>e.elim);have XZ:=Ae ((XY.out.keep K2.out ne).keep kZ id);have BZ:=Ae ((BY.out.keep K2.out nC).keep kZ id);have q2:=XZ.out.z 2;have f2:=XZ.out.frozen 2;have nX:CB≠XB:=by omega
 refine rh_ (fun wz=>wz.cell? (CB 1)=some (.int .i64 0)) (by rw [hZ];exact BZ.out.cell 1) (fun hE=>?_);rw [hZ] at hE ⊢;clear hZ kZ;refine tk 0 hE ?_;refine tk 1 hE ?_;refine tk 2 hE ?_;refine tk 3 hE ?_;refine tk 4 hE ?_;refine tk 5 hE ?_;refine tk 6 hE ?_;refine tk 7 hE ?_;refine tk 10 hE ?_;refine tk 11 hE ?_;refine tk 12 hE ?_;refine oA_ 8 44 (fun v wx=>v= .int .i64 0∧wx=Z) ?b_g8 ?b_n8;case b_g8=>
  intro a' K Q ha hK;have e0:=te ha 43;clear ha;go_simp;exact hK _ _ ⟨rfl,rfl⟩
 case b_n8=>
 rintro v3 w3 ⟨rfl,rfl⟩;refine⟨hE,?_⟩;simp only [pu,s0,s1];refine tk 9 hE ?_;refine tk 13 hE ?_;refine oN_ 14 (fun wz=>wz=w3.setCell (XB 2) (.int .i64 (IntKind.i64.wrap 1))) ?b_g14 ?b_n14;case b_g14=>
  intro a' K Q ha hK;have e0:=te ha 49;have e1:=te ha 45;clear ha;go_simp;exact hK undef _ rfl
 case b_n14=>
 rintro w4 rfl;refine⟨(FI (Aq nX.symm)).trans hE,?_⟩;refine⟨by kernel_rfl,?_⟩;go_wp2;go_ret;exact⟨rfl,((KY.out.mono fun _ e=>e.elim).trans KZ.out fun _ _ e=> .inr e).trans (keeps_set _) fun _ _ e=> .inl e⟩
section
open Go.Shelf
attribute [local go_sem] Oper.semAt_some
section
variable {P:Program} {ops:Array Oper} {Q:Exit->Act->World->Prop} {md:Region.Mode}
theorem I5 (dep:Nat) (rem:List Nat) (V:Nat->(Nat->Value)->World->Prop) (J:(Nat->Bool)->(Nat->Value)->World->Prop) (R:Nat->World->World->Prop)
 (hsz:listed.size=ops.size) (hord:D7 md ops listed [] rem=true) (hap:Dk ops rem=true) (htl:Fv md ops listed rem dep=true)
 (hdst:(rem.all fun i=>match dstOf ops i with | some d=>decide (d<a.tmps.size) | none=>true)=true)
 (hJ:J (fun _=>false) (fun _=>undef) w)
 (step:∀i ∈ rem,∀o,ops[i]?=some o->∀ (done:Nat->Bool) (vals:Nat->Value) (ρ:Operand->Value) (w':World),done i=false->J done vals w'->
  (∀j ∈ rem,Ad md ops i j=true->V j vals w'∧∀d,dstOf ops j=some d->ρ (.tmp d)=vals j)->
  (∀x,JO ops rem x=true->ρ x=a.eval x)->
  G7 F P o ρ w' fun v w''=>R i w' w''∧J (turn done i true) (turn vals i v) w''∧True∧V i (turn vals i v) w'')
 (stab:∀k ∈ rem,∀i ∈ rem,i≠k->Ad md ops k i=false->∀vals w' w'',R i w' w''->V k vals w'->V k vals w'')
 (cong:∀i ∈ rem,∀vals vals' w',vals i=vals' i->(∀j ∈ rem,Ad md ops i j=true->vals j=vals' j)->V i vals w'->V i vals' w')
 (fin:∀done vals w',(∀i ∈ rem,done i=true)->J done vals w'->(∀i ∈ rem,V i vals w')->wpAnyIn F 0 P md ops Q fuel (JV listed rem) (Am ops vals a rem) w'):
 wpAnyIn F 0 P md ops Q (rem.length+fuel) listed a w:=
 Kb (X:=wpAnyIn F 0 P md ops Q) (Gv:=G7 F P) (S:=fun _=>True) (fun fuel listed a w hne h=>⟨fun e=>absurd e hne,fun i hi=>by
  obtain⟨o,ho,hw,g⟩:=h i hi;unfold wpOpIn;rw [ho];simp only [hw,if_true];exact g a _ Q rfl fun _ _ c=>c.2⟩) (fun o ρ w C C' g hc a K Q ha hK=>g a K Q ha fun v w' c=>hK v w' (hc v w' c)) rem V J R hsz hord hap htl hdst hJ step stab cong fin
theorem Jl {C:World->Prop} (ho:ops[i]?=some o) (hd:dstOf ops i=none) (hw:Region.wanted o (yielded ops a.tmps)=true) (hr:Region.ready md ops listed=[i]) (g:G7 F P o a.eval w fun _ w'=>C w')
 (h:∀w',C w'->wpAnyIn F 0 P md ops Q fuel (listed.setIfInBounds i true) a w'):wpAnyIn F 0 P md ops Q (fuel+1) listed a w:=by
 refine⟨fun e=>(by rw [e] at hr;cases hr),fun j hj=>?_⟩;rw [hr] at hj;obtain rfl:=Dz.1 hj;have e:o.dst=none:=by unfold dstOf at hd;rw [ho] at hd;exact hd
 unfold wpOpIn;rw [ho];simp only [hw,if_true];exact g a _ Q rfl fun v w' c=>by rw [e];exact h w' c
theorem Dp {d:Tmp} (ho:ops[i]?=some o) (hd:dstOf ops i=some d) (hw:Region.wanted o (yielded ops a.tmps)=false) (hr:Region.ready md ops listed=[i]) (hF:∀f,F.fn f)
 (h:wpAnyIn F 0 P md ops Q fuel (listed.setIfInBounds i true) (a.put (some d) undef) w):wpAnyIn F 0 P md ops Q (fuel+1) listed a w:=by
 refine⟨fun e=>(by rw [e] at hr;cases hr),fun j hj=>?_⟩;rw [hr] at hj;obtain rfl:=Dz.1 hj;have e:o.dst=some d:=by unfold dstOf at hd;rw [ho] at hd;exact hd
 unfold wpOpIn;rw [ho];simp only [hw];rw [e,if_neg (by simp)];exact⟨fun f _=>hF f,h⟩
end
theorem IP {P:Program} (w:World) {ops:Array Oper} {rest:List Oper} {o:Oper} {Q:Exit->Act->World->Prop}
 (hg:o.guard=none) (t:TypeId) (x y:Operand) (hop:o.op=Op.store t x y) (g:Nat) (xs ys:List Value) (hx:a.eval x= .pointer g) (hy:a.eval y= .agg ys.toArray) (hz:∀W,(sizeOf t).run P W= .ok ys.length W) (hb:AF w g t xs) (hl:ys.length=xs.length) (h1:∀u ∈ ys,u.oneCell'=true)
 (hK:∀w',AF w' g t ys->AD (· =g) w w'->wpListIn F n P ops Q rest (a.put o.dst undef) w'):
 wpListIn F n P ops Q (o::rest) a w:=by
 refine wpListIn_plain hg fun K hK'=>?_;have hst:=run_storeCells_at (P:=P) g 0 t ys 0 xs.toArray w hb (by simp;omega) h1;unfold Oper.wpIn;refine⟨?_,?_⟩
 . simp [Oper.about,hop]
 . rw [Oper.semAt_plain F _ _ (by rw [hop];intro c hc';cases hc')];simp only [List.take_zero,CK,Ag,Nat.add_zero,hl,Array.toArray_toList] at hst;have hd:List.drop xs.length xs.toArray.toList=[]:=by simp
   rw [hd,List.append_nil] at hst;have hrun:(Instr.storeAt t (.pointer g) (.agg ys.toArray)).run P w= .ok () (w.setRow g ys.toArray):=by
    simp [Instr.storeAt,Instr.sureAddr,storeVar,hz,Value.cells,hst,Result.andThen]
   simp [execOp,hop,hx,hy,Result.andThen,hrun,Oper.uponIn];exact hK' _ _ (hK _ (setRow_heap w g _ _ t _ hb) ⟨rfl,rfl,rfl,by simp,fun j hj hn=>setRow_other w g j _ hn⟩)
theorem Vt (soc:A6 w v AM):CallsIn Fence.wide 0 prog 32 #[.agg #[.slice v.cb 1 v.cc, .slice v.db 1 v.dc, .slice v.rb 1 v.rc, .slice v.vb 1 v.vc]] w (Ni w (fun _=> .obj 0) AM):=
 callsIn_wide.2 (N4 (s:=AM) (lab:=fun _=> .obj 0) ER soc (fun _ _=>rfl))
theorem Qj {g c:Nat} (soc:A6 w v AM) (row:Row w g 55 28 f) (hf:∀i,i<28->f i=YW [CJ 0 ⟨103,0,0,0⟩,Bm 0 ⟨103,0,0,0⟩ 0 0] i):
 Calls prog 185 #[.agg #[.slice v.cb 1 v.cc, .slice v.db 1 v.dc, .slice v.rb 1 v.rc, .slice v.vb 1 v.vc], .slice g 2 c] w fun e w'=>e= .returned (.tuple #[.int .i64 (-1), .int .i64 0])∧AJ w w':=by
 have ROW:=Ae row;have SO:=Ae soc;have HF:=Ae hf;clear row soc hf;refine callsIn_wide (n:=0) |>.1 (callsIn_of_wp_marks func185 rfl trivial ?_ rfl)
 simp only [ntmps185,List.size_toArray,Dy,Ek,Nat.reduceAdd,Nat.reduceSub,Array.replicate_succ,Array.replicate_zero,List.push_toArray,List.append_toArray,CK,EH];gi_wp2_with fail;have k1:AJ w (((w.alloc (.cells #[.slice v.cb 1 v.cc, .slice v.db 1 v.dc, .slice v.rb 1 v.rc, .slice v.vb 1 v.vc] 30)).alloc (.cells #[.int .i64 0] 3)).alloc (.cells #[.int .i64 0] 33)):=(((kx_).alloc _).alloc _).alloc _;have b1:=((AF.new w [.slice v.cb 1 v.cc, .slice v.db 1 v.dc, .slice v.rb 1 v.rc, .slice v.vb 1 v.vc] 30).alloc (.cells #[.int .i64 0] 3)).alloc (.cells #[.int .i64 0] 33);have b2:=(AF.new (w.alloc (.cells #[.slice v.cb 1 v.cc, .slice v.db 1 v.dc, .slice v.rb 1 v.rc, .slice v.vb 1 v.vc] 30)) [.int .i64 0] 3).alloc (.cells #[.int .i64 0] 33);have b3:=AF.new ((w.alloc (.cells #[.slice v.cb 1 v.cc, .slice v.db 1 v.dc, .slice v.rb 1 v.rc, .slice v.vb 1 v.vc] 30)).alloc (.cells #[.int .i64 0] 3)) [.int .i64 0] 33;rw [Ay] at b2;rw [Ay,Ay] at b3;obtain⟨W1,hW1⟩:=ex (((w.alloc (.cells #[.slice v.cb 1 v.cc, .slice v.db 1 v.dc, .slice v.rb 1 v.rc, .slice v.vb 1 v.vc] 30)).alloc (.cells #[.int .i64 0] 3)).alloc (.cells #[.int .i64 0] 33));obtain⟨SB,hSB⟩:=ex w.heap.size;have B1:=Ae (show AF W1 SB 30 [.slice v.cb 1 v.cc, .slice v.db 1 v.dc, .slice v.rb 1 v.rc, .slice v.vb 1 v.vc] by rw [<-hW1, <-hSB];exact b1);have B2:=Ae (show AF W1 (SB+1) 3 [.int .i64 0] by rw [<-hW1, <-hSB];exact b2);have B3:=Ae (show AF W1 (SB+1+1) 33 [.int .i64 0] by rw [<-hW1, <-hSB];exact b3);rw [hW1] at k1 ⊢;rw [hSB];have K1:=Ae k1;clear hW1 b1 b2 b3 k1;refine⟨trivial,rfl,(Vt (SO.out.new K1.out)).mono ?_⟩;rintro e w2 ⟨b,rfl,k2,hC,hM,cn⟩;have K2:=Ae (K1.out.then_ k2);have C1:=Ae (B1.out.keep k2 id);have C2:=Ae (B2.out.keep k2 id);have C3:=Ae (B3.out.keep k2 id);have CN:=Ae cn;have q3:=C1.out.z 3;have z1:=B3.out.lt;clear k2 cn;gi_wp2_with (refine IP _ rfl 328 (.tmp 8) (.tmp 25) rfl w2.heap.size [.slice none 0 0, .pointer none, .int .i64 0, .int .i64 0, .int .i64 0, .int .i64 0, .int .i64 0, .int .i64 0, .int .i64 0, .int .i64 0, .int .i64 0, .int .i64 0, .int .i64 0, .int .i64 0, .int .i64 0, .int .i64 0, .int .i64 0, .int .i64 0, .int .i64 0, .int .i64 0] [.slice v.vb 1 v.vc, .pointer b.C, .int .i64 0, .int .i64 0, .int .i64 0, .int .i64 0, .int .i64 0, .int .i64 0, .int .i64 0, .int .i64 0, .int .i64 0, .int .i64 0, .int .i64 0, .int .i64 0, .int .i64 0, .int .i64 0, .int .i64 0, .int .i64 0, .int .i64 0, .int .i64 0] rfl rfl Tryz.sizeOf328 (AF.new w2 [.slice none 0 0, .pointer none, .int .i64 0, .int .i64 0, .int .i64 0, .int .i64 0, .int .i64 0, .int .i64 0, .int .i64 0, .int .i64 0, .int .i64 0, .int .i64 0, .int .i64 0, .int .i64 0, .int .i64 0, .int .i64 0, .int .i64 0, .int .i64 0, .int .i64 0, .int .i64 0] 328) rfl (by simp [Value.oneCell']) ?_;intro w3 b3 k3);obtain⟨XB,hXB⟩:=ex w2.heap.size;have z2:b.M<XB∧SB+1+1<XB∧W1.heap.size<=XB:=by
  obtain⟨D,⟨es,cl,h1,_⟩,_⟩:=CN.out.m;have:=(Ci.1 h1).1;have:=C3.out.lt;have:=K2.out.size;omega
 have n3:AJ w2 w3:=((nr w2).alloc _).trans k3 fun j hj e=>by have e:j=w2.heap.size:=e;omega
 rw [hXB] at b3;have k4:=(nr w3).alloc (.cells #[.int .i64 0, .int .i64 0, .int .i64 0] 329);have b4:=AF.new w3 [.int .i64 0, .int .i64 0, .int .i64 0] 329;obtain⟨W4,hW4⟩:=ex (w3.alloc (.cells #[.int .i64 0, .int .i64 0, .int .i64 0] 329));obtain⟨LB,hLB⟩:=ex w3.heap.size;have b4:AF W4 LB 329 [.int .i64 0, .int .i64 0, .int .i64 0]:=by rw [<-hW4, <-hLB];exact b4
 have lX:=b3.lt;rw [hW4] at k4 ⊢;rw [hXB,hLB];refine⟨trivial,rfl,(callsIn_wide.2 (TB W4 _ _ _)).mono ?_⟩;rintro e w5 ⟨rfl,rfl⟩;have k5:=(nr W4).alloc (.cells #[.slice g 2 c] 48);have b5:=AF.new W4 [.slice g 2 c] 48;obtain⟨W5,hW5⟩:=ex (W4.alloc (.cells #[.slice g 2 c] 48));obtain⟨EB,hEB⟩:=ex W4.heap.size;have E5:=Ae (show AF W5 EB 48 [.slice g 2 c] by rw [<-hW5, <-hEB];exact b5);rw [hW5] at k5 ⊢;rw [hEB];have l4:=b4.lt;have K5:=Ae ((K2.out.then_ n3).then_ (k4.then_ k5));have X5:=Ae (b3.keep (k4.then_ k5) id);have L5:=Ae (b4.keep k5 id);have CN5:=Ae (CN.out.keep ((n3.then_ k4).then_ k5) fun _ _=>id);have R5:=Ae (ROW.out.keep K5.out id);have D2:=Ae (C2.out.keep ((n3.then_ k4).then_ k5) id);have D3:=Ae (C3.out.keep ((n3.then_ k4).then_ k5) id);have lg:=ROW.out.lt;have l5:XB<LB∧LB<EB∧EB<W5.heap.size:=by have:=E5.out.lt;omega
 have hgn:g≠XB∧g≠b.M∧g≠LB:=by have:=K1.out.size;omega
 clear hW4 hW5 k3 n3 k4 k5 b3 b4 b5 hXB hLB hEB CN C1 C2 C3 q3;gi_wp2_with fail;refine Ct (gf:=280) (lb:= #[.pointer EB]) (xs:=Et g 2) rfl (enters_of func280 (by kernel_rfl) rfl) (WI (n:=2) (c:=c) (m:=28) (f:=f) (by omega) ?fine) (fun i h=>by rw [Cp h];rfl) (fun i X=>AD (fun j=>j=XB∨j=b.M∨j=LB) W5 X∧AF X LB 329 [.int .i64 0, .int .i64 0, .int .i64 0]∧(i=0->AJ W5 X))
  (fun i X Y h k=>⟨h.1.trans k fun j hj d=>by have:=d.1;omega,h.2.1.nc k,fun e=>(h.2.2 e).trans k fun j hj d=>by have:=d.1;omega⟩) (fun i X h=>⟨E5.out.keep h.1 (by omega),R5.out.keep h.1 (by omega)⟩) ⟨kx_,L5.out,fun _=>kx_⟩ ?round ?done
 case fine=>
  intro i hi;rw [HF.out _ (by omega),HF.out _ (by omega)];rcases(show i=0∨i=1 by omega) with rfl | rfl
  . exact⟨.inl rfl,rfl,by omega⟩
  . exact⟨.inr rfl,rfl,by omega⟩
 case round=>
  rintro r i hi X ⟨kX,bL,hn⟩;have hlen:i<2:=by rwa [Ea] at hi
  have KX:=Ae kX;have BL:=Ae bL;have HN:=Ae hn;clear kX bL hn;obtain⟨io,hio⟩:=ex (i*14);rw [Cp hi,hio];gi_wp2_with fail;refine⟨kx_,fun X2 n2=>?_⟩;have kX2:=KX.out.trans n2 fun j hj d=>by have:=d.1;omega
  have bL2:=BL.out.nc n2;have rX:=R5.out.keep kX2 (by omega);have ev:∀j u,j<28->YW [CJ 0 ⟨103,0,0,0⟩,Bm 0 ⟨103,0,0,0⟩ 0 0] j=u->X2.cell? (g j)=some u:=fun j u hj e=>(rX.cell (i:=j) hj).trans (congrArg some ((HF.out j hj).trans e));rcases(show(i=0∧io=0)∨(i=1∧io=14) by omega) with⟨rfl,rfl⟩ | ⟨rfl,rfl⟩
  . have hn2:AJ W5 X2:=(HN.out rfl).trans n2 fun j hj d=>by have:=d.1;omega
    have e0:=ev 0 (.int .u8 98) (by omega) rfl;have e1:=ev 1 (.int .i64 0) (by omega) rfl;have e2:=ev 2 (.int .u8 103) (by omega) rfl;have e3:=ev 3 (.int .i64 0) (by omega) rfl;have e4:=ev 4 (.int .i64 0) (by omega) rfl;have e5:=ev 5 (.int .u32 0) (by omega) rfl;have HN2:=Ae hn2;have KX2:=Ae kX2;have BL2:=Ae bL2;clear hn2 kX2 bL2 rX ev n2;gi_wp2_with fail;obtain⟨Y,hY⟩:=ex X2.drew;have nY:AJ X2 Y:=by rw [<-hY];exact(kx_).drew
    have NY:=Ae nY;have CNY:=Ae (CN5.out.keep (HN2.out.then_ nY) fun _ _=>id);have XY:=Ae (X5.out.keep (HN2.out.then_ nY) id);have MY:AG (b.M<Y.heap.size):=⟨by have:=(HN2.out.then_ nY).size;omega⟩;have lgY:g<Y.heap.size:=by have:=(HN2.out.then_ nY).size;omega
    have CF:=Ae (show ∀W,AD (fun j=>j=XB∨j=b.M) Y W->(W.cell? (g 1)=some (.int .i64 0)∧W.cell? (g 2)=some (.int .u8 103)∧W.cell? (g 3)=some (.int .i64 0)∧W.cell? (g 4)=some (.int .i64 0)∧W.cell? (g 5)=some (.int .u32 0)) from fun W k=>by
     have q:∀j u,X2.cell? (g j)=some u->W.cell? (g j)=some u:=fun j u h=>(k.cell (p:=(g j)) lgY (fun c=>by rcases c with c | c;exact hgn.1 c;exact hgn.2.1 c)).trans ((nY.cell (p:=(g j)) (al22_ X2 _ h) id).trans h);exact⟨q 1 _ e1,q 2 _ e2,q 3 _ e3,q 4 _ e4,q 5 _ e5⟩)
    refine wpIn_region_any (by kernel_rfl) ?_;rw [show({ X2 with drawn:=X2.drawn+1 }:World)=Y from hY];clear hY nY e0 e1 e2 e3 e4 e5;change wpAnyIn _ _ _ _ _ _ (([0,1,2,3,4,5,6,7,8,9,10,11,12]:List Nat).length+2) _ _ Y;refine I5 12 [0,1,2,3,4,5,6,7,8,9,10,11,12] (fun i vals _=>vals i=([.pointer g, .pointer g, .pointer (some (g 1)), .int .i64 0, .pointer g, .pointer g, .pointer (some (g 1)), .int .i64 0, .pointer g, .pointer g, .pointer (some (g 2)), .agg #[.int .u8 103, .int .i64 0, .int .i64 0, .int .u32 0], .int .i64 0]:List Value).getD i undef) (fun done _ W=>AD (fun j=>j=XB∨j=b.M) Y W∧(done 12=false->W=Y)) (fun _ _ _=>True) (by kernel_rfl) (by kernel_rfl) (by kernel_rfl) (by kernel_rfl) (by kernel_rfl) ⟨kx_,fun _=>rfl⟩ ?p_step (fun _ _ _ _ _ _ _ _ _ _ h=>h) (fun i _ vals vals' _ e _ h=>by rw [<-e];exact h) ?p_fin;case p_step=>
     intro i hi oo ho done vals ρ W hdn hJ hd hf;simp only [m1,m0,or_false] at hi;rcases hi with rfl | rfl | rfl | rfl | rfl | rfl | rfl | rfl | rfl | rfl | rfl | rfl | rfl
     . cases ho;refine AK (fun c e=>by cases e) ?_;intro a' K Q ha hK;have e11:=th_ (.pointer g) ha hf 11;clear ha;go_simp;exact hK _ _ ⟨trivial,⟨hJ.1,fun h=>hJ.2 (by rw [turn_other _ _ (by decide)] at h;exact h)⟩,trivial,Ap⟩
     . cases ho;refine AK (fun c e=>by cases e) ?_;intro a' K Q ha hK;have e35:=td (.pointer (some (g 0))) ha 35 (he_ hd 0);clear ha;go_simp;exact hK _ _ ⟨trivial,⟨hJ.1,fun h=>hJ.2 (by rw [turn_other _ _ (by decide)] at h;exact h)⟩,trivial,Ap⟩
     . cases ho;refine AK (fun c e=>by cases e) ?_;intro a' K Q ha hK;have e36:=td (.pointer (some (g 0))) ha 36 (he_ hd 1);clear ha;go_simp;exact hK _ _ ⟨trivial,⟨hJ.1,fun h=>hJ.2 (by rw [turn_other _ _ (by decide)] at h;exact h)⟩,trivial,Ap⟩
     . cases ho;have cf:=CF.out W hJ.1;refine AK (fun c e=>by cases e) ?_;intro a' K Q ha hK;have e37:=td (.pointer (some (g 1))) ha 37 (he_ hd 2);clear ha;go_simp;exact hK _ _ ⟨trivial,⟨hJ.1,fun h=>hJ.2 (by rw [turn_other _ _ (by decide)] at h;exact h)⟩,trivial,Ap⟩
     . cases ho;refine AK (fun c e=>by cases e) ?_;intro a' K Q ha hK;have e11:=th_ (.pointer g) ha hf 11;clear ha;go_simp;exact hK _ _ ⟨trivial,⟨hJ.1,fun h=>hJ.2 (by rw [turn_other _ _ (by decide)] at h;exact h)⟩,trivial,Ap⟩
     . cases ho;refine AK (fun c e=>by cases e) ?_;intro a' K Q ha hK;have e39:=td (.pointer (some (g 0))) ha 39 (he_ hd 4);clear ha;go_simp;exact hK _ _ ⟨trivial,⟨hJ.1,fun h=>hJ.2 (by rw [turn_other _ _ (by decide)] at h;exact h)⟩,trivial,Ap⟩
     . cases ho;refine AK (fun c e=>by cases e) ?_;intro a' K Q ha hK;have e40:=td (.pointer (some (g 0))) ha 40 (he_ hd 5);clear ha;go_simp;exact hK _ _ ⟨trivial,⟨hJ.1,fun h=>hJ.2 (by rw [turn_other _ _ (by decide)] at h;exact h)⟩,trivial,Ap⟩
     . cases ho;have cf:=CF.out W hJ.1;refine AK (fun c e=>by cases e) ?_;intro a' K Q ha hK;have e41:=td (.pointer (some (g 1))) ha 41 (he_ hd 6);clear ha;go_simp;exact hK _ _ ⟨trivial,⟨hJ.1,fun h=>hJ.2 (by rw [turn_other _ _ (by decide)] at h;exact h)⟩,trivial,Ap⟩
     . cases ho;refine AK (fun c e=>by cases e) ?_;intro a' K Q ha hK;have e11:=th_ (.pointer g) ha hf 11;clear ha;go_simp;exact hK _ _ ⟨trivial,⟨hJ.1,fun h=>hJ.2 (by rw [turn_other _ _ (by decide)] at h;exact h)⟩,trivial,Ap⟩
     . cases ho;refine AK (fun c e=>by cases e) ?_;intro a' K Q ha hK;have e43:=td (.pointer (some (g 0))) ha 43 (he_ hd 8);clear ha;go_simp;exact hK _ _ ⟨trivial,⟨hJ.1,fun h=>hJ.2 (by rw [turn_other _ _ (by decide)] at h;exact h)⟩,trivial,Ap⟩
     . cases ho;refine AK (fun c e=>by cases e) ?_;intro a' K Q ha hK;have e44:=td (.pointer (some (g 0))) ha 44 (he_ hd 9);clear ha;go_simp;exact hK _ _ ⟨trivial,⟨hJ.1,fun h=>hJ.2 (by rw [turn_other _ _ (by decide)] at h;exact h)⟩,trivial,Ap⟩
     . cases ho;have cf:=CF.out W hJ.1;refine AK (fun c e=>by cases e) ?_;intro a' K Q ha hK;have e45:=td (.pointer (some (g 2))) ha 45 (he_ hd 10);clear ha;go_simp;exact hK _ _ ⟨trivial,⟨hJ.1,fun h=>hJ.2 (by rw [turn_other _ _ (by decide)] at h;exact h)⟩,trivial,Ap⟩
     . cases ho;obtain rfl:=hJ.2 hdn;refine AK (fun c e=>by cases e) ?_;intro a' K Q ha hK;have e8:=th_ (.pointer XB) ha hf 8;have e42:=td (.int .i64 0) ha 42 (he_ hd 7);have e46:=td (.agg #[.int .u8 103, .int .i64 0, .int .i64 0, .int .u32 0]) ha 46 (he_ hd 11);clear ha;go_simp;refine(Sk CNY.out XY.out (by omega) MY.out).mono ?_;rintro e w9 ⟨rfl,k9⟩;exact hK _ _ ⟨trivial,⟨k9,fun h=>by rw [AQ] at h;cases h⟩,trivial,Ap⟩
    case p_fin=>
    rintro done vals W hdn hJ hv;have v0:=Jh hv 0;have v1:=Jh hv 1;have v2:=Jh hv 2;have v3:=Jh hv 3;have v4:=Jh hv 4;have v5:=Jh hv 5;have v6:=Jh hv 6;have v7:=Jh hv 7;have v8:=Jh hv 8;have v9:=Jh hv 9;have v10:=Jh hv 10;have v11:=Jh hv 11;have v12:=Jh hv 12;clear hv;simp only [Am,AR,dstOf,De,Bl,Bk,CM,pu,s0,s1,if_true,v0,v1,v2,v3,v4,v5,v6,v7,v8,v9,v10,v11,v12];clear v0 v1 v2 v3 v4 v5 v6 v7 v8 v9 v10 v11 v12;have K9:=Ae hJ.1;clear hJ;have LW:=Ae (((BL2.out.keep NY.out id).keep K9.out (by omega)));have l0:=LW.out.z 0;have f0:=LW.out.frozen 0;refine Bb (i:=13) (d:=48) rfl rfl (by kernel_rfl) (by kernel_rfl) (C:=fun u Z=>u= .pointer LB∧Z=W) ?p_g13 ?p_n13;case p_g13=>
     refine AK (fun c e=>by cases e) ?_;intro a' K Q ha hK;have e9:=te ha 9;have e38:=te ha 38;clear ha;go_simp;exact hK _ _ ⟨rfl,rfl⟩
    case p_n13=>
    rintro u Z' ⟨rfl,hZ⟩;rw [hZ];clear hZ;simp only [pu,s0,s1];refine Jl (i:=14) rfl rfl (by kernel_rfl) (by kernel_rfl) (C:=fun Z=>Z=W.setCell (LB 0) (.int .i64 0)) ?p_g14 ?p_n14;case p_g14=>
     refine AK (fun c e=>by cases e) ?_;intro a' K Q ha hK;have e48:=te ha 48;have e47:=te ha 47;clear ha;go_simp;exact hK undef _ rfl
    case p_n14=>
    rintro Z rfl;refine⟨by kernel_rfl,?_⟩;have kZ:AD (fun j=>j=XB∨j=b.M∨j=LB) Y (W.setCell (LB 0) (.int .i64 0)):=(K9.out.mono fun _ e=>by rcases e with e | e;exact .inl e;exact .inr (.inl e)).trans (keeps_set _) fun _ _ e=> .inr (.inr e);have bZ:=LW.out.set 0 (.int .i64 0);generalize W.setCell (LB 0) (.int .i64 0)=Z at kZ bZ ⊢;have kA:=(NY.out.mono fun _ e=>e.elim).trans kZ fun _ _ e=>e;have KA:=Ae kA;have BZ:=Ae bZ;clear kZ bZ kA l0 f0;gi_wp2_with fail;exact⟨⟨KA.out.size,fun k o hB hX ho=>(KA.out.block k (Ci.1 hX).1 (by omega)).trans hX⟩,KX2.out.trans KA.out fun _ _ e=>e,BZ.out⟩
  . have e0:=ev 14 (.int .u8 101) (by omega) rfl;have e1:=ev 15 (.int .i64 0) (by omega) rfl;have e2:=ev 16 (.int .u8 103) (by omega) rfl;have e6:=ev 20 (.int .i64 0) (by omega) rfl;have e7:=ev 21 (.int .u32 0) (by omega) rfl;have l0:=bL2.z 0;have KX2:=Ae kX2;have BL2:=Ae bL2;clear kX2 bL2 rX ev n2;gi_wp2_with fail;obtain⟨Y,hY⟩:=ex X2.drew;have nY:AJ X2 Y:=by rw [<-hY];exact(kx_).drew
    have NY:=Ae nY;have q:∀j u,X2.cell? (g j)=some u->Y.cell? (g j)=some u:=fun j u h=>(nY.cell (p:=(g j)) (al22_ X2 _ h) id).trans h;have e1:=q _ _ e1;have e6:=q _ _ e6;have e7:=q _ _ e7;have l0:=(BL2.out.keep nY id).z 0;refine wpIn_region_any (by kernel_rfl) ?_;rw [show({ X2 with drawn:=X2.drawn+1 }:World)=Y from hY];clear hY nY q;change wpAnyIn _ _ _ _ _ _ (([0,1,2,3,4,5,6,7,8,9,10,11,12]:List Nat).length+14) _ _ Y;refine I5 12 [0,1,2,3,4,5,6,7,8,9,10,11,12] (fun i vals _=>vals i=([.pointer (some (g 14)), .pointer (some (g 14)), .pointer (some (g 20)), .pointer (some (g 20)), .int .i64 0, .pointer (some (g 14)), .pointer (some (g 14)), .pointer (some (g 15)), .int .i64 0, .pointer LB, .int .i64 0, .bool false, .bool false]:List Value).getD i undef) (fun _ _ W=>W=Y) (fun _ _ _=>True) (by kernel_rfl) (by kernel_rfl) (by kernel_rfl) (by kernel_rfl) (by kernel_rfl) rfl ?q_step (fun _ _ _ _ _ _ _ _ _ _ h=>h) (fun i _ vals vals' _ e _ h=>by rw [<-e];exact h) ?q_fin;case q_step=>
     intro i hi oo ho done vals ρ W hdn hJ hd hf;simp only [m1,m0,or_false] at hi;rcases hi with rfl | rfl | rfl | rfl | rfl | rfl | rfl | rfl | rfl | rfl | rfl | rfl | rfl
     . cases ho;refine AK (fun c e=>by cases e) ?_;intro a' K Q ha hK;have e11:=th_ (.pointer (some (g 14))) ha hf 11;clear ha;go_simp;exact hK _ _ ⟨trivial,by first | rfl | exact hJ,trivial,Ap⟩
     . cases ho;refine AK (fun c e=>by cases e) ?_;intro a' K Q ha hK;have e70:=td (.pointer (some (g 14))) ha 70 (he_ hd 0);clear ha;go_simp;exact hK _ _ ⟨trivial,by first | rfl | exact hJ,trivial,Ap⟩
     . cases ho;refine AK (fun c e=>by cases e) ?_;intro a' K Q ha hK;have e71:=td (.pointer (some (g 14))) ha 71 (he_ hd 1);clear ha;go_simp;exact hK _ _ ⟨trivial,by first | rfl | exact hJ,trivial,Ap⟩
     . cases ho;refine AK (fun c e=>by cases e) ?_;intro a' K Q ha hK;have e72:=td (.pointer (some (g 20))) ha 72 (he_ hd 2);clear ha;go_simp;exact hK _ _ ⟨trivial,by first | rfl | exact hJ,trivial,Ap⟩
     . cases ho;rw [hJ];refine AK (fun c e=>by cases e) ?_;intro a' K Q ha hK;have e73:=td (.pointer (some (g 20))) ha 73 (he_ hd 3);clear ha;go_simp;exact hK _ _ ⟨trivial,by first | rfl | exact hJ,trivial,Ap⟩
     . cases ho;refine AK (fun c e=>by cases e) ?_;intro a' K Q ha hK;have e11:=th_ (.pointer (some (g 14))) ha hf 11;clear ha;go_simp;exact hK _ _ ⟨trivial,by first | rfl | exact hJ,trivial,Ap⟩
     . cases ho;refine AK (fun c e=>by cases e) ?_;intro a' K Q ha hK;have e75:=td (.pointer (some (g 14))) ha 75 (he_ hd 5);clear ha;go_simp;exact hK _ _ ⟨trivial,by first | rfl | exact hJ,trivial,Ap⟩
     . cases ho;refine AK (fun c e=>by cases e) ?_;intro a' K Q ha hK;have e76:=td (.pointer (some (g 14))) ha 76 (he_ hd 6);clear ha;go_simp;exact hK _ _ ⟨trivial,by first | rfl | exact hJ,trivial,Ap⟩
     . cases ho;rw [hJ];refine AK (fun c e=>by cases e) ?_;intro a' K Q ha hK;have e77:=td (.pointer (some (g 15))) ha 77 (he_ hd 7);clear ha;go_simp;exact hK _ _ ⟨trivial,by first | rfl | exact hJ,trivial,Ap⟩
     . cases ho;refine AK (fun c e=>by cases e) ?_;intro a' K Q ha hK;have e9:=th_ (.pointer LB) ha hf 9;have e78:=td (.int .i64 0) ha 78 (he_ hd 8);clear ha;go_simp;exact hK _ _ ⟨trivial,by first | rfl | exact hJ,trivial,Ap⟩
     . cases ho;rw [hJ];refine AK (fun c e=>by cases e) ?_;intro a' K Q ha hK;have e79:=td (.pointer (some (LB 0))) ha 79 (he_ hd 9);clear ha;go_simp;exact hK _ _ ⟨trivial,by first | rfl | exact hJ,trivial,Ap⟩
     . cases ho;refine AK (fun c e=>by cases e) ?_;intro a' K Q ha hK;have e74:=td (.int .i64 0) ha 74 (he_ hd 4);have e80:=td (.int .i64 0) ha 80 (he_ hd 10);clear ha;go_simp;exact hK _ _ ⟨trivial,by first | rfl | exact hJ,trivial,Ap⟩
     . cases ho;refine AK (fun c e=>by cases e) ?_;intro a' K Q ha hK;have e81:=td (.bool false) ha 81 (he_ hd 11);clear ha;go_simp;exact hK _ _ ⟨trivial,by first | rfl | exact hJ,trivial,Ap⟩
    case q_fin=>
    rintro done vals W hdn hJ hv;have v0:=Jh hv 0;have v1:=Jh hv 1;have v2:=Jh hv 2;have v3:=Jh hv 3;have v4:=Jh hv 4;have v5:=Jh hv 5;have v6:=Jh hv 6;have v7:=Jh hv 7;have v8:=Jh hv 8;have v9:=Jh hv 9;have v10:=Jh hv 10;have v11:=Jh hv 11;have v12:=Jh hv 12;clear hv;simp only [Am,AR,dstOf,De,Bl,Bk,CM,pu,s0,s1,if_true,v0,v1,v2,v3,v4,v5,v6,v7,v8,v9,v10,v11,v12];clear v0 v1 v2 v3 v4 v5 v6 v7 v8 v9 v10 v11 v12;rw [hJ];refine Bb (i:=13) (d:=83) rfl rfl (by kernel_rfl) (by kernel_rfl) (C:=fun u Z=>u= .pointer (some (g 14))∧Z=Y) ?q_g13 ?q_n13;case q_g13=>
     refine AK (fun c e=>by cases e) ?_;intro a' K Q ha hK;have e11:=te ha 11;clear ha;go_simp;exact hK _ _ ⟨rfl,rfl⟩
    case q_n13=>
    rintro u Z' ⟨rfl,hZ⟩;rw [hZ];clear hZ;simp only [pu,s0,s1];refine Bb (i:=14) (d:=84) rfl rfl (by kernel_rfl) (by kernel_rfl) (C:=fun u Z=>u= .pointer (some (g 14))∧Z=Y) ?q_g14 ?q_n14;case q_g14=>
     refine AK (fun c e=>by cases e) ?_;intro a' K Q ha hK;have e83:=te ha 83;clear ha;go_simp;exact hK _ _ ⟨rfl,rfl⟩
    case q_n14=>
    rintro u Z' ⟨rfl,hZ⟩;rw [hZ];clear hZ;simp only [pu,s0,s1];refine Bb (i:=15) (d:=85) rfl rfl (by kernel_rfl) (by kernel_rfl) (C:=fun u Z=>u= .pointer (some (g 20))∧Z=Y) ?q_g15 ?q_n15;case q_g15=>
     refine AK (fun c e=>by cases e) ?_;intro a' K Q ha hK;have e84:=te ha 84;clear ha;go_simp;exact hK _ _ ⟨rfl,rfl⟩
    case q_n15=>
    rintro u Z' ⟨rfl,hZ⟩;rw [hZ];clear hZ;simp only [pu,s0,s1];refine Bb (i:=16) (d:=86) rfl rfl (by kernel_rfl) (by kernel_rfl) (C:=fun u Z=>u= .pointer (some (g 21))∧Z=Y) ?q_g16 ?q_n16;case q_g16=>
     refine AK (fun c e=>by cases e) ?_;intro a' K Q ha hK;have e85:=te ha 85;clear ha;go_simp;exact hK _ _ ⟨rfl,rfl⟩
    case q_n16=>
    rintro u Z' ⟨rfl,hZ⟩;rw [hZ];clear hZ;simp only [pu,s0,s1];refine Bb (i:=17) (d:=87) rfl rfl (by kernel_rfl) (by kernel_rfl) (C:=fun u Z=>u= .int .u32 0∧Z=Y) ?q_g17 ?q_n17;case q_g17=>
     refine AK (fun c e=>by cases e) ?_;intro a' K Q ha hK;have e86:=te ha 86;clear ha;go_simp;exact hK _ _ ⟨rfl,rfl⟩
    case q_n17=>
    rintro u Z' ⟨rfl,hZ⟩;rw [hZ];clear hZ;simp only [pu,s0,s1];refine Bb (i:=18) (d:=88) rfl rfl (by kernel_rfl) (by kernel_rfl) (C:=fun u Z=>u= .bool false∧Z=Y) ?q_g18 ?q_n18;case q_g18=>
     refine AK (fun c e=>by cases e) ?_;intro a' K Q ha hK;have e87:=te ha 87;clear ha;go_simp;exact hK _ _ ⟨rfl,rfl⟩
    case q_n18=>
    rintro u Z' ⟨rfl,hZ⟩;rw [hZ];clear hZ;simp only [pu,s0,s1];refine Bb (i:=19) (d:=89) rfl rfl (by kernel_rfl) (by kernel_rfl) (C:=fun u Z=>u= .bool false∧Z=Y) ?q_g19 ?q_n19;case q_g19=>
     refine AK (fun c e=>by cases e) ?_;intro a' K Q ha hK;have e88:=te ha 88;clear ha;go_simp;exact hK _ _ ⟨rfl,rfl⟩
    case q_n19=>
    rintro u Z' ⟨rfl,hZ⟩;rw [hZ];clear hZ;simp only [pu,s0,s1];refine Dp (i:=20) (d:=90) rfl rfl (by kernel_rfl) (by kernel_rfl) (fun _=>trivial) ?_;simp only [pu,s0,s1];refine Dp (i:=21) (d:=91) rfl rfl (by kernel_rfl) (by kernel_rfl) (fun _=>trivial) ?_;simp only [pu,s0,s1];refine Dp (i:=22) (d:=92) rfl rfl (by kernel_rfl) (by kernel_rfl) (fun _=>trivial) ?_;simp only [pu,s0,s1];refine Dp (i:=23) (d:=93) rfl rfl (by kernel_rfl) (by kernel_rfl) (fun _=>trivial) ?_;simp only [pu,s0,s1];refine Dp (i:=24) (d:=94) rfl rfl (by kernel_rfl) (by kernel_rfl) (fun _=>trivial) ?_;simp only [pu,s0,s1];refine Bb (i:=25) (d:=95) rfl rfl (by kernel_rfl) (by kernel_rfl) (C:=fun u Z=>u= .bool false∧Z=Y) ?q_g25 ?q_n25;case q_g25=>
     refine AK (fun c e=>by cases e) ?_;intro a' K Q ha hK;have e89:=te ha 89;clear ha;go_simp;exact hK _ _ ⟨rfl,rfl⟩
    case q_n25=>
    rintro u Z' ⟨rfl,hZ⟩;rw [hZ];clear hZ;simp only [pu,s0,s1];refine Bb (i:=26) (d:=96) rfl rfl (by kernel_rfl) (by kernel_rfl) (C:=fun u Z=>u= .bool false∧Z=Y) ?q_g26 ?q_n26;case q_g26=>
     refine AK (fun c e=>by cases e) ?_;intro a' K Q ha hK;have e82:=te ha 82;have e95:=te ha 95;clear ha;go_simp;exact hK _ _ ⟨rfl,rfl⟩
    case q_n26=>
    rintro u Z' ⟨rfl,hZ⟩;rw [hZ];clear hZ;simp only [pu,s0,s1];refine⟨by kernel_rfl,?_⟩;clear e1 e6 e7 l0;gi_wp2_with fail;exact⟨.new NY.out,KX2.out.trans NY.out fun _ _ e=>e.elim,BL2.out.keep NY.out id⟩
 case done=>
  rintro D Z hD ⟨kZ,bZ,_⟩ hK;have cZ:=D2.out.keep kZ (by omega);have dZ:=D3.out.keep kZ (by omega);have c0:=cZ.z 0;have d0:=dZ.z 0;have f0:=cZ.frozen 0;have f1:=dZ.frozen 0;have CZ:=Ae cZ;have DZ:=Ae dZ;have KZ:=Ae kZ;have HD:=Ae hD;have HKK:=Ae hK;clear cZ dZ kZ bZ hK;gi_wp2_with fail;have kS:AD (fun j=>j=SB+1∨j=SB+1+1) Z ((Z.setCell ((SB+1) 0) (.int .i64 (-1))).setCell ((SB+1+1) 0) (.int .i64 0)):=((keeps_set _).mono fun _ e=> .inl e).trans (keeps_set _) fun _ _ e=> .inr e;have bS:=(CZ.out.set 0 (.int .i64 (-1))).far (p:=((SB+1+1) 0)) (by show SB+1+1≠SB+1;omega) (.int .i64 0);have bT:=(DZ.out.keep (keeps_set (b:=SB+1) (o:=0) (.int .i64 (-1))) (by show¬SB+1+1=SB+1;omega)).set 0 (.int .i64 0);generalize (Z.setCell ((SB+1) 0) (.int .i64 (-1))).setCell ((SB+1+1) 0) (.int .i64 0)=ZS at kS bS bT ⊢;have hK':=(kS.block D (Ci.1 HKK.out).1 (by have:=HD.out;omega)).trans HKK.out;refine Cc (B:=W5.heap.size) [D] _ _ ⟨rfl,fun r hr=>by rw [Dz.1 hr];exact⟨HD.out,hK'⟩,by simp⟩ fun Y hY=>?_;have cY:=(bS.nc hY).z 0;have dY:=(bT.nc hY).z 0;refine⟨.tuple #[.int .i64 (-1), .int .i64 0],by simp [results,results185,go_sem,cY,dY],rfl,((K5.out.trans KZ.out fun j hj e=>?_).trans kS fun j hj e=>?_).trans hY fun j hj d=>?_⟩
  . have:=K1.out.size;omega
  . rcases e with e | e <;> omega
  . have:=d.1;have:=K5.out.size;omega
end
theorem WB {w0:World} {B:Wb} {X:St} {T RW:Nat} {tv:Nat->Value} (h:RunAt w0 w lab B X v R T RW tv) (hev:X.ev=[CJ 0 ⟨103,0,0,0⟩,Bm 0 ⟨103,0,0,0⟩ 0 0]) (rb:AF w RB 148 [.pointer R]):
 Calls prog 184 #[.pointer RB] w fun e w'=>∃g,e= .returned (.slice (some ⟨g,0,none⟩) 1 1)∧RunAt w0 w' lab B X v R T RW tv∧AF w' g 9 [.string ⟨#[102,105,110,101]⟩]∧lab g= .obj 0∧AJ w w':=by
 have H:=Ae h;have RBw:=Ae rb;have EVS:=Ae (GM h.h (by rw [hev];show 2<=1000;omega));have HE:=Ae hev;have p0:=rb.z 0;have r5:=h.r.z 5;clear h rb hev;go_in;go_wp2_with fail;refine EVS.out.mono ?_;rintro e w2 ⟨k2,a,cp,rfl,row⟩;obtain⟨g,rfl,hg,row⟩:=row (by rw [HE.out];simp);rw [HE.out] at row ⊢;have ROW:AG (Row w2 g 55 28 (YW [CJ 0 ⟨103,0,0,0⟩,Bm 0 ⟨103,0,0,0⟩ 0 0])):=⟨row⟩;have H2:=Ae (H.out.new k2);have KK:=Ae k2;simp only [Dy,Ek,Ag,Nat.reduceAdd];have q0:=(RBw.out.keep k2 id).z 0;have r1:=H2.out.r.z 1;have r2:=H2.out.r.z 2;have r3:=H2.out.r.z 3;have r4:=H2.out.r.z 4;have FINE:AG (TT 2 28 (YW [CJ 0 ⟨103,0,0,0⟩,Bm 0 ⟨103,0,0,0⟩ 0 0])):=⟨fun i hi=>by
  rcases(show i=0∨i=1 by omega) with rfl | rfl
  . exact⟨.inl rfl,rfl,by omega⟩
  . exact⟨.inr rfl,rfl,by omega⟩⟩
 clear row k2 p0 r5 EVS;go_wp2_with fail;refine(Qj H2.out.soc ROW.out (fun _ _=>rfl)).mono ?_;rintro e w3 ⟨rfl,k3⟩;have H3:=Ae (H2.out.new k3);have KK:=Ae (KK.out.then_ k3);have R3:=Ae (ROW.out.keep k3 id);clear k3 q0 r1 r2 r3 r4;go_wp2_with fail;refine(TF (by omega) R3.out FINE.out).mono ?_;rintro e w4 ⟨rfl,k4⟩;have H4:=Ae (H3.out.new k4);have KK:=Ae (KK.out.then_ k4);have R4:=Ae (R3.out.keep k4 id);clear k4;go_wp2_with fail;refine(Ml (by omega) R4.out FINE.out).mono ?_;rintro e w5 ⟨rfl,k5⟩;have H5:=Ae (H4.out.new k5);have KK:=Ae (KK.out.then_ k5);clear k5;go_wp2;go_ret;exact⟨w5.heap.size,rfl,H5.out.new ((kx_).alloc _),AF.new w5 [.string ⟨#[102,105,110,101]⟩] 9,H5.out.h.fr _ (al11_ _),KK.out.alloc _⟩
theorem xJ (hs:s.Ok) {d:Nat} (ht:T3 t) (hd:d<s.nv) (fb fc:Nat->Nat):∃k X' tw cw,k<=1+7*(Ax s (fun _ _=>false) tw).length∧Bp s k ((St.new s fb fc).called t ⟨103,d,0,0⟩) X'∧IB s X' cw∧FX s X'.hx d=true∧X'.ev=[CJ t ⟨103,d,0,0⟩,Bm t ⟨103,d,0,0⟩ 0 0]:=by
 have H:=QB hs hd fb fc;obtain⟨X,hX⟩:=ex (St.new s fb fc);have x1:X.cnt=fun _=>0:=by rw [<-hX];rfl
 have x2:X.n=0:=by rw [<-hX];rfl
 have x3:∀u,(X.rm.tk u).h=fun _=>0:=fun u=>by rw [<-hX];rfl
 have x4:X.rm.wd=fun _ _=>false:=by rw [<-hX];rfl
 have x5:X.ev=[]:=by rw [<-hX];rfl
 rw [hX] at H ⊢;have ctk:(X.called t ⟨103,d,0,0⟩).rm.tk t={ X.rm.tk t with st:=1,c:=⟨103,d,0,0⟩ }:=upd_same _ _ _;have B:=MB (X:=X.called t ⟨103,d,0,0⟩) hs t ht (by rw [ctk]) H.rest.ho (d:=d) (by rw [ctk]) (by rw [ctk]) hd H.asl (by show X.n<=1000;omega) (by show X.cnt d<7;rw [x1];show 0<7;omega) (by rw [ctk];show(X.rm.tk t).h d<=1000;rw [x3];show 0<=1000;omega);obtain⟨cnt',hc⟩:∃c,upd X.cnt d (X.cnt d+1)=c:=⟨_,rfl⟩;rw [show upd (X.called t ⟨103,d,0,0⟩).cnt d ((X.called t ⟨103,d,0,0⟩).cnt d+1)=cnt' from hc] at B;have hc':∀i,i<s.nv->cnt' i=if i=d then 1 else 0:=fun i _=>by
  rw [<-hc,x1];by_cases e:i=d
  . subst e;rw [upd_same,if_pos rfl]
  . rw [uo_ e,if_neg e]
 obtain⟨f0,f1⟩:=H.off (.inl rfl);obtain⟨tw,htw⟩:=ex (Cv s cnt' false X.rm.wd);have u:=T7 (c:=1) (by omega) hc';have t0:∀i,tw 0 i=wantD s d 0 i:=fun i=>by
  rw [<-htw];show(Bh s (Fo s cnt' false) s.nv 0 i||(false&&X.rm.wd 2 i))=_;rw [u,Bool.false_and,Bool.or_false];rfl
 have t1:∀i,tw 1 i=wantD s d 1 i:=fun i=>by
  rw [<-htw];show(Bh s (Fo s cnt' false) s.nv 1 i||(false&&X.rm.wd 2 i))=_;rw [u,Bool.false_and,Bool.or_false];rfl
 have t2:∀i,tw 2 i=(wantD s d 2 i||X.rm.wd 2 i):=fun i=>by
  rw [<-htw];show(Bh s (Fo s cnt' false) s.nv 2 i||(true&&X.rm.wd 2 i))=_;rw [u,Bool.true_and];rfl
 obtain⟨cw',p,eq⟩:=Tj hs f0 f1 (fun i q=>by rw [t2,q,Bool.or_true]) (Gf hs t0 t1);obtain⟨k,X',hk,r,ca⟩:=Qf hs ht H.rest ⟨103,d,0,0⟩ B (by rw [x5];exact Nat.zero_le _) (cw':=cw') (by rw [htw];exact p) (by rw [htw];exact eq) (EO hs _ _);rw [htw] at hk;have re:=ca.rest;rw [htw] at re;obtain⟨w0,w2,w1⟩:=JB hs hd;refine⟨k,X',tw,tw,by rw [<-x4];exact hk,r,re,?_,by rw [ca.ev,x5];rfl⟩;have hp:tw 0 (s.dv d).dom=true:=by rw [t0];exact w0
 have live:=(re.hw.ds _ (hs.dom d hd)).up hp;have on:∀i ∈ AU s s.nc (s.dv d).clock,Sw s i->tw 1 i=true:=fun i hi sw=>by rw [t1];exact w1 i hi sw
 show(Ar X'.hx.ns s.nc (s.dv d).clock&&((X'.hx.ds (s.dv d).dom).phase==49)&&!(X'.hx.ls (s.dv d).line).held)=true;rw [Jv hs re.hw.ns s.nc _ (hs.clock d hd) (hs.clock d hd) fun i hi sw=>⟨on i hi sw,fun _=>by rw [Lf,if_neg];rintro⟨_,q⟩;rw [on i hi sw] at q;cases q⟩,live,(re.hw.ls _ (hs.line d hd)).held,t2,w2];rfl
theorem Ud (s:AE) (fr tw:Nat->Nat->Bool):(Ax s fr tw).length<=2*(s.nd+s.nc+s.nr):=by
 have h:∀k,(Ep s fr tw k).length<=Ao s (DT k):=fun k=>by rw [Ep,List.length_map];exact Tx _
 have h0:=h 0;have h1:=h 1;have h2:=h 2;have h3:=h 3;have h4:=h 4;have h5:=h 5;simp only [DT,Ao] at h0 h1 h2 h3 h4 h5;simp only [Ax,Gb,CX,Ek];omega
end Go.Proofs.YtpekoejdnhaohaaGreatDoor
