/- What the power manager's Start, Done and want leave and answer. For every such manager in memory. -/
import Derived.Test.YtpekoejdnhaohaaGreatDoorO
import Derived.Test.YtpekoejdnhaohaaGreatDoorP
namespace Go.Proofs.YtpekoejdnhaohaaGreatDoor
open Go.RowKit Tryz
set_option maxRecDepth 100000
set_option maxHeartbeats 40000000
set_option linter.all false
variable {q:Int} {l:List DX} {lab:Nat->Lb} {S:Nat->Prop} {w w':World}
structure Cl where
 kind:Int
 dev:Nat
 reg:Nat
 val:Int
abbrev Cl.V (c:Cl):Value:= .agg #[.int .u8 c.kind, .int .i64 c.dev, .int .i64 c.reg, .int .u32 c.val]
def Cl.none:Cl:=⟨0,0,0,0⟩
structure Tk where
 st:Int
 c:Cl
 err:Int
 res:Int
 h:Nat->Nat
abbrev Ia (x:Tk):List Value:=
 [.int .i64 x.st, .int .u8 x.c.kind, .int .i64 x.c.dev, .int .i64 x.c.reg, .int .u32 x.c.val, .int .i64 x.err, .int .u32 x.res,
  .int .i64 (x.h 0:Int), .int .i64 (x.h 1:Int), .int .i64 (x.h 2:Int), .int .i64 (x.h 3:Int), .int .i64 (x.h 4:Int), .int .i64 (x.h 5:Int)]
structure Rm where
 wd:Nat->Nat->Bool
 tk:Nat->Tk
 holder:Int
 steps:List DX
 sent:Bool
 posted:Bool
 ident:Int
 many:Nat
structure Rb where
 R:Nat
 v:Bx
 wb:Nat->Nat
 wc:Nat->Nat
 sv:Value
abbrev Ew (H F C:Nat) (s:AE) (b:Rb) (y:Rm):List Value:=
 [.pointer H, .pointer F, .slice b.v.cb s.nc b.v.cc, .slice b.v.db s.nd b.v.dc, .slice b.v.rb s.nr b.v.rc, .slice b.v.vb s.nv b.v.vc,
  .pointer C, .slice (b.wb 0) s.nd (b.wc 0), .slice (b.wb 1) s.nc (b.wc 1), .slice (b.wb 2) s.nr (b.wc 2)]++(Ia (y.tk 0)++(Ia (y.tk 1)++(Ia (y.tk 2)++
 [.int .i64 y.holder,b.sv, .bool y.sent, .bool y.posted, .int .i64 y.ident, .int .i64 y.many])))
def EA (w:World) (lab:Nat->Lb) (sv:Value) (l:List DX):Prop:=
 ∃a c,sv= .slice a l.length c∧(l≠[]->∃g o,a=some ⟨g,o,none⟩∧lab g= .obj 0∧g<w.heap.size∧l.length<=c∧∀k q,l[k]?=some q->∀j u,q.cells[j]?=some u->w.cell? ⟨g,o+k*4+j,none⟩=some u)
theorem EA.keep {sv:Value} (h:EA w lab sv l) (k:AD S w w') (n:∀j,lab j= .obj 0->¬S j):EA w' lab sv l:=by
 obtain⟨a,c,e,h⟩:=h;refine⟨a,c,e,fun hl=>?_⟩;obtain⟨g,o,e1,e2,e3,e4,e5⟩:=h hl;exact⟨g,o,e1,e2,Bo e3 k.size,e4,fun i q hq j u hu=>(k.cell (p:=(g (o+i*4+j))) e3 (n g e2)).trans (e5 i q hq j u hu)⟩
structure Ac (w:World) (lab:Nat->Lb) (s:AE) (H F C:Nat) (b:Rb) (y:Rm):Prop where
 r:AF w b.R 138 (Ew H F C s b y)
 soc:A6 w b.v s
 wd:∀j,j<3->Row w (b.wb j) 4 (Ao s j) (fun i=> .bool (y.wd j i))
 st:EA w lab b.sv y.steps
 lR:lab b.R= .obj 10
 lsoc:∀j,b.v.In s j->lab j= .obj 0
 lwd:∀j,j<3->lab (b.wb j)= .obj 0
namespace Ac
variable {w w':World} {lab:Nat->Lb} {s:AE} {H F C:Nat} {b:Rb} {y:Rm}
theorem keep (h:Ac w lab s H F C b y) (k:AD S w w') (n:∀j,lab j= .obj 0∨lab j= .obj 10->¬S j):Ac w' lab s H F C b y:=
 ⟨h.r.keep k (n _ (.inr h.lR)),h.soc.keep k (fun j hj=>n _ (.inl (h.lsoc j hj))),fun j hj=>(h.wd j hj).keep k (n _ (.inl (h.lwd j hj))),h.st.keep k (fun j e=>n _ (.inl e)),h.lR,h.lsoc,h.lwd⟩
theorem new (h:Ac w lab s H F C b y) (k:AJ w w'):Ac w' lab s H F C b y:=h.keep k fun _ _=>id
theorem turn {y':Rm} {sv:Value} (h:Ac w lab s H F C b y) (k:AD (fun j=>j=b.R) w w') (hw:y'.wd=y.wd) (hst:EA w lab sv y'.steps) (r:AF w' b.R 138 (Ew H F C s { b with sv:=sv } y')):Ac w' lab s H F C { b with sv:=sv } y':=by
 have n:∀j,lab j= .obj 0->¬(fun j=>j=b.R) j:=fun j e c=>by
  have c:j=b.R:=c;rw [c,h.lR] at e;cases e
 refine⟨r,h.soc.keep k fun j hj=>n _ (h.lsoc j hj),?_,hst.keep k n,h.lR,h.lsoc,h.lwd⟩;rw [hw];exact fun j hj=>(h.wd j hj).keep k (n _ (h.lwd j hj))
theorem turn0 {y':Rm} (h:Ac w lab s H F C b y) (k:AD (fun j=>j=b.R) w w') (hw:y'.wd=y.wd) (hst:y'.steps=y.steps) (r:AF w' b.R 138 (Ew H F C s b y')):Ac w' lab s H F C b y':=
 h.turn (sv:=b.sv) k hw (by rw [hst];exact h.st) r
end Ac
section
variable {w:World} {lab:Nat->Lb} {s:AE} {H F C:Nat} {b:Rb} {y:Rm}
theorem EU (t:Nat) (ht:t=0∨t=1∨t=2) (w:World):Calls prog 96 #[.int .i64 t] w fun e w'=>e= .returned (.bool true)∧w'=w:=by
 rcases ht with rfl | rfl | rfl
 all_goals go_in
 all_goals go_wp2_with fail
 all_goals go_ret
 all_goals exact⟨rfl,rfl⟩
theorem Rk (h:Ac w lab s H F C b y):Calls prog 84 #[.pointer b.R] w fun e w'=>e= .returned (.int .i64 y.holder)∧w'=w:=by
 have c:=h.r.z 49;clear h;go_in;go_wp2;go_ret;exact⟨rfl,rfl⟩
theorem LU (h:Ac w lab s H F C b y) (d:Nat) (hd:d<s.nv):Calls prog 357 #[.pointer b.R, .int .i64 d] w fun e w'=>e= .returned (.bool true)∧w'=w:=by
 have c:=h.r.z 5;clear h;go_in;go_wp2;go_ret;exact⟨rfl,rfl⟩
theorem Ac.tkc (h:Ac w lab s H F C b y) (t j:Nat) (ht:t=0∨t=1∨t=2) (hj:j<13):w.cell? (b.R (10+t*13+j))=(Ia (y.tk t))[j]?:=by
 refine(h.r.cell _).trans ?_;rcases ht with rfl | rfl | rfl
 all_goals (match j,hj with
  | 0,_ | 1,_ | 2,_ | 3,_ | 4,_ | 5,_ | 6,_ | 7,_ | 8,_ | 9,_ | 10,_ | 11,_ | 12,_=>rfl)
theorem XS (h:Ac w lab s H F C b y) (t:Nat) (ht:t=0∨t=1∨t=2) (hq:(y.tk t).st=q):Calls prog 41 #[.pointer (some (b.R 0)), .int .i64 (t:Int)] w fun e w'=>e= .returned (.bool (q !=0))∧w'=w:=by
 have K:=fun W=>EU t ht W;have c:w.cell? (b.R (10+t*13+0))=some (.int .i64 (y.tk t).st):=h.tkc t 0 ht (by omega);rw [hq] at c;clear h hq;rcases ht with rfl | rfl | rfl
 all_goals simp only [Nat.reduceMul,Nat.reduceAdd] at c
 all_goals go_in
 all_goals go_wp2_with fail
 all_goals (refine mn_ (K _) ?_)
 all_goals go_wp2_with fail
 all_goals go_ret
 all_goals exact⟨rfl,rfl⟩
def JA (k:Int):Prop:=k=103∨k=112∨k=114∨k=119∨k=115∨k=109
def effT (k:Int):Nat:=if k=103 then 268 else if k=112 then 269 else if k=114 then 271 else if k=119 then 271 else if k=115 then 272 else 273
def Vf (k:Int):Value:=if k=114 then .agg #[.bool false] else if k=119 then .agg #[.bool true] else .agg #[]
theorem LK {k:Int} (hk:JA k) (w:World):Calls prog 134 #[.int .u8 k] w fun e w'=>e= .returned (.iface (effT k) (Vf k))∧w'=w:=by
 rcases hk with rfl | rfl | rfl | rfl | rfl | rfl
 all_goals go_in
 all_goals go_wp2_with fail
 all_goals go_ret
 all_goals exact⟨rfl,rfl⟩
end
section
variable {w:World} {lab:Nat->Lb} {s:AE} {H F C:Nat} {b:Rb} {y:Rm}
def WZ (w:World) (lab:Nat->Lb) (s:AE) (H F C:Nat) (b:Rb) (y':Rm) (v:Value) (e:Ending) (w':World):Prop:=
 e= .returned v∧AD (fun j=>j=b.R) w w'∧∃sv,Ac w' lab s H F C { b with sv:=sv } y'
theorem Up (h:Ac w lab s H F C b y) (t:Nat) (ht:t=0∨t=1∨t=2) (h0:(y.tk t).st=0) (c:Cl) (hk:JA c.kind):
 Calls prog 83 #[.pointer b.R, .int .i64 t,c.V] w (WZ w lab s H F C b { y with tk:=upd y.tk t { y.tk t with st:=1,c:=c } } (.int .i64 0)):=by
 have K:=fun W=>EU t ht W;have c0:w.cell? (b.R (10+t*13))=some (.int .i64 (y.tk t).st):=h.tkc t 0 ht (by omega);have c1:w.cell? (b.R (10+t*13+1))=some (.int .u8 (y.tk t).c.kind):=h.tkc t 1 ht (by omega);have c2:w.cell? (b.R (10+t*13+1+1))=some (.int .i64 ((y.tk t).c.dev:Int)):=h.tkc t 2 ht (by omega);have c3:w.cell? (b.R (10+t*13+1+2))=some (.int .i64 ((y.tk t).c.reg:Int)):=h.tkc t 3 ht (by omega);have c4:w.cell? (b.R (10+t*13+1+3))=some (.int .u32 (y.tk t).c.val):=h.tkc t 4 ht (by omega);have fr:=fun i=>h.r.frozen i;have lR:=h.r.lt;rw [h0] at c0;have HH:=Ae h;have HT:=Ae ht;have ht3:t<3:=by omega
 clear h ht h0;go_in;go_wp2_with fail;refine mn_ (K _) ?_;go_wp2_with fail;refine mn_ (LK hk _) ?_;go_wp2_with fail;have kb:=(nr w).alloc (.cells #[.int .u8 c.kind, .int .i64 c.dev, .int .i64 c.reg, .int .u32 c.val] 43);have bb:=AF.new w [.int .u8 c.kind, .int .i64 c.dev, .int .i64 c.reg, .int .u32 c.val] 43;obtain⟨W1,hW1⟩:=ex (w.alloc (.cells #[.int .u8 c.kind, .int .i64 c.dev, .int .i64 c.reg, .int .u32 c.val] 43));rw [hW1] at kb bb ⊢;clear hW1;obtain⟨Y,hY⟩:=ex W1.drew;have kY:AJ w Y:=by rw [<-hY];exact kb.drew
 have bY:AF Y w.heap.size 43 [.int .u8 c.kind, .int .i64 c.dev, .int .i64 c.reg, .int .u32 c.val]:=by rw [<-hY];exact bb
 have hH:=HH.out.new kY;have x0:Y.cell? (b.R (10+t*13))=some (.int .i64 0):=by rw [<-hY];exact(kb.cell (p:=⟨b.R,_,none⟩) lR id).trans c0
 have x1:Y.cell? (b.R (10+t*13+1))=some (.int .u8 (y.tk t).c.kind):=by rw [<-hY];exact(kb.cell (p:=⟨b.R,_,none⟩) lR id).trans c1
 have x2:Y.cell? (b.R (10+t*13+1+1))=some (.int .i64 ((y.tk t).c.dev:Int)):=by rw [<-hY];exact(kb.cell (p:=⟨b.R,_,none⟩) lR id).trans c2
 have x3:Y.cell? (b.R (10+t*13+1+2))=some (.int .i64 ((y.tk t).c.reg:Int)):=by rw [<-hY];exact(kb.cell (p:=⟨b.R,_,none⟩) lR id).trans c3
 have x4:Y.cell? (b.R (10+t*13+1+3))=some (.int .u32 (y.tk t).c.val):=by rw [<-hY];exact(kb.cell (p:=⟨b.R,_,none⟩) lR id).trans c4
 have fY:=fun i=>hH.r.frozen i;have HB:=Ae bY;have HK:=Ae kY;have HR:=Ae hH;clear c0 c1 c2 c3 c4 fr hH kb bb;have SX:AG (∀w',AD (fun j=>j=b.R) Y w'->w'.cell? (w.heap.size 0)=some (.int .u8 c.kind)∧w'.cell? (w.heap.size 1)=some (.int .i64 c.dev)∧w'.cell? (w.heap.size 2)=some (.int .i64 c.reg)∧w'.cell? (w.heap.size 3)=some (.int .u32 c.val)):=⟨fun w' k=>by
  have h:=HB.out.keep k (show¬w.heap.size=b.R by omega);exact⟨h.cell 0,h.cell 1,h.cell 2,h.cell 3⟩⟩
 clear bY kY;refine rh_ (fun w'=>w'.cell? (w.heap.size 0)=some (.int .u8 c.kind)∧w'.cell? (w.heap.size 1)=some (.int .i64 c.dev)∧w'.cell? (w.heap.size 2)=some (.int .i64 c.reg)∧w'.cell? (w.heap.size 3)=some (.int .u32 c.val)) (by rw [hY];exact SX.out _ (kx_)) (fun hE=>?_);rw [hY] at hE ⊢;clear hY;refine tk 0 hE ?_;refine tk 1 hE ?_;refine tk 2 hE ?_;refine tk 3 hE ?_;refine tk 4 hE ?_;refine oN_ 5 (fun w'=>w'=(Y.setCell (b.R (10+t*13)) (.int .i64 1))) ?s_g5 ?s_n5;case s_g5=>
  intro a' K Q ha hK;have e0:=te ha 35;clear ha;go_simp;exact hK undef _ rfl
 case s_n5=>
 rintro w2 rfl;refine⟨SX.out _ (keeps_set _),?_⟩;have S2:=SX.out _ (keeps_set (w:=Y) (b:=b.R) (o:=10+t*13) (.int .i64 1));clear hE;refine tk 6 S2 ?_;refine tk 7 S2 ?_;clear S2;refine oN_ 8 (fun w'=>w'=(((((Y.setCell (b.R (10+t*13)) (.int .i64 1)).setCell (b.R (10+t*13+1)) (.int .u8 c.kind)).setCell (b.R (10+t*13+1+1)) (.int .i64 c.dev)).setCell (b.R (10+t*13+1+2)) (.int .i64 c.reg)).setCell (b.R (10+t*13+1+3)) (.int .u32 c.val))) ?s_g8 ?s_n8;case s_g8=>
  intro a' K Q ha hK;have e0:=te ha 37;have e1:=te ha 33;clear ha;go_simp;exact hK undef _ rfl
 case s_n8=>
 rintro w2 rfl;refine⟨SX.out _ (((((keeps_set _).t (keeps_set _)).t (keeps_set _)).t (keeps_set _)).t (keeps_set _)),?_⟩;refine⟨by kernel_rfl,?_⟩;go_wp2;go_ret;have ks:AD (fun j=>j=b.R) Y (((((Y.setCell (b.R (10+t*13)) (.int .i64 1)).setCell (b.R (10+t*13+1)) (.int .u8 c.kind)).setCell (b.R (10+t*13+1+1)) (.int .i64 c.dev)).setCell (b.R (10+t*13+1+2)) (.int .i64 c.reg)).setCell (b.R (10+t*13+1+3)) (.int .u32 c.val)):=((((keeps_set _).t (keeps_set _)).t (keeps_set _)).t (keeps_set _)).t (keeps_set _);refine⟨rfl,(HK.out.mono fun _ e=>e.elim).then_ ks,b.sv,HR.out.turn0 ks rfl rfl ?_⟩;have h:=((((HR.out.r.set (10+t*13) (.int .i64 1)).set (10+t*13+1) (.int .u8 c.kind)).set (10+t*13+1+1) (.int .i64 c.dev)).set (10+t*13+1+2) (.int .i64 c.reg)).set (10+t*13+1+3) (.int .u32 c.val);rcases HT.out with rfl | rfl | rfl
 all_goals exact h
theorem OA (h:Ac w lab s H F C b y) (t:Nat) (ht:t=0∨t=1∨t=2) (h0:y.holder=(t:Int)) (er x:Int):
 Calls prog 162 #[.pointer b.R, .agg #[.int .i64 er, .int .u32 x]] w (WZ w lab s H F C b { y with tk:=upd y.tk t { y.tk t with st:=3,err:=er,res:=x },holder:= -1,steps:=[],sent:=false,posted:=false } (.tuple #[])):=by
 have ch:=cv_ (.int .i64 y.holder) (h.r.cell 49);rw [h0] at ch;have lR:=h.r.lt;have HH:=Ae h;have HT:=Ae ht;have ht3:t<3:=by omega
 clear h ht h0;go_in;go_wp2_with fail;have kb:=(nr w).alloc (.cells #[.int .i64 er, .int .u32 x] 51);have bb:=AF.new w [.int .i64 er, .int .u32 x] 51;obtain⟨W1,hW1⟩:=ex (w.alloc (.cells #[.int .i64 er, .int .u32 x] 51));rw [hW1] at kb bb ⊢;clear hW1;have c49:W1.cell? (b.R 49)=some (.int .i64 (t:Int)):=(kb.cell (p:=⟨b.R,_,none⟩) lR id).trans ch;go_quiet (skip);go_wp2_with fail;obtain⟨Y,hY⟩:=ex ((W1.drewN nq).drew);have kY:AJ w Y:=by rw [<-hY];exact(kb.drewN _).drew
 have bY:AF Y w.heap.size 51 [.int .i64 er, .int .u32 x]:=by rw [<-hY];exact bb
 have hH:=HH.out.new kY;have x0:Y.cell? (b.R (10+t*13))=some (.int .i64 (y.tk t).st):=hH.tkc t 0 HT.out (by omega);have x1:Y.cell? (b.R (10+t*13+5))=some (.int .i64 (y.tk t).err):=hH.tkc t 5 HT.out (by omega);have x2:Y.cell? (b.R (10+t*13+5+1))=some (.int .u32 (y.tk t).res):=hH.tkc t 6 HT.out (by omega);have fY:=fun i=>hH.r.frozen i;have HB:=Ae bY;have HK:=Ae kY;have HR:=Ae hH;clear hH kb bb c49 ch;have SX:AG (∀w',AD (fun j=>j=b.R) Y w'->w'.cell? (w.heap.size 0)=some (.int .i64 er)∧w'.cell? (w.heap.size 1)=some (.int .u32 x)):=⟨fun w' k=>by
  have h:=HB.out.keep k (show¬w.heap.size=b.R by omega);exact⟨h.cell 0,h.cell 1⟩⟩
 clear bY kY;refine rh_ (fun w'=>w'.cell? (w.heap.size 0)=some (.int .i64 er)∧w'.cell? (w.heap.size 1)=some (.int .u32 x)) (by rw [hY];exact SX.out _ (kx_)) (fun hE=>?_);rw [hY] at hE ⊢;clear hY;refine tk 0 hE ?_;refine tk 1 hE ?_;refine tk 2 hE ?_;refine tk 3 hE ?_;refine tk 4 hE ?_;refine oN_ 5 (fun w'=>w'=(Y.setCell (b.R (10+t*13)) (.int .i64 3))) ?e_g5 ?e_n5;case e_g5=>
  intro a' K Q ha hK;have e0:a'.tmps[17]?.getD undef= .pointer (some (b.R (10+t*13))):=by have h:=congrFun ha (.tmp 17);simpa [Act.eval] using h
  clear ha;go_simp;exact hK undef _ rfl
 case e_n5=>
 rintro w2 rfl;refine⟨SX.out _ (keeps_set _),?_⟩;have S2:=SX.out _ (keeps_set (w:=Y) (b:=b.R) (o:=10+t*13) (.int .i64 3));clear hE;refine tk 6 S2 ?_;refine tk 7 S2 ?_;clear S2;refine oN_ 8 (fun w'=>w'=(((Y.setCell (b.R (10+t*13)) (.int .i64 3)).setCell (b.R (10+t*13+5)) (.int .i64 er)).setCell (b.R (10+t*13+5+1)) (.int .u32 x))) ?e_g8 ?e_n8;case e_g8=>
  intro a' K Q ha hK;have e0:=te ha 19;have e1:=te ha 15;clear ha;go_simp;exact hK undef _ rfl
 case e_n8=>
 rintro w2 rfl;refine⟨SX.out _ (((keeps_set _).t (keeps_set _)).t (keeps_set _)),?_⟩;refine⟨by kernel_rfl,?_⟩;have ks:AD (fun j=>j=b.R) Y (((Y.setCell (b.R (10+t*13)) (.int .i64 3)).setCell (b.R (10+t*13+5)) (.int .i64 er)).setCell (b.R (10+t*13+5+1)) (.int .u32 x)):=((keeps_set _).t (keeps_set _)).t (keeps_set _);have BZ:AF (((Y.setCell (b.R (10+t*13)) (.int .i64 3)).setCell (b.R (10+t*13+5)) (.int .i64 er)).setCell (b.R (10+t*13+5+1)) (.int .u32 x)) b.R 138 (Ew H F C s b { y with tk:=upd y.tk t { y.tk t with st:=3,err:=er,res:=x } }):=by
  have h:=((HR.out.r.set (10+t*13) (.int .i64 3)).set (10+t*13+5) (.int .i64 er)).set (10+t*13+5+1) (.int .u32 x);rcases HT.out with rfl | rfl | rfl
  all_goals exact h
 obtain⟨Z,hZ⟩:=ex (((Y.setCell (b.R (10+t*13)) (.int .i64 3)).setCell (b.R (10+t*13+5)) (.int .i64 er)).setCell (b.R (10+t*13+5+1)) (.int .u32 x));rw [hZ] at ks BZ ⊢;clear hZ x0 x1 x2 fY;have z49:=BZ.z 49;have z50:=BZ.z 50;have z51:=BZ.z 51;have z52:=BZ.z 52;have fZ:=fun i=>BZ.frozen i;have KZ:=Ae ks;have BZ:=Ae BZ;clear ks;go_wp2;go_end0;have ks:AD (fun j=>j=b.R) Z ((((Z.setCell (b.R 49) (.int .i64 (-1))).setCell (b.R 50) (.slice none 0 0)).setCell (b.R 51) (.bool false)).setCell (b.R 52) (.bool false)):=(((keeps_set _).t (keeps_set _)).t (keeps_set _)).t (keeps_set _);have k2:=KZ.out.then_ ks;exact⟨rfl,(HK.out.mono fun _ e=>e.elim).then_ k2, .slice none 0 0,HR.out.turn k2 rfl ⟨none,0,rfl,fun h=>absurd rfl h⟩ ((((BZ.out.set 49 (.int .i64 (-1))).set 50 (.slice none 0 0)).set 51 (.bool false)).set 52 (.bool false))⟩
def Tk.taken (x:Tk):Tk:={ x with st:=0,c:=Cl.none,err:=0,res:=0 }
theorem Pc (h:Ac w lab s H F C b y) (t:Nat) (ht:t=0∨t=1∨t=2) (h0:(y.tk t).st=q) (hq:q≠3):
 Calls prog 138 #[.pointer (some (b.R 0)), .int .i64 (t:Int)] w fun e w'=>e= .returned (.tuple #[.agg #[.int .i64 0, .int .u32 0], .bool false])∧AJ w w':=by
 have K:=fun W=>EU t ht W;have c0:w.cell? (b.R (10+t*13))=some (.int .i64 (y.tk t).st):=h.tkc t 0 ht (by omega);have lR:=h.r.lt;rw [h0] at c0;have ht3:t<3:=by omega
 have hb:(q==3)=false:=by simp [hq]
 clear h h0;go_in;go_wp2_with fail;refine mn_ (K _) ?_;go_wp2_with fail;have z0:=(((AF.new w [.int .i64 0, .int .u32 0] 51).set 0 (.int .i64 0)).set 1 (.int .u32 0)).cell 0;have z1:=(((AF.new w [.int .i64 0, .int .u32 0] 51).set 0 (.int .i64 0)).set 1 (.int .u32 0)).cell 1;refine bodyPost_ret (v:= .tuple #[.agg #[.int .i64 0, .int .u32 0], .bool false]) (by simp [results,results138,go_sem,z0,z1]) rfl ?_;exact⟨rfl,(kx_).alloc _⟩
theorem XR (h:Ac w lab s H F C b y) (t:Nat) (ht:t=0∨t=1∨t=2) (h0:(y.tk t).st=3):
 Calls prog 138 #[.pointer b.R, .int .i64 t] w (WZ w lab s H F C b { y with tk:=upd y.tk t (y.tk t).taken } (.tuple #[.agg #[.int .i64 (y.tk t).err, .int .u32 (y.tk t).res], .bool true])):=by
 have K:=fun W=>EU t ht W;have c0:w.cell? (b.R (10+t*13))=some (.int .i64 (y.tk t).st):=h.tkc t 0 ht (by omega);have c1:w.cell? (b.R (10+t*13+1))=some (.int .u8 (y.tk t).c.kind):=h.tkc t 1 ht (by omega);have c2:w.cell? (b.R (10+t*13+1+1))=some (.int .i64 ((y.tk t).c.dev:Int)):=h.tkc t 2 ht (by omega);have c3:w.cell? (b.R (10+t*13+1+2))=some (.int .i64 ((y.tk t).c.reg:Int)):=h.tkc t 3 ht (by omega);have c4:w.cell? (b.R (10+t*13+1+3))=some (.int .u32 (y.tk t).c.val):=h.tkc t 4 ht (by omega);have c5:w.cell? (b.R (10+t*13+5))=some (.int .i64 (y.tk t).err):=h.tkc t 5 ht (by omega);have c6:w.cell? (b.R (10+t*13+5+1))=some (.int .u32 (y.tk t).res):=h.tkc t 6 ht (by omega);have fr:=fun i=>h.r.frozen i;have lR:=h.r.lt;rw [h0] at c0;have ht3:t<3:=by omega
 have HH:=Ae h;have HT:=Ae ht;clear h ht h0;go_in;go_wp2_with fail;refine mn_ (K _) ?_;go_wp2_with fail;have ks:AD (fun j=>j=b.R) w (((((((w.setCell (b.R (10+t*13)) (.int .i64 0)).setCell (b.R (10+t*13+1)) (.int .u8 0)).setCell (b.R (10+t*13+1+1)) (.int .i64 0)).setCell (b.R (10+t*13+1+2)) (.int .i64 0)).setCell (b.R (10+t*13+1+3)) (.int .u32 0)).setCell (b.R (10+t*13+5)) (.int .i64 0)).setCell (b.R (10+t*13+5+1)) (.int .u32 0)):=(((((((keeps_set _).t (keeps_set _)).t (keeps_set _)).t (keeps_set _)).t (keeps_set _)).t (keeps_set _)).t (keeps_set _));have BZ:AF (((((((w.setCell (b.R (10+t*13)) (.int .i64 0)).setCell (b.R (10+t*13+1)) (.int .u8 0)).setCell (b.R (10+t*13+1+1)) (.int .i64 0)).setCell (b.R (10+t*13+1+2)) (.int .i64 0)).setCell (b.R (10+t*13+1+3)) (.int .u32 0)).setCell (b.R (10+t*13+5)) (.int .i64 0)).setCell (b.R (10+t*13+5+1)) (.int .u32 0)) b.R 138 (Ew H F C s b { y with tk:=upd y.tk t (y.tk t).taken }):=by
  have h:=(((((((HH.out.r.set (10+t*13) (.int .i64 0)).set (10+t*13+1) (.int .u8 0)).set (10+t*13+1+1) (.int .i64 0)).set (10+t*13+1+2) (.int .i64 0)).set (10+t*13+1+3) (.int .u32 0)).set (10+t*13+5) (.int .i64 0)).set (10+t*13+5+1) (.int .u32 0));rcases HT.out with rfl | rfl | rfl
  all_goals exact h
 have zs:(((((((w.setCell (b.R (10+t*13)) (.int .i64 0)).setCell (b.R (10+t*13+1)) (.int .u8 0)).setCell (b.R (10+t*13+1+1)) (.int .i64 0)).setCell (b.R (10+t*13+1+2)) (.int .i64 0)).setCell (b.R (10+t*13+1+3)) (.int .u32 0)).setCell (b.R (10+t*13+5)) (.int .i64 0)).setCell (b.R (10+t*13+5+1)) (.int .u32 0)).heap.size=w.heap.size:=by simp
 obtain⟨Z,hZ⟩:=ex (((((((w.setCell (b.R (10+t*13)) (.int .i64 0)).setCell (b.R (10+t*13+1)) (.int .u8 0)).setCell (b.R (10+t*13+1+1)) (.int .i64 0)).setCell (b.R (10+t*13+1+2)) (.int .i64 0)).setCell (b.R (10+t*13+1+3)) (.int .u32 0)).setCell (b.R (10+t*13+5)) (.int .i64 0)).setCell (b.R (10+t*13+5+1)) (.int .u32 0));rw [hZ] at ks BZ zs ⊢;have bz:=(AF.new Z [.int .i64 (y.tk t).err, .int .u32 (y.tk t).res] 51).alloc (.cells #[.int .i64 (y.tk t).err, .int .u32 (y.tk t).res] 51);rw [zs] at bz;have z0:=bz.cell 0;have z1:=bz.cell 1;refine bodyPost_ret (v:= .tuple #[.agg #[.int .i64 (y.tk t).err, .int .u32 (y.tk t).res], .bool true]) (by simp [results,results138,go_sem,z0,z1]) rfl ?_;have ka:AJ Z ((Z.alloc (.cells #[.int .i64 (y.tk t).err, .int .u32 (y.tk t).res] 51)).alloc (.cells #[.int .i64 (y.tk t).err, .int .u32 (y.tk t).res] 51)):=((kx_).alloc _).alloc _;have k2:=ks.then_ (ka.mono fun _ e=>e.elim);exact⟨rfl,k2,b.sv,HH.out.turn0 k2 rfl rfl (BZ.keep ka id)⟩
end
def RpmQ (w:World) (lab:Nat->Lb) (s:AE) (H F C:Nat) (b:Rb) (y':Rm) (v:Value) (e:Ending) (w':World):Prop:=
 e= .returned v∧AD (fun j=>j=b.R) w w'∧∃b',b'.R=b.R∧Ac w' lab s H F C b' y'
def Fo (s:AE) (cnt:Nat->Nat) (asleep:Bool) (i:Nat):Bool:=!asleep&&actN s cnt s.nv i
def Cv (s:AE) (cnt:Nat->Nat) (asleep:Bool) (wd:Nat->Nat->Bool) (j i:Nat):Bool:=Bh s (Fo s cnt asleep) s.nv j i||(decide (j=2)&&wd 2 i)
def Rm.want (y:Rm) (s:AE) (cnt:Nat->Nat) (asleep:Bool):Rm:={ y with wd:=Cv s cnt asleep y.wd,steps:=Ax s y.wd (Cv s cnt asleep y.wd),sent:=false }
section
variable {w:World} {lab:Nat->Lb} {s:AE} {H F:Nat} {b:Rb} {y:Rm} {cb:Cb} {n:Nat} {cnt:Nat->Nat} {asl:Bool}
theorem TJ (h:A7 w lab s cb n cnt asl):Calls prog 340 #[.pointer cb.C] w (PC w s (Fo s cnt asl)):=by
 cases asl
 . exact(Ow h).mono fun e w' ⟨b,h1,h2,h3,h4⟩=>⟨b,h1,h2,h3.congr fun i _=>by simp [Fo],h4⟩
 . exact(Mo h).mono fun e w' ⟨b,h1,h2,h3,h4⟩=>⟨b,h1,h2,h3.congr fun i _=>by simp [Fo],h4⟩
theorem A7.new (h:A7 w lab s cb n cnt asl) (k:AJ w w'):A7 w' lab s cb n cnt asl:=h.keep k fun _ _=>id
theorem Uy {B:Nat} {a:Option Addr} {c:Nat} (h:w.ownsRow B 278 4 (.slice a l.length c) l.length (CS l)) (hl:∀j,B<=j->lab j= .obj 0):EA w lab (.slice a l.length c) l:=by
 refine⟨a,c,rfl,fun hne=>?_⟩;have hp:=List.length_pos_iff.2 hne;have ho:=h;rcases h.2 with⟨hv,h0⟩ | ⟨g,c',cur,hv,hb,hg,hle,_⟩
 . omega
 . injection hv with e1 e2 e3;subst e1 e3;refine⟨g,0,rfl,hl g hb,(Ci.1 hg).1,by omega,fun k q hq j u hu=>?_⟩;have hc:=World.ownsRow.cells ho (g:=g) rfl (k*4+j) u ?_
   . rw [Af,Ag] at hc;rw [Ag];exact hc
   . have:∀ (l:List DX) (k:Nat),l[k]?=some q->(CS l)[k*4+j]?=some u:=by
      intro l
      induction l with
      | nil=>intro k h;cases h
      | cons p l ih=>
       intro k h;have hj:j<4:=by have:=(G8.1 hu).1;simpa using this
       cases k with
       | zero=>injection h with h;subst h;rw [CS,List.flatMap_cons,List.getElem?_append_left (by simp;omega)];simpa using hu
       | succ k=>rw [CS,List.flatMap_cons,ME (by simp;omega)];have:=ih k h;rw [<-CS];rw [show(k+1)*4+j - p.cells.length=k*4+j by simp;omega];exact this
     exact this l k hq
theorem Ic (h:Ac w lab s H F cb.C b y) (hc:A7 w lab s cb n cnt asl) (hs:s.Ok) (hfr:∀j,w.heap.size<=j->lab j= .obj 0):
 Calls prog 339 #[.pointer b.R] w (RpmQ w lab s H F cb.C b (y.want s cnt asl) (.tuple #[])):=by
 have HS:=Ae hs;have HH:=Ae h;have HC:=Ae hc;have HL:=Ae hfr;have n1:=hs.c2;have n2:=hs.d2;have n3:=hs.r2;have n4:=hs.v2;have SNK:AG (∀w',AJ w w'->w'.cell? (b.R 2)=some (.slice b.v.cb s.nc b.v.cc)∧w'.cell? (b.R 3)=some (.slice b.v.db s.nd b.v.dc)∧w'.cell? (b.R 4)=some (.slice b.v.rb s.nr b.v.rc)∧w'.cell? (b.R 5)=some (.slice b.v.vb s.nv b.v.vc)∧w'.cell? (b.R 6)=some (.pointer cb.C)):=⟨fun w' k=>by
  have h:=HH.out.r.keep k id;exact⟨h.cell 2,h.cell 3,h.cell 4,h.cell 5,h.cell 6⟩⟩
 clear h hc hs hfr;go_in;go_wp2_with fail;refine rh_ (fun w'=>w'.cell? (b.R 2)=some (.slice b.v.cb s.nc b.v.cc)∧w'.cell? (b.R 3)=some (.slice b.v.db s.nd b.v.dc)∧w'.cell? (b.R 4)=some (.slice b.v.rb s.nr b.v.rc)∧w'.cell? (b.R 5)=some (.slice b.v.vb s.nv b.v.vc)∧w'.cell? (b.R 6)=some (.pointer cb.C)) (SNK.out _ (AD.drew (kx_))) (fun hE=>?_);refine tk 0 hE ?_;refine tk 1 hE ?_;refine tk 2 hE ?_;refine tk 3 hE ?_;refine tk 4 hE ?_;refine tk 5 hE ?_;refine tk 6 hE ?_;refine tk 7 hE ?_;clear hE;change wpAnyH _ _ _ _ _ (([8,9,10]:List Nat).length+1) _ _ w.drew
 refine wl_ [8,9,10] (fun i vals W=>match i with
  | 8=>∃x,vals 8= .slice (some ⟨x,0,none⟩) s.nv s.nv∧Row W x 4 s.nv (fun i=> .bool (Fo s cnt asl i))
  | 9=>∃x0 x1 x2,vals 9= .agg #[.slice (some ⟨x0,0,none⟩) s.nd s.nd, .slice (some ⟨x1,0,none⟩) s.nc s.nc, .slice (some ⟨x2,0,none⟩) s.nr s.nr]∧(Row W x0 4 s.nd (fun i=> .bool (Bh s (Fo s cnt asl) s.nv 0 i))∧Row W x1 4 s.nc (fun i=> .bool (Bh s (Fo s cnt asl) s.nv 1 i))∧Row W x2 4 s.nr (fun i=> .bool (Bh s (Fo s cnt asl) s.nv 2 i)))∧(w.heap.size<=x0∧w.heap.size<=x1∧w.heap.size<=x2)∧x0≠x1∧x0≠x2∧x1≠x2
  | _=>∃x,vals i= .pointer (some ⟨x,0,none⟩)∧AF W x 117 [.slice none 0 0, .slice none 0 0, .slice none 0 0]∧w.heap.size<=x)
  (fun W=>AJ w W) (fun i W W'=>AJ W W') (AD.drew (kx_)) ?lstep ?lfin (stab:=?lstab) (cong:=?lcong)
 case lstep=>
  intro i hi o ho vals ρ W hJ hd hf;simp only [m1,m0,or_false] at hi;rcases hi with rfl | rfl | rfl
  . cases ho;intro a' K Q ha hK;have e12:=th_ (.pointer cb.C) ha hf 12;clear ha;go_simp;refine(TJ (HC.out.new hJ)).mono ?_;rintro e w2 ⟨x,rfl,k2,r2,l2⟩;exact hK _ _ ⟨k2,hJ.then_ k2,SNK.out _ (hJ.then_ k2),x,Ap,Row.of_is r2⟩
  . cases ho;obtain⟨⟨x,v1,r1⟩,d1⟩:=he_ hd 8;have h13:=d1 13 rfl;rw [v1] at h13;intro a' K Q ha hK;have e13:=tf (.slice x s.nv s.nv) ha 13 h13;have e8:=th_ (.agg #[.slice b.v.cb s.nc b.v.cc, .slice b.v.db s.nd b.v.dc, .slice b.v.rb s.nr b.v.rc, .slice b.v.vb s.nv b.v.vc]) ha hf 8;clear ha;go_simp;refine(LZ HS.out (HH.out.soc.new hJ) (.slice x s.nv s.nv) (Fo s cnt asl) (fun X hX i hi=>L3 (r1.keep hX id) i hi (by omega))).mono ?_;rintro e w2 ⟨x0,x1,x2,rfl,k2,r2,l2,ne⟩;exact hK _ _ ⟨k2,hJ.then_ k2,SNK.out _ (hJ.then_ k2),x0,x1,x2,Ap,r2,⟨Nat.le_trans hJ.size l2.1,Nat.le_trans hJ.size l2.2.1,Nat.le_trans hJ.size l2.2.2⟩,ne⟩
  . cases ho;intro a' K Q ha hK;clear ha;go_simp;have k2:=(nr W).alloc (.cells #[.slice none 0 0, .slice none 0 0, .slice none 0 0] 117);exact hK _ _ ⟨k2,hJ.then_ k2,SNK.out _ (hJ.then_ k2),W.heap.size,Ap,AF.new _ _ _,hJ.size⟩
 case lstab=>
  intro k' hk' i hi hne hw vals W W' hR;simp only [m1,m0,or_false] at hk';rcases hk' with rfl | rfl | rfl
  . exact fun⟨p,h1,h3⟩=>⟨p,h1,h3.keep hR id⟩
  . exact fun⟨p,p1,p2,h1,h3,h4⟩=>⟨p,p1,p2,h1,⟨h3.1.keep hR id,h3.2.1.keep hR id,h3.2.2.keep hR id⟩,h4⟩
  . exact fun⟨p,h1,h3,h4⟩=>⟨p,h1,h3.keep hR id,h4⟩
 case lcong=>
  intro k' hk' vals vals' W he hd;simp only [m1,m0,or_false] at hk';rcases hk' with rfl | rfl | rfl
  . exact fun⟨p,h1,h2⟩=>⟨p,he.symm.trans h1,h2⟩
  . exact fun⟨p,p1,p2,h1,h2⟩=>⟨p,p1,p2,he.symm.trans h1,h2⟩
  . exact fun⟨p,h1,h2⟩=>⟨p,he.symm.trans h1,h2⟩
 case lfin=>
  intro vals W hJ hv;obtain⟨x0,x1,x2,e9,r9,l9,ne9⟩:=Jh hv 9;obtain⟨A,e10,b10,l10⟩:=Jh hv 10;clear hv;simp only [Am,AR,dstOf,De,Bl,Bk,CM,pu,s0,s1,if_true];rw [e9,e10];generalize vals 8=v8 at*;have cA0:=b10.z 0;have cA1:=b10.z 1;have cA2:=b10.z 2;have fA:=fun i=>b10.frozen i;have R9:=Ae r9;have L9:=Ae (And.intro l9 ne9);have BA:=Ae b10;have KJ:=Ae hJ;clear e9 e10 r9 l9 ne9 b10 hJ;refine oN_ 11 (fun w'=>w'=(((W.setCell (A 0) (.slice x0 s.nd s.nd)).setCell (A 1) (.slice x1 s.nc s.nc)).setCell (A 2) (.slice x2 s.nr s.nr))) ?a_g11 ?a_n11;case a_g11=>
   intro a' K Q ha hK;have e0:=te ha 2;have e1:=te ha 14;clear ha;go_simp;exact hK undef _ rfl
  case a_n11=>
  rintro w2 rfl;refine⟨SNK.out _ (KJ.out.trans (((keeps_set _).t (keeps_set _)).t (keeps_set _)) (fun j hj (e:j=A)=>by omega)),?_⟩;have kA:AD (fun j=>j=A) W (((W.setCell (A 0) (.slice x0 s.nd s.nd)).setCell (A 1) (.slice x1 s.nc s.nc)).setCell (A 2) (.slice x2 s.nr s.nr)):=((keeps_set _).t (keeps_set _)).t (keeps_set _);have bA:=((BA.out.set 0 (.slice x0 s.nd s.nd)).set 1 (.slice x1 s.nc s.nc)).set 2 (.slice x2 s.nr s.nr);obtain⟨W1,hW1⟩:=ex (((W.setCell (A 0) (.slice x0 s.nd s.nd)).setCell (A 1) (.slice x1 s.nc s.nc)).setCell (A 2) (.slice x2 s.nr s.nr));rw [hW1] at kA bA ⊢;refine⟨by kernel_rfl,?_⟩;clear hW1 cA0 cA1 cA2 fA;have K1:=Ae (KJ.out.trans kA (fun j hj (e:j=A)=>by omega));have nA:∀ {x k:Nat} {f:Nat->Value},Row W x 4 k f->¬x=A:=fun hr e=>by
   obtain⟨c,h,_⟩:=hr;have h2:=BA.out;unfold AF at h2;rw [e,h2] at h;injection h with h;injection h with _ h;exact absurd h (by decide)
  have R1:=Ae (show _∧_∧_ from⟨R9.out.1.keep kA (nA R9.out.1),R9.out.2.1.keep kA (nA R9.out.2.1),R9.out.2.2.keep kA (nA R9.out.2.2)⟩);have NA:=Ae (show¬x2=A from nA R9.out.2.2);have BA1:=Ae bA;have c9:=(HH.out.r.keep K1.out id).z 9;clear kA bA nA R9 BA KJ;obtain⟨⟨l0,l1,l2⟩,ne01,ne02,ne12⟩:=L9.out;go_wp2_with fail;clear c9;go_loopw [21] (fun i wr=>∃k:Nat,k<=s.nr∧i= .int .i64 k∧AD (fun j=>j=x2) W1 wr∧Row wr x2 4 s.nr (fun i=> .bool (Bh s (Fo s cnt asl) s.nv 2 i||(decide (i<k)&&y.wd 2 i)))) (fun i _=>s.nr - (intOf i).toNat);case atStart=>exact⟨0,by omega,rfl,kx_,R1.out.2.2.congr fun i _=>by simp⟩
  case round=>
   obtain⟨k,hk,rfl,kw,rw_⟩:=hrel;have KW:=Ae kw;have RW:=Ae rw_;have kn:AJ w wr:=K1.out.trans kw fun j hj (e:j=x2)=>by omega
   have KN:=Ae kn;have ba:=BA1.out.keep kw (fun e=>NA.out e.symm);have BAW:=Ae ba;clear kw rw_;by_cases hlt:k<s.nr
   . have ck:=((HH.out.wd 2 (by omega)).keep kn id).cell hlt;have a2:=ba.z 2;have q0:=RW.out.cell hlt;have fq:=RW.out.frozen k;obtain⟨z,hz⟩:=ex (y.wd 2 k);rw [hz] at ck;have HZ:=Ae hz;clear kn ba hz;cases z
     . go_wp2;go_roundw;case rel=>exact⟨k+1,by omega,by go_num,KW.out,RW.out.congr fun i _=>by
        by_cases e:i=k
        . subst e;simp [HZ.out]
        . rw [show decide (i<k+1)=decide (i<k) by simp;omega]⟩
       case measure=>simp [intOf];omega
     . go_wp2;go_roundw;case rel=>exact⟨k+1,by omega,by go_num,KW.out.t (keeps_set _),(RW.out.set k (.bool true)).congr fun i _=>by
        by_cases e:i=k
        . subst e;simp [HZ.out]
        . rw [if_neg e,show decide (i<k+1)=decide (i<k) by simp;omega]⟩
       case measure=>simp [intOf];omega
   . have ek:k=s.nr:=by omega
     subst ek;clear kn ba;have R2:=Ae (RW.out.congr (g:=fun i=> .bool (Cv s cnt asl y.wd 2 i)) fun i hi=>by simp [Cv,hi]);have R0:=Ae ((R1.out.1.keep KW.out ne02).congr (g:=fun i=> .bool (Cv s cnt asl y.wd 0 i)) fun i hi=>by simp [Cv]);have R1':=Ae ((R1.out.2.1.keep KW.out ne12).congr (g:=fun i=> .bool (Cv s cnt asl y.wd 1 i)) fun i hi=>by simp [Cv]);go_wp2_with fail;have SN2:AG (∀w',AJ wr w'->w'.cell? (b.R 2)=some (.slice b.v.cb s.nc b.v.cc)∧w'.cell? (b.R 3)=some (.slice b.v.db s.nd b.v.dc)∧w'.cell? (b.R 4)=some (.slice b.v.rb s.nr b.v.rc)∧w'.cell? (b.R 5)=some (.slice b.v.vb s.nv b.v.vc)∧w'.cell? (b.R 7)=some (.slice (b.wb 0) s.nd (b.wc 0))∧w'.cell? (b.R 8)=some (.slice (b.wb 1) s.nc (b.wc 1))∧w'.cell? (b.R 9)=some (.slice (b.wb 2) s.nr (b.wc 2))∧w'.cell? (A 0)=some (.slice x0 s.nd s.nd)∧w'.cell? (A 1)=some (.slice x1 s.nc s.nc)∧w'.cell? (A 2)=some (.slice x2 s.nr s.nr)):=⟨fun w' k=>by
      have h:=HH.out.r.keep (KN.out.then_ k) id;have g:=BAW.out.keep k id;exact⟨h.cell 2,h.cell 3,h.cell 4,h.cell 5,h.cell 7,h.cell 8,h.cell 9,g.cell 0,g.cell 1,g.cell 2⟩⟩
     refine rh_ (fun w'=>w'.cell? (b.R 2)=some (.slice b.v.cb s.nc b.v.cc)∧w'.cell? (b.R 3)=some (.slice b.v.db s.nd b.v.dc)∧w'.cell? (b.R 4)=some (.slice b.v.rb s.nr b.v.rc)∧w'.cell? (b.R 5)=some (.slice b.v.vb s.nv b.v.vc)∧w'.cell? (b.R 7)=some (.slice (b.wb 0) s.nd (b.wc 0))∧w'.cell? (b.R 8)=some (.slice (b.wb 1) s.nc (b.wc 1))∧w'.cell? (b.R 9)=some (.slice (b.wb 2) s.nr (b.wc 2))∧w'.cell? (A 0)=some (.slice x0 s.nd s.nd)∧w'.cell? (A 1)=some (.slice x1 s.nc s.nc)∧w'.cell? (A 2)=some (.slice x2 s.nr s.nr)) (SN2.out _ (AD.drew (kx_))) (fun hE=>?_);refine tk 0 hE ?_;refine tk 1 hE ?_;refine tk 2 hE ?_;refine tk 3 hE ?_;refine tk 4 hE ?_;refine tk 5 hE ?_;refine tk 6 hE ?_;refine tk 7 hE ?_;refine tk 8 hE ?_;refine tk 9 hE ?_;refine tk 10 hE ?_;clear hE;refine oA_ 11 43 (fun u w'=>Qp wr.drew s y.wd (Cv s cnt asl y.wd) (.returned u) w') ?b_g11 ?b_n11;case b_g11=>
      intro a' K Q ha hK;have e0:=te ha 37;have e1:=te ha 41;have e2:=te ha 42;clear ha;go_simp;refine(Rv (fr:=y.wd) (tw:=Cv s cnt asl y.wd) (fb:=b.wb) (fc:=b.wc) (tb:=fun j=>match j with | 0=>x0 | 1=>x1 | _=>x2) (tc:=fun j=>match j with | 0=>s.nd | 1=>s.nc | _=>s.nr) HS.out (HH.out.soc.new KN.out.drew) (fun j hj=>(HH.out.wd j hj).keep KN.out.drew id) (fun j hj=>?_)).mono ?_
      . match j,hj with
        | 0,_=>exact R0.out
        | 1,_=>exact R1'.out
        | 2,_=>exact R2.out
      rintro e w4 h4;obtain⟨a5,c5,rfl,h5⟩:=h4;exact hK _ _ ⟨a5,c5,rfl,h5⟩
     case b_n11=>
     rintro u W3 ⟨a3,c3,hu,k3,o3⟩;refine⟨SN2.out _ ((AD.drew (AD.refl _ wr)).then_ k3),?_⟩;simp only [pu,s0,s1];injection hu with hu;subst hu;have K3:=Ae ((AD.drew (nr wr)).then_ k3);have ST:=Ae (Uy o3 (fun j hj=>HL.out j (by have:=KN.out.size;have hj:wr.heap.size<=j:=hj;omega)));obtain⟨L,hL⟩:=ex (Ax s y.wd (Cv s cnt asl y.wd));rw [hL] at ST ⊢;have HLL:=Ae hL;clear k3 o3 hL;have S3:=SN2.out _ K3.out;have BR:=Ae (HH.out.r.keep (KN.out.then_ K3.out) id);have b50:=BR.out.z 50;have b51:=BR.out.z 51;have fR:=fun i=>BR.out.frozen i;refine tk 12 S3 ?_;refine tk 13 S3 ?_;have nAR:¬A=b.R:=by have:=HH.out.r.lt;omega
     have SM:AG (∀w',AD (fun j=>j=b.R) W3 w'->AF w' b.R 138 (Ew H F cb.C s { b with sv:= .slice a3 L.length c3 } y)->w'.cell? (b.R 2)=some (.slice b.v.cb s.nc b.v.cc)∧w'.cell? (b.R 3)=some (.slice b.v.db s.nd b.v.dc)∧w'.cell? (b.R 4)=some (.slice b.v.rb s.nr b.v.rc)∧w'.cell? (b.R 5)=some (.slice b.v.vb s.nv b.v.vc)∧w'.cell? (b.R 7)=some (.slice (b.wb 0) s.nd (b.wc 0))∧w'.cell? (b.R 8)=some (.slice (b.wb 1) s.nc (b.wc 1))∧w'.cell? (b.R 9)=some (.slice (b.wb 2) s.nr (b.wc 2))∧w'.cell? (A 0)=some (.slice x0 s.nd s.nd)∧w'.cell? (A 1)=some (.slice x1 s.nc s.nc)∧w'.cell? (A 2)=some (.slice x2 s.nr s.nr)):=⟨fun w' k h=>by
      have g:=(BAW.out.keep K3.out id).keep k nAR;exact⟨h.cell 2,h.cell 3,h.cell 4,h.cell 5,h.cell 7,h.cell 8,h.cell 9,g.cell 0,g.cell 1,g.cell 2⟩⟩
     have B50:=BR.out.set 50 (.slice a3 L.length c3);have S4:=SM.out _ (keeps_set (w:=W3) (b:=b.R) (o:=50) (.slice a3 L.length c3)) B50;refine oN_ 14 (fun w'=>w'=W3.setCell (b.R 50) (.slice a3 L.length c3)) ?b_g14 ?b_n14;case b_g14=>
      intro a' K Q ha hK;have e0:=te ha 45;have e1:=te ha 43;clear ha;go_simp;exact hK undef _ rfl
     case b_n14=>
     rintro w2 rfl;refine⟨S4,?_⟩;clear S3;refine tk 15 S4 ?_;refine tk 16 S4 ?_;refine oN_ 17 (fun w'=>w'=(W3.setCell (b.R 50) (.slice a3 L.length c3)).setCell (b.R 51) (.bool false)) ?b_g17 ?b_n17;case b_g17=>
      intro a' K Q ha hK;have e0:=te ha 47;clear ha;go_simp;exact hK undef _ rfl
     case b_n17=>
     rintro w2 rfl;refine⟨?sfin,?_⟩;case sfin=>
      have k5:AD (fun j=>j=b.R) W3 ((W3.setCell (b.R 50) (.slice a3 L.length c3)).setCell (b.R 51) (.bool false)):=(keeps_set _).t (keeps_set _);have g:=(BAW.out.keep K3.out id).keep k5 nAR;have h:=B50.set 51 (.bool false);exact⟨h.cell 2,h.cell 3,h.cell 4,h.cell 5,h.cell 7,h.cell 8,h.cell 9,g.cell 0,g.cell 1,g.cell 2⟩
     refine⟨by kernel_rfl,?_⟩;have k5:AD (fun j=>j=b.R) W3 ((W3.setCell (b.R 50) (.slice a3 L.length c3)).setCell (b.R 51) (.bool false)):=(keeps_set _).t (keeps_set _);have BZ:AF ((W3.setCell (b.R 50) (.slice a3 L.length c3)).setCell (b.R 51) (.bool false)) b.R 138 (Ew H F cb.C s { b with sv:= .slice a3 L.length c3 } { y with sent:=false }):=B50.set 51 (.bool false);have AZ:=(BAW.out.keep K3.out id).keep k5 nAR;obtain⟨Z,hZ⟩:=ex ((W3.setCell (b.R 50) (.slice a3 L.length c3)).setCell (b.R 51) (.bool false));rw [hZ] at k5 BZ AZ ⊢;clear hZ b50 b51 fR B50 S4;have z7:=BZ.z 7;have z8:=BZ.z 8;have z9:=BZ.z 9;have a0:=AZ.z 0;have a1:=AZ.z 1;have a2:=AZ.z 2;have fz:=fun i=>BZ.frozen i;have K5:=Ae k5;have BZ:=Ae BZ;clear k5 AZ;go_wp2;go_end0;have ks:AD (fun j=>j=b.R) Z (((Z.setCell (b.R 7) (.slice x0 s.nd s.nd)).setCell (b.R 8) (.slice x1 s.nc s.nc)).setCell (b.R 9) (.slice x2 s.nr s.nr)):=((keeps_set _).t (keeps_set _)).t (keeps_set _);have k6:=K5.out.then_ ks;have nR:∀j,lab j= .obj 0->¬j=b.R:=fun j e c=>by rw [c,HH.out.lR] at e;cases e
     have zn:=KN.out.size;have x0R:=HL.out x0 (by omega);have x1R:=HL.out x1 (by omega);have x2R:=HL.out x2 (by omega);refine⟨rfl,(KN.out.then_ K3.out).mono (fun _ e=>e.elim) |>.then_ k6,{ R:=b.R,v:=b.v,wb:=fun j=>(match j with | 0=>x0 | 1=>x1 | _=>x2),wc:=fun j=>(match j with | 0=>s.nd | 1=>s.nc | _=>s.nr),sv:= .slice a3 L.length c3 },rfl,?_,?_,?_,?_,HH.out.lR,HH.out.lsoc,?_⟩
     . rw [Rm.want,HLL.out];exact((BZ.out.set 7 (.slice x0 s.nd s.nd)).set 8 (.slice x1 s.nc s.nc)).set 9 (.slice x2 s.nr s.nr)
     . exact(HH.out.soc.new (KN.out.then_ K3.out)).keep k6 fun j hj=>nR j (HH.out.lsoc j hj)
     . intro j hj
       match j,hj with
       | 0,_=>exact(R0.out.keep K3.out id).keep k6 (nR _ x0R)
       | 1,_=>exact(R1'.out.keep K3.out id).keep k6 (nR _ x1R)
       | 2,_=>exact(R2.out.keep K3.out id).keep k6 (nR _ x2R)
     . rw [Rm.want,HLL.out];exact ST.out.keep k6 nR
     . intro j hj
       match j,hj with
       | 0,_=>exact x0R
       | 1,_=>exact x1R
       | 2,_=>exact x2R
end
end Go.Proofs.YtpekoejdnhaohaaGreatDoor
