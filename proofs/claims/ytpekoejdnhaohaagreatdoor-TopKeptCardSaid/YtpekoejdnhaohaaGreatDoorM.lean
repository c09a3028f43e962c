/- What posting, answering, doing and ticking the hardware leave, and its making. For every hardware in memory. -/
import Derived.Test.YtpekoejdnhaohaaGreatDoorK
namespace Go.Proofs.YtpekoejdnhaohaaGreatDoor
open Go.RowKit Tryz
set_option maxRecDepth 100000
set_option maxHeartbeats 40000000
set_option linter.all false
variable {s:AE} {b:Hb} {x:Hw} {t:Int} {xs:List Value} {G H L M T c k n:Nat} {lab lab5:Nat->Lb} {fb fc fn fs pb:Nat->Nat} {fa:Nat->Option Addr} {a:Option Addr} {w w5 wr:World}
namespace AH
variable {w w':World} {lab lab':Nat->Lb} {s:AE} {b:Hb} {x:Hw} {S:Nat->Prop}
theorem relab (h:AH w lab s b x) (e:∀j,j<w.heap.size->lab' j=lab j):AH w lab' s b x:=by
 obtain⟨qs,hb,hq⟩:=h.bus;refine⟨h.h,h.d,h.tree,h.grid,h.lines,⟨qs,hb,fun i hi=>⟨(hq i hi).1,fun j ej=>⟨by rw [e j ((hq i hi).2 j ej).2];exact((hq i hi).2 j ej).1,((hq i hi).2 j ej).2⟩⟩⟩,h.file,h.port,
  ?_,?_,?_,?_,?_,?_,?_,?_⟩
 . rw [e _ h.h.lt,e _ h.d.lt];exact h.lh
 . rw [e _ h.tree.t.lt,e _ h.tree.d.lt];exact h.lt
 . intro i hi hm;rw [e _ (h.tree.f i hi hm).lt];exact h.lf i hi hm
 . rw [e _ h.grid.g.lt,e _ h.grid.d.lt];exact h.lg
 . rw [e _ h.lines.f.lt,e _ h.lines.lt];exact h.ll
 . rw [e _ hb.lb,e _ hb.r.lt,e _ hb.q.lt];exact h.lb
 . intro i hi;have f:=h.file i hi;have l:=h.lfile i hi;refine⟨by rw [e _ f.f.lt];exact l.1,by rw [e _ f.now.lt];exact l.2.1,by rw [e _ f.saved.lt];exact l.2.2.1,fun j ej hp=>?_⟩;obtain⟨bm,e1,r,_⟩:=f.made (by omega);have:bm=j:=by rw [e1] at ej;injection ej with ej;injection ej
   subst this;rw [e _ r.lt];exact l.2.2.2 _ ej hp
 . intro i hi;rw [e _ (AF.lt (h.port i hi))];exact h.lport i hi
theorem setBus (h:AH w lab s b x) (k:AD S w w') (D:Nat) (hS:∀j,S j->lab j= .bus∨lab j= .que D) {qs:Nat->Value} {m:Nat} {p:Int} (g:Ab w' b.B b.gr b.gw s.nv (fun i=>((s.dv i).nreg:Int)) qs p)
 (old:∀i,i<s.nv->i≠D->El w (qs i) (x.m i) (x.xs i)∧(∀j,(qs i).ownBlock=some j->lab j= .que i∧j<w.heap.size)) (hq:El w' (qs D) m xs) (own:∀j,(qs D).ownBlock=some j->lab j= .que D∧j<w'.heap.size):
 AH w' lab s b { x with m:=upd x.m D m,xs:=upd x.xs D xs,posted:=p }:=
 ⟨h.h.keep k (fun e=>by rcases hS _ e with e | e <;> (rw [h.lh.1] at e;cases e)),h.d.keep k (fun e=>by rcases hS _ e with e | e <;> (rw [h.lh.2] at e;cases e)),h.tree_keep k (fun j e hs=>by rcases hS j hs with r | r <;> (rw [r] at e;cases e)),h.grid_keep k (fun j e hs=>by rcases hS j hs with r | r <;> (rw [r] at e;cases e)),h.lines_keep k (fun j e hs=>by rcases hS j hs with r | r <;> (rw [r] at e;cases e)),
  ⟨qs,g,fun i hi=>by
   by_cases e:i=D
   . subst e;show El w' (qs i) (upd x.m i m i) (upd x.xs i xs i)∧_;rw [upd_same,upd_same];exact⟨hq,own⟩
   . show El w' (qs i) (upd x.m D m i) (upd x.xs D xs i)∧_;rw [uo_ e,uo_ e];obtain⟨o1,o2⟩:=old i hi e;refine⟨o1.keep k fun j ej hs=>?_,fun j ej=>⟨(o2 j ej).1,Bo (o2 j ej).2 k.size⟩⟩;rcases hS j hs with r | r <;> rw [(o2 j ej).1] at r
     . cases r
     . injection r with _ r;exact e r⟩,
  fun i hi=>h.file_keep k i hi (fun j e hs=>by rcases hS j hs with r | r <;> (rw [r] at e;cases e)),fun i hi=>h.port_keep k i hi (fun j e hs=>by rcases hS j hs with r | r <;> (rw [r] at e;cases e)),
  h.lh,h.lt,h.lf,h.lg,h.ll,h.lb,h.lfile,h.lport⟩
end AH
section
variable {w:World} {lab:Nat->Lb} {s:AE} {b:Hb} {x:Hw}
def Nf (w:World) (lab:Nat->Lb) (s:AE) (b:Hb) (x:Hw) (p:Int) (e:Ending) (w':World):Prop:=
 e=Tl p 0∧AD (BH lab) w w'∧∃lab',(∀j,j<w.heap.size->lab' j=lab j)∧AH w' lab' s b x
theorem VT (h:AH w lab s b x) (L:Ai w) (W D R:Nat) (q:Bool) (v:Int) (hW:W<4294967296) (hs:MI W (D:Int) (R:Int)) (hD:D<s.nv) (hR:R<(s.dv D).nreg) (hn:(s.dv D).nreg<=4) (ha:x.ca D=0) (k0:0<=x.posted) (k1:x.posted<=1000) (h4:x.m D<4):
 Calls prog 360 #[.pointer b.H, .int .u32 W, .bool q, .int .u32 v] w (Nf w lab s b { x with m:=upd x.m D (x.m D+1),xs:=upd x.xs D (x.xs D++RX x.posted q R v),posted:=x.posted+1 } x.posted):=by
 have H:=Ae h;have HS:=Ae hs;have KR:=Ae hR;have l4:Er 0=114:=rfl;obtain⟨N,hN⟩:=ex ((s.dv D).nreg);have HN:=Ae hN;rw [hN] at hR hn;have HA:=Ae ha;clear h hs hN ha;go_in;go_wp2_with fail;refine(Ku _ hW rfl HS.out).mono ?_;rintro e w2 ⟨rfl,m2⟩;have k2:=m2.new;have h2:=H.out.new k2;have c3:=h2.c3;have c4:=h2.c4;have d4:w2.cell? (b.dv (D*6+4))=some (.pointer (b.fb D)):=h2.d.cell D 4 hD (by omega);have d5:w2.cell? (b.dv (D*6+5))=some (.pointer (b.pb D)):=h2.d.cell D 5 hD (by omega);have P:=h2.port D hD;rw [HA.out] at P;have KP:=Ae P;have H2:=Ae h2;have L2:=L.keep k2 id;have K2:=Ae k2;clear m2 k2 h2 P;go_wp2_with fail;refine mn_ (GA H2.out D hD) ?_;have F:=H2.out.file D hD;unfold D6 at F;rw [HN.out] at F;have KF:=Ae F;clear F;go_wp2_with fail;refine mn_ (E8 KF.out) ?_;go_wp2_with fail;refine(Lz KP.out L2 (by omega)).mono ?_;rintro e w3 ⟨rfl,rfl⟩;rw [l4];go_wp2_with fail;obtain⟨qs,hb,hq⟩:=H2.out.bus;have LB:=H2.out.lb;have hown:=(hq D hD).2;refine(post_q (fun j=>lab j= .bus∨lab j= .que D) hb (.inl LB.1) (.inl LB.2.2) W D R q v _ hW HS.out hD rfl (by rw [HN.out];omega) k0 k1 h4 (fun j e=>?_) (fun j e=> .inr (hown j e).1) (hq D hD).1).mono ?_
 . have e2:=(hown j e).1;refine⟨fun e3=>?_,fun e3=>?_,fun e3=>?_⟩
   . rw [e3,LB.1] at e2;cases e2
   . rw [e3,LB.2.1] at e2;cases e2
   . rw [e3,LB.2.2] at e2;cases e2
 rintro e w4 ⟨u,g,rfl,k4,b4,q4,ow4,fresh⟩;have FIN:Nf w lab s b { x with m:=upd x.m D (x.m D+1),xs:=upd x.xs D (x.xs D++RX x.posted q R v),posted:=x.posted+1 } x.posted (Tl x.posted 0) w4:=by
  have hz:=K2.out.size;have same:∀j,j<w3.heap.size->(if j=g then Lb.que D else lab j)=lab j:=fun j hj=>by
   by_cases e:j=g
   . subst e;rw [if_pos rfl];rcases fresh with f | f
     . exact(hown j f).1.symm
     . omega
   . rw [if_neg e]
  refine⟨rfl,(K2.out.mono (fun _ h=>h.elim)).then_ (k4.mono fun j e=>?_),fun j=>if j=g then .que D else lab j,fun j hj=>same j (by omega),?_⟩
  . rcases e with e | e <;> (show(lab j).isHard=true;rw [e];rfl)
  . skip
    have hr:=H2.out.relab same;have hg:g<w4.heap.size:=by
     obtain⟨g',off,c,hv,_,_,hl,_⟩:=q4.open (by omega) (by omega);rw [hv] at ow4;have ow5:some g'=some g:=ow4;injection ow5 with ow5;omega
    have hSold:∀j,(lab j= .bus∨lab j= .que D)->j<w3.heap.size->(if j=g then Lb.que D else lab j)= .bus∨(if j=g then Lb.que D else lab j)= .que D:=fun j e hj=>by rw [same j hj];exact e
    refine hr.setBus (S:=fun j=>(lab j= .bus∨lab j= .que D)∧j<w3.heap.size) ⟨k4.os,k4.tape,k4.output,k4.size,fun j hj hn=>k4.block j hj (fun e=>hn ⟨e,hj⟩)⟩ D (fun j e=>hSold j e.1 e.2) b4 (fun i hi e=>?_) ?_ ?_
    . rw [if_neg e];exact⟨(hq i hi).1,fun j ej=>⟨by rw [same j ((hq i hi).2 j ej).2];exact((hq i hi).2 j ej).1,((hq i hi).2 j ej).2⟩⟩
    . rw [if_pos rfl];exact q4
    . rw [if_pos rfl];intro j ej;rw [ow4] at ej;injection ej with ej;subst ej;exact⟨if_pos rfl,hg⟩
 have KFIN:=Ae FIN;clear FIN k4 b4 q4 ow4 fresh hb hq hown LB;go_wp2;go_ret2;exact KFIN.out
def FX (s:AE) (x:Hw) (i:Nat):Bool:=Ar x.ns s.nc (s.dv i).clock&&((x.ds (s.dv i).dom).phase==49)&&!(x.ls (s.dv i).line).held
theorem IX (h:AH w lab s b x) (hs:s.Ok) (i:Nat) (hi:i<s.nv) (hm:∀i,i<s.nc->(x.ns i).kind≠111->0<(x.ns i).m) {r:Bool} (hr:FX s x i=r):
 Calls prog 91 #[.pointer b.H, .int .i64 i] w fun e w'=>e= .returned (.bool r)∧AJ w w':=by
 have c4:=h.c4;have d0:w.cell? (b.dv (i*6))=some (.int .i64 (s.dv i).clock):=h.d.cell i 0 hi (by omega);have d1:w.cell? (b.dv (i*6+1))=some (.int .i64 (s.dv i).dom):=h.d.cell i 1 hi (by omega);have d2:w.cell? (b.dv (i*6+2))=some (.int .i64 (s.dv i).line):=h.d.cell i 2 hi (by omega);have d3:w.cell? (b.dv (i*6+3))=some (.int .u32 (s.dv i).clamp):=h.d.cell i 3 hi (by omega);have d4:w.cell? (b.dv (i*6+4))=some (.pointer (b.fb i)):=h.d.cell i 4 hi (by omega);have d5:w.cell? (b.dv (i*6+5))=some (.pointer (b.pb i)):=h.d.cell i 5 hi (by omega);have hc:=hs.clock i hi;have hd:=hs.dom i hi;have hl:=hs.line i hi;obtain⟨C,hC⟩:∃C,(s.dv i).clock=C:=⟨_,rfl⟩;obtain⟨D,hD⟩:∃C,(s.dv i).dom=C:=⟨_,rfl⟩;obtain⟨R,hR⟩:∃C,(s.dv i).line=C:=⟨_,rfl⟩;unfold FX at hr;rw [hC] at d0 hc hr;rw [hD] at d1 hd hr;rw [hR] at d2 hl hr;obtain⟨r1,h1⟩:=ex (Ar x.ns s.nc C);obtain⟨r2,h2⟩:=ex ((x.ds D).phase);obtain⟨r3,h3⟩:=ex ((x.ls R).held);rw [h1,h2,h3] at hr;have H:=Ae h;have HM:=Ae hm;have H1:=Ae h1;have H2:=Ae h2;have H3:=Ae h3;have HR:=Ae hr;clear h hm h1 h2 h3 hr hC hD hR;go_in;go_wp2_with fail;refine(GA H.out i hi).mono ?_;rintro e w1 ⟨rfl,rfl⟩;go_wp2_with fail;obtain⟨B,hB⟩:∃B,w1.heap.size=B:=⟨_,rfl⟩;obtain⟨W,hW⟩:∃W,w1.alloc (.cells #[.int .i64 (C:Int), .int .i64 (D:Int), .int .i64 (R:Int), .int .u32 (s.dv i).clamp, .pointer (some (b.fb i 0)), .pointer (some (b.pb i 0))] 111)=W:=⟨_,rfl⟩;have BB:=AF.new w1 [.int .i64 (C:Int), .int .i64 (D:Int), .int .i64 (R:Int), .int .u32 (s.dv i).clamp, .pointer (some (b.fb i 0)), .pointer (some (b.pb i 0))] 111;have KA:=(nr w1).alloc (.cells #[.int .i64 (C:Int), .int .i64 (D:Int), .int .i64 (R:Int), .int .u32 (s.dv i).clamp, .pointer (some (b.fb i 0)), .pointer (some (b.pb i 0))] 111);have hW':w1.alloc (.cells [.int .i64 C, .int .i64 D, .int .i64 R, .int .u32 (s.dv i).clamp, .pointer (b.fb i), .pointer (b.pb i)].toArray 111)=W:=hW;rw [hW',hB] at BB;rw [hW] at KA;rw [hW,hB];have HW:=H.out.new KA;have a0:∀u:Dn W,u.w.cell? (b.H 0)=some (.pointer (some (b.T 0))):=fun u=>(HW.new u.k).c0;have a1:∀u:Dn W,u.w.cell? (b.H 1)=some (.pointer (some (b.G 0))):=fun u=>(HW.new u.k).c1;have a2:∀u:Dn W,u.w.cell? (b.H 2)=some (.pointer (some (b.L 0))):=fun u=>(HW.new u.k).c2;have b0:∀u:Dn W,u.w.cell? (B 0)=some (.int .i64 C):=fun u=>(BB.keep u.k id).cell 0;have b1:∀u:Dn W,u.w.cell? (B 1)=some (.int .i64 D):=fun u=>(BB.keep u.k id).cell 1;have b2:∀u:Dn W,u.w.cell? (B 2)=some (.int .i64 R):=fun u=>(BB.keep u.k id).cell 2;have KA:=Ae KA;have HW:=Ae HW;clear hW hW' hB c4 d0 d1 d2 d3 d4 d5 BB;cases r1
 . refine FG (by kernel_rfl) (by kernel_rfl) ?_
   repeat (go_big_quiet_step (first | (go_at_call 151;exact Calls.newq (Dq (HW.out.new (Dn.k _)).tree HM.out C hc H1.out))))
   refine wpQuiet_nil ?_;intro _ hw';obtain⟨nx,hw''⟩:=hw';subst hw'';go_wp2;go_ret;exact⟨by rw [<-HR.out];rfl,KA.out.then_ nx.k⟩
 . by_cases e2:r2=49
   . subst e2;refine FG (by kernel_rfl) (by kernel_rfl) ?_
     repeat (go_big_quiet_step (first | (go_at_call 151;exact Calls.newq (Dq (HW.out.new (Dn.k _)).tree HM.out C hc H1.out)) | (go_at_call 152;exact Calls.newq_same (IY (HW.out.new (Dn.k _)).grid D hd H2.out)) | (go_at_call 153;exact Calls.newq (Le (HW.out.new (Dn.k _)).lines R hl H3.out))))
     refine wpQuiet_nil ?_;intro _ hw';obtain⟨nx,hw''⟩:=hw';subst hw'';go_wp2;go_ret;exact⟨by rw [<-HR.out];simp,KA.out.then_ nx.k⟩
   . have e3:(r2==49)=false:=by simp [e2]
     refine FG (by kernel_rfl) (by kernel_rfl) ?_
     repeat (go_big_quiet_step (first | (go_at_call 151;exact Calls.newq (Dq (HW.out.new (Dn.k _)).tree HM.out C hc H1.out)) | (go_at_call 152;exact Calls.newq_same (IY (HW.out.new (Dn.k _)).grid D hd H2.out))))
     refine wpQuiet_nil ?_;intro _ hw';obtain⟨nx,hw''⟩:=hw';subst hw'';go_wp2;go_ret;exact⟨by rw [<-HR.out];simp [e2],KA.out.then_ nx.k⟩
end
def labF (w:World) (lab:Nat->Lb):Nat->Lb:=fun j=>if j<w.heap.size then lab j else .obj 0
theorem YA {j:Nat} (h:j<w.heap.size):labF w lab j=lab j:=if_pos h
theorem AH.fresh (h:AH w lab s b x):AH w (labF w lab) s b x:=h.relab fun j hj=>YA hj
section
variable {w:World} {lab:Nat->Lb} {s:AE} {b:Hb} {x:Hw}
abbrev Yw (id dev:Int) (v:Int):Value:= .agg #[.int .i64 id, .int .i64 dev, .bool false, .int .u32 v]
theorem Qn (h:AH w lab s b x) (i:Nat) (hi:i<s.nv) (h0:x.m i=0):
 Calls prog 155 #[.pointer b.H, .int .i64 i] w fun e w'=>e= .returned (.tuple #[Yw 0 0 0, .bool false])∧AJ w w':=by
 have H:=Ae h;have H0:=Ae h0;have KA:=(nr w).alloc (.cells #[.int .i64 0, .int .i64 0, .bool false, .int .u32 0] 53);have BB:=AF.new w [.int .i64 0, .int .i64 0, .bool false, .int .u32 0] 53;have hA:=h.new KA;have c3:=hA.c3;have HA:=Ae hA;have KA:=Ae KA;have BB:=Ae BB;clear h h0 hA;go_in;go_wp2_with fail;obtain⟨qs,hb,hq⟩:=HA.out.bus;obtain⟨a,c,hv⟩:=(hq i hi).1.form;refine(Ua hb i hi hv (by rw [H0.out];omega)).mono ?_;rintro e w2 ⟨rfl,m2⟩;have K2:=Ae m2.new;have z0:=(BB.out.keep K2.out id).z 0;have z1:=(BB.out.keep K2.out id).z 1;have z2:=(BB.out.keep K2.out id).z 2;have z3:=(BB.out.keep K2.out id).z 3;have f0:=(BB.out.keep K2.out id).frozen 0;have f1:=(BB.out.keep K2.out id).frozen 1;have f2:=(BB.out.keep K2.out id).frozen 2;have f3:=(BB.out.keep K2.out id).frozen 3;have lz:=(BB.out.keep K2.out id).lt;clear hb hq hv m2;go_wp2_with fail;refine bodyPost_ret (v:= .tuple #[Yw 0 0 0, .bool false]) (by simp [results,results155,go_sem,z0,z1,z2,z3,lz]) rfl ⟨rfl,?_⟩;have KK:=KA.out.then_ K2.out
 repeat (first | exact KK | refine AD.alloc ?_ _ | refine AD.setCell (p:=⟨_,_,none⟩) ?_ (fun h=>absurd h (by simp;try omega)) _)
def Fl.after (f:Fl) (q:Bool) (r:Nat) (v:Int):Fl:=if q then { f with now:=upd f.now r v } else f
def We (w:World) (lab:Nat->Lb) (s:AE) (b:Hb) (x:Hw) (tid:Int) (i:Nat) (v:Int) (e:Ending) (w':World):Prop:=
 e= .returned (.tuple #[Yw tid i v, .bool true])∧AD (BH lab) w w'∧AH w' lab s b x
theorem OU (h:AH w lab s b x) (hfr:lab w.heap.size= .obj 0) (hs:s.Ok) (i:Nat) (hi:i<s.nv) (hm:∀i,i<s.nc->(x.ns i).kind≠111->0<(x.ns i).m) (al:FX s x i=true) (tid:Int) (q:Bool) (r:Nat) (v:Int) (h1:x.m i=1) (hx:x.xs i=RX tid q r v) (hr:r<(s.dv i).nreg):
 Calls prog 155 #[.pointer b.H, .int .i64 i] w (We w lab s b { x with m:=upd x.m i 0,xs:=upd x.xs i [],posted:=x.posted,fl:=upd x.fl i ((x.fl i).after q r v) } tid i ((x.fl i).now r)):=by
 have H:=Ae h;have KA:=(nr w).alloc (.cells #[.int .i64 0, .int .i64 0, .bool false, .int .u32 0] 53);have BB:=AF.new w [.int .i64 0, .int .i64 0, .bool false, .int .u32 0] 53;have hA:=h.new KA;have c3:=hA.c3;obtain⟨F,hF⟩:=ex (x.fl i);obtain⟨N,hN⟩:=ex (F.now r);have KF:=Ae hF;have KN:=Ae hN;have HA:=Ae hA;have KA:=Ae KA;have BB:=Ae BB;have HM:=Ae hm;have AL:=Ae al;have HX:=Ae hx;have HR:=Ae hr;rw [hF,hN];have H1:=Ae h1;have FR:=Ae hfr;clear h hA hm al hx hr hF hN h1 hfr;go_in;go_wp2_with fail;obtain⟨qs,hb,hq⟩:=HA.out.bus;have LB:=HA.out.lb;have hown:=(hq i hi).2;have hQ:=(hq i hi).1;rw [H1.out,HX.out] at hQ;have hgw:b.gw<w.heap.size:=by obtain⟨_,hb0,_⟩:=H.out.bus;exact hb0.q.lt
 refine(take_q (fun j=>(lab j= .bus∨lab j= .que i)∧j<w.heap.size) hb ⟨.inl LB.2.2,hgw⟩ i hi (m:=0) (xs:=[]) (by omega) tid r v q (fun j e=>?_) (by simpa using hQ)).mono ?_
 . have e2:=(hown j e).1;intro e3;rw [e3,LB.2.2] at e2;cases e2
 rintro e w2 ⟨rfl,v',k2,b2,q2,ow2⟩;have h2:=HA.out.setBus k2 i (fun j e=>e.1) b2 (fun j hj e=>by rw [if_neg e];exact hq j hj) (by rw [if_pos rfl];exact q2) (by rw [if_pos rfl];intro j ej;rw [ow2] at ej;exact⟨(hown j ej).1,Bo (hown j ej).2 k2.size⟩);have KS:=(KA.out.mono (fun _ h=>h.elim)).then_ (k2.mono (T:=BH lab) fun j e=>by rcases e.1 with e | e <;> (show(lab j).isHard=true;rw [e];rfl));have B2:=BB.out.keep k2 (fun e=>absurd e.2 (DE _));obtain⟨y,hy⟩:=ex ({ x with m:=upd x.m i 0,xs:=upd x.xs i [],posted:=x.posted }:Hw);rw [hy] at h2;have AY:AG (FX s y i=true):=⟨by rw [<-hy];exact AL.out⟩;have MY:AG (∀i,i<s.nc->(y.ns i).kind≠111->0<(y.ns i).m):=⟨by rw [<-hy];exact HM.out⟩;have FY:AG (y.fl i=F):=⟨by rw [<-hy];exact KF.out⟩;have EY:AG (({ x with m:=upd x.m i 0,xs:=upd x.xs i [],posted:=x.posted,fl:=upd x.fl i (F.after q r v) }:Hw)={ y with fl:=upd y.fl i (F.after q r v) }):=⟨by rw [<-hy]⟩;have lz:w.heap.size<w2.heap.size:=B2.lt;have c4:=h2.c4;have d0:w2.cell? (b.dv (i*6))=some (.int .i64 (s.dv i).clock):=h2.d.cell i 0 hi (by omega);have d1:w2.cell? (b.dv (i*6+1))=some (.int .i64 (s.dv i).dom):=h2.d.cell i 1 hi (by omega);have d2:w2.cell? (b.dv (i*6+2))=some (.int .i64 (s.dv i).line):=h2.d.cell i 2 hi (by omega);have d3:w2.cell? (b.dv (i*6+3))=some (.int .u32 (s.dv i).clamp):=h2.d.cell i 3 hi (by omega);have d4:w2.cell? (b.dv (i*6+4))=some (.pointer (b.fb i)):=h2.d.cell i 4 hi (by omega);have d5:w2.cell? (b.dv (i*6+5))=some (.pointer (b.pb i)):=h2.d.cell i 5 hi (by omega);have lH:=h2.h.lt;have lV:=h2.d.lt;have KS:=Ae KS;have B2:=Ae B2;have H2:=Ae h2;clear hb hq hown hQ k2 b2 q2 ow2 LB h2 hy c3 hgw;go_wp2_with fail;obtain⟨P,hP⟩:=ex w2.heap.size;obtain⟨W,hW⟩:=ex ((w2.alloc (.cells #[.int .i64 tid, .bool q, .int .i64 r, .int .u32 v] 305)).alloc (.cells #[.int .i64 ((s.dv i).clock:Int), .int .i64 ((s.dv i).dom:Int), .int .i64 ((s.dv i).line:Int), .int .u32 (s.dv i).clamp, .pointer (b.fb i), .pointer (b.pb i)] 111));have BT:=(AF.new w2 [.int .i64 tid, .bool q, .int .i64 r, .int .u32 v] 305).alloc (.cells #[.int .i64 ((s.dv i).clock:Int), .int .i64 ((s.dv i).dom:Int), .int .i64 ((s.dv i).line:Int), .int .u32 (s.dv i).clamp, .pointer (b.fb i), .pointer (b.pb i)] 111);have BD:=AF.new (w2.alloc (.cells #[.int .i64 tid, .bool q, .int .i64 r, .int .u32 v] 305)) [.int .i64 ((s.dv i).clock:Int), .int .i64 ((s.dv i).dom:Int), .int .i64 ((s.dv i).line:Int), .int .u32 (s.dv i).clamp, .pointer (b.fb i), .pointer (b.pb i)] 111;have KT:=((nr w2).alloc (.cells #[.int .i64 tid, .bool q, .int .i64 (r:Int), .int .u32 v] 305)).alloc (.cells #[.int .i64 ((s.dv i).clock:Int), .int .i64 ((s.dv i).dom:Int), .int .i64 ((s.dv i).line:Int), .int .u32 (s.dv i).clamp, .pointer (some (b.fb i 0)), .pointer (some (b.pb i 0))] 111);have hW1:(w2.alloc (.cells [.int .i64 tid, .bool q, .int .i64 r, .int .u32 v].toArray 305)).alloc (.cells #[.int .i64 ((s.dv i).clock:Int), .int .i64 ((s.dv i).dom:Int), .int .i64 ((s.dv i).line:Int), .int .u32 (s.dv i).clamp, .pointer (b.fb i), .pointer (b.pb i)] 111)=W:=hW;have hW2:(w2.alloc (.cells #[.int .i64 tid, .bool q, .int .i64 r, .int .u32 v] 305)).alloc (.cells [.int .i64 ((s.dv i).clock:Int), .int .i64 ((s.dv i).dom:Int), .int .i64 ((s.dv i).line:Int), .int .u32 (s.dv i).clamp, .pointer (b.fb i), .pointer (b.pb i)].toArray 111)=W:=hW;rw [hW1,hP] at BT;rw [hW2,Ay,hP] at BD;rw [hW] at KT;rw [hW,hP];have H3:=Ae (H2.out.new KT);have B3:=Ae (B2.out.keep KT id);have BT:=Ae BT;have BD:=Ae BD;have KT:=Ae KT;clear hW hW1 hW2 c4 d0 d1 d2 d3 d4 d5 lH lV;refine(IX H3.out hs i hi MY.out AY.out).mono ?_;rintro e w4 ⟨rfl,k4⟩;have H4:=H3.out.new k4;have T4:=BT.out.keep k4 id;have D4:=BD.out.keep k4 id;have B4:=B3.out.keep k4 id;have t0:=T4.z 0;have t1:=T4.z 1;have t2:=T4.z 2;have t3:=T4.z 3;have e4:=D4.z 4;have H4:=Ae H4;have B4:=Ae B4;have T4:=Ae T4;have D4:=Ae D4;have K4:=Ae ((KS.out.then_ (KT.out.mono (fun _ h=>h.elim))).then_ (k4.mono (fun _ h=>h.elim)));have lz4:=B4.out.lt;clear k4;go_wp2_with fail;have hfl:=H4.out.file i hi;rw [FY.out] at hfl;refine mn_ (Ve hfl r HR.out KN.out) ?_;have HF:=Ae hfl;clear hfl;cases q
 . have KFIN:=K4;have BFIN:=B4;have HFIN:=Ae (H4.out.setFile (nr _) i (fun j e=>e.elim) (f:=F.after false r v) HF.out);have z0:=BFIN.out.z 0;have z1:=BFIN.out.z 1;have z2:=BFIN.out.z 2;have z3:=BFIN.out.z 3;have f0:=BFIN.out.frozen 0;have f1:=BFIN.out.frozen 1;have f2:=BFIN.out.frozen 2;have f3:=BFIN.out.frozen 3;go_wp2_with fail;refine bodyPost_ret (v:= .tuple #[Yw tid i N, .bool true]) (by simp [results,results155,go_sem,z0,z1,z2,z3]) rfl ?_;refine⟨rfl,?_,?_⟩
   . have KK:=KFIN.out
     repeat (first | exact KK | refine AD.alloc ?_ _ | refine AD.setCell (p:=⟨_,_,none⟩) ?_ (fun h=>absurd h (by simp;try omega)) _)
   . rw [EY.out];refine HFIN.out.keep (S:=(· =w.heap.size)) ?_ (fun j e e2=>by subst e2;rw [FR.out] at e;cases e);exact(((keeps_set _).then_ (keeps_set _)).then_ (keeps_set _)).then_ (keeps_set _)
 . go_wp2_with fail;refine(Sj HF.out r HR.out v).mono ?_;rintro e w6 ⟨rfl,k6,f6⟩;have LF:=(H4.out.lfile i hi).2.1;have nbn:w.heap.size≠b.fn i:=fun e=>by rw [<-e,FR.out] at LF;cases LF
   have KFIN:=Ae (K4.out.then_ (k6.mono (T:=BH lab) fun j e=>by subst e;show(lab (b.fn i)).isHard=true;rw [LF];rfl));have BFIN:=Ae (B4.out.keep k6 nbn);have HFIN:=Ae (H4.out.setFile k6 i (fun j e=>by subst e;exact LF) (f:=F.after true r v) f6);have PNE:P≠b.fn i:=by have:=(H2.out.file i hi).now.lt;omega
   have u0:=(T4.out.keep k6 PNE).z 0;clear k6 f6;have z0:=BFIN.out.z 0;have z1:=BFIN.out.z 1;have z2:=BFIN.out.z 2;have z3:=BFIN.out.z 3;have f0:=BFIN.out.frozen 0;have f1:=BFIN.out.frozen 1;have f2:=BFIN.out.frozen 2;have f3:=BFIN.out.frozen 3;go_wp2_with fail;refine bodyPost_ret (v:= .tuple #[Yw tid i N, .bool true]) (by simp [results,results155,go_sem,z0,z1,z2,z3]) rfl ?_;refine⟨rfl,?_,?_⟩
   . have KK:=KFIN.out
     repeat (first | exact KK | refine AD.alloc ?_ _ | refine AD.setCell (p:=⟨_,_,none⟩) ?_ (fun h=>absurd h (by simp;try omega)) _)
   . rw [EY.out];refine HFIN.out.keep (S:=(· =w.heap.size)) ?_ (fun j e e2=>by subst e2;rw [FR.out] at e;cases e);exact(((keeps_set _).then_ (keeps_set _)).then_ (keeps_set _)).then_ (keeps_set _)
end
def Fl.deed (t:Int) (d:Dv) (f:Fl):Fl:=
 if t=115 then { f with saved:=J6 (fun j=>(d.reg j).ret) f.now f.saved,kept:=true }
 else if t=114 then { f with now:=Bi (fun j=>(d.reg j).reset) (fun j=>(d.reg j).ret) f.saved f.kept }
 else if t=108∨t=110 then { f with now:=fun j=>(d.reg j).reset,kept:=false }
 else f
def Lx (t:Int):Nat:=if t=115 then 227 else if t=114 then 228 else 74
theorem ent227:Fu 227:=fun _ _=>by kernel_rfl
theorem ent228:Fu 228:=fun _ _=>by kernel_rfl
theorem ent74:Fu 74:=fun _ _=>by kernel_rfl
theorem Yc (t:Int):Fu (Lx t):=by
 unfold Lx;split
 . exact ent227
 . split
   . exact ent228
   . exact ent74
def Qw (t:Int):Prop:=t=115∨t=114∨t=108∨t=110
theorem Vr (ht:Qw t) (W:World) (i:Nat) (f:Fl) (h:D6 W s b i f):
 Calls prog (Lx t) #[.pointer (b.fb i)] W fun e w'=>e= .returned (.tuple #[])∧AD (fun j=>j=b.fb i∨j=b.fn i∨j=b.fs i) W w'∧D6 w' s b i (f.deed t (s.dv i)):=by
 rcases ht with rfl | rfl | rfl | rfl
 . exact(Vd h).mono fun e w' ⟨h1,h2,h3⟩=>⟨h1,h2.mono fun j e=>by rcases e with e | e;exact .inl e;exact .inr (.inr e),h3⟩
 . exact(Ob h).mono fun e w' ⟨h1,h2,h3⟩=>⟨h1,h2.mono fun j e=> .inr (.inl e),h3⟩
 . exact(Cz h).mono fun e w' ⟨h1,h2,h3⟩=>⟨h1,h2.mono fun j e=>by rcases e with e | e;exact .inl e;exact .inr (.inl e),h3⟩
 . exact(Cz h).mono fun e w' ⟨h1,h2,h3⟩=>⟨h1,h2.mono fun j e=>by rcases e with e | e;exact .inl e;exact .inr (.inl e),h3⟩
theorem yC (ht:Qw t) (w:World):Calls prog 160 #[.int .u8 t] w fun e w'=>e= .returned (.func (.func (Lx t)) #[] #[])∧w'=w:=by
 rcases ht with rfl | rfl | rfl | rfl
 all_goals go_in
 all_goals go_wp2_with fail
 all_goals go_ret
 all_goals exact⟨rfl,rfl⟩
theorem Vq (w:World):Calls prog 160 #[.int .u8 111] w fun e w'=>e= .returned .nilFunc∧w'=w:=by
 go_in;go_wp2;go_ret;exact⟨rfl,rfl⟩
def RH (ds:Nat->Dm):Nat->List (Int × Nat)
 | 0=>[]
 | k+1=>RH ds k++(if(ds k).told=0 then [] else [((ds k).told,k)])
def Ff (e:Int × Nat):List Value:=[.int .u8 e.1, .int .i64 e.2]
theorem Mt (ds:Nat->Dm):∀n,I9 ds n=(RH ds n).flatMap Ff:=by
 intro n
 induction n with
 | zero=>rfl
 | succ n ih=>
  unfold I9 RH;rw [ih,List.flatMap_append];by_cases h:(ds n).told=0
  . rw [if_pos h,if_pos h];simp
  . rw [if_neg h,if_neg h];simp [Ff]
theorem evs_lt (ds:Nat->Dm):∀n e,e ∈ RH ds n->e.2<n∧e.1=(ds e.2).told∧e.1≠0:=by
 intro n
 induction n with
 | zero=>intro e h;cases h
 | succ n ih=>
  intro e h;unfold RH at h;rcases List.mem_append.1 h with h | h
  . have:=ih e h;exact⟨by omega,this.2⟩
  . by_cases h0:(ds n).told=0
    . rw [if_pos h0] at h;cases h
    . rw [if_neg h0] at h;rcases Dz.1 h with rfl;exact⟨by show n<n+1;omega,rfl,h0⟩
theorem RZ (d:Dm):d.told=0∨d.told=111∨Qw d.told:=by
 unfold Dm.told Qw;split
 . split
   . exact .inl rfl
   . split
     . exact .inr (.inr (.inr (.inl rfl)))
     . exact .inr (.inr (.inr (.inr (.inr rfl))))
 . split
   . exact .inr (.inl rfl)
   . split
     . split
       . exact .inr (.inr (.inl rfl))
       . exact .inr (.inr (.inr (.inr (.inl rfl))))
     . exact .inl rfl
theorem V8 (l:List (Int × Nat)):(l.flatMap Ff).length=l.length*2:=by
 induction l with
 | nil=>rfl
 | cons a l ih=>rw [List.flatMap_cons,CX,ih];simp [Ff];omega
theorem V9:∀ (l:List (Int × Nat)) (i:Nat) (e:Int × Nat),l[i]?=some e->(l.flatMap Ff)[i*2]?=some (.int .u8 e.1)∧(l.flatMap Ff)[i*2+1]?=some (.int .i64 e.2):=by
 intro l
 induction l with
 | nil=>intro i e h;simp at h
 | cons a l ih=>
  intro i e h
  cases i with
  | zero=>
   simp at h;subst h
   simp [List.flatMap_cons,Ff]
  | succ i=>
   simp at h;have:=ih i e h;rw [List.flatMap_cons,show(i+1)*2=i*2+2 by omega];simpa [Ff] using this
def Ce (s:AE) (fl:Nat->Fl) (e:Int × Nat) (k:Nat):Nat->Fl:=fun i=>if i<k∧(s.dv i).dom=e.2 then(fl i).deed e.1 (s.dv i) else fl i
theorem Q0 (s:AE) (fl:Nat->Fl) (e:Int × Nat):Ce s fl e 0=fl:=by funext i;simp [Ce]
theorem Vs (s:AE) (fl:Nat->Fl) (e:Int × Nat) (k:Nat):Ce s fl e k k=fl k:=by simp [Ce]
theorem Su (s:AE) (fl:Nat->Fl) (e:Int × Nat) (k:Nat) (h:(s.dv k).dom=e.2):upd (Ce s fl e k) k ((fl k).deed e.1 (s.dv k))=Ce s fl e (k+1):=by
 funext i;by_cases c:i=k
 . subst c;rw [upd_same];simp [Ce,h]
 . rw [uo_ c];unfold Ce;by_cases a:i<k
   . simp [a,show i<k+1 by omega]
   . simp [a,show¬i<k+1 by omega]
theorem Q5 (s:AE) (fl:Nat->Fl) (e:Int × Nat) (k:Nat) (h:(s.dv k).dom≠e.2):Ce s fl e k=Ce s fl e (k+1):=by
 funext i;unfold Ce;by_cases c:i=k
 . subst c;simp [h]
 . by_cases a:i<k
   . simp [a,show i<k+1 by omega]
   . simp [a,show¬i<k+1 by omega]
def Hf (s:AE) (fl:Nat->Fl) (l:List (Int × Nat)):Nat->Fl:=l.foldl (fun fl e=>Ce s fl e s.nv) fl
theorem Lw (s:AE) (fl:Nat->Fl) (l:List (Int × Nat)) (i:Nat) (e:Int × Nat) (h:l[i]?=some e):Hf s fl (l.take (i+1))=Ce s (Hf s fl (l.take i)) e s.nv:=by
 unfold Hf;rw [List.take_add_one,h,List.foldl_append];rfl
theorem Ss (t:Int) (d:Dv) (f:Fl) (h:t=111):f.deed t d=f:=by subst h;rfl
theorem Q3 (s:AE) (fl:Nat->Fl) (d k:Nat):Ce s fl (111,d) k=fl:=by
 funext i;unfold Ce;split
 . exact Ss _ _ _ rfl
 . rfl
theorem info53:inf_ prog 53=some (some (.agg #[.int .i64 0, .int .i64 0, .bool false, .int .u32 0]),4,24):=by kernel_rfl
structure yY (s:AE) (x:Hw) (D:Nat) (tid:Int) (q:Bool) (r:Nat) (v:Int):Prop where
 no:∀i,i<s.nv->i≠D->x.m i=0
 m:D<s.nv->x.m D=1
 xs:D<s.nv->x.xs D=RX tid q r v
 r:D<s.nv->r<(s.dv D).nreg
 al:D<s.nv->FX s x D=true
def Hw.pop (x:Hw) (D:Nat) (q:Bool) (r:Nat) (v:Int):Hw:={ x with m:=upd x.m D 0,xs:=upd x.xs D [],posted:=x.posted,fl:=upd x.fl D ((x.fl D).after q r v) }
def Hw.popTo (x:Hw) (D:Nat) (q:Bool) (r:Nat) (v:Int) (k:Nat):Hw:=if D<k then x.pop D q r v else x
def J2 (x:Hw) (D:Nat) (tid:Int) (r:Nat) (k:Nat):List Value:=if D<k then [.int .i64 tid, .int .i64 D, .bool false, .int .u32 ((x.fl D).now r)] else []
def FJ (D k:Nat):Nat:=if D<k then 1 else 0
theorem Xb (x:Hw) (D:Nat) (q:Bool) (r:Nat) (v:Int):x.popTo D q r v D=x:=if_neg (DE _)
theorem Rs (x:Hw) (D:Nat) (q:Bool) (r:Nat) (v:Int):x.popTo D q r v (D+1)=x.pop D q r v:=if_pos (Nat.lt_succ_self _)
theorem Ph (x:Hw) (D:Nat) (q:Bool) (r:Nat) (v:Int) (h:k≠D):x.popTo D q r v (k+1)=x.popTo D q r v k:=by
 unfold Hw.popTo;by_cases e:D<k
 . rw [if_pos e,if_pos (by omega)]
 . rw [if_neg e,if_neg (by omega)]
theorem zB (x:Hw) (D:Nat) (q:Bool) (r:Nat) (v:Int) (h:k≠D):(x.popTo D q r v k).m k=x.m k:=by
 unfold Hw.popTo;split
 . exact uo_ h
 . rfl
theorem PN (D:Nat):FJ D D=0:=if_neg (DE _)
theorem Km (D:Nat):FJ D (D+1)=1:=if_pos (Nat.lt_succ_self _)
theorem J1 (D:Nat) (h:k≠D):FJ D (k+1)=FJ D k:=by
 unfold FJ;by_cases e:D<k
 . rw [if_pos e,if_pos (by omega)]
 . rw [if_neg e,if_neg (by omega)]
theorem Wu (x:Hw) (D:Nat) (tid:Int) (r:Nat):J2 x D tid r D=[]:=if_neg (DE _)
theorem Ra (x:Hw) (D:Nat) (tid:Int) (r:Nat):J2 x D tid r (D+1)=[.int .i64 tid, .int .i64 D, .bool false, .int .u32 ((x.fl D).now r)]:=if_pos (Nat.lt_succ_self _)
theorem PO (x:Hw) (D:Nat) (tid:Int) (r:Nat) (h:k≠D):J2 x D tid r (k+1)=J2 x D tid r k:=by
 unfold J2;by_cases e:D<k
 . rw [if_pos e,if_pos (by omega)]
 . rw [if_neg e,if_neg (by omega)]
def Hw.ports (x:Hw) (k:Nat):Hw:={ x with ca:=fun j=>if j<k then En (x.ca j) else x.ca j,cd:=fun j=>if j<k then Ib (x.ca j) (x.cd j) else x.cd j }
theorem Rq (x:Hw):x.ports 0=x:=by simp [Hw.ports]
theorem Rr (x:Hw) (k:Nat):({ x.ports k with ca:=upd (x.ports k).ca k (En (x.ca k)),cd:=upd (x.ports k).cd k (Ib (x.ca k) (x.cd k)) }:Hw)=x.ports (k+1):=by
 unfold Hw.ports;simp only [Hw.mk.injEq,true_and,and_true];refine⟨?_,?_⟩
 . funext j;by_cases e:j=k
   . subst e;rw [upd_same,if_pos (Nat.lt_succ_self _)]
   . rw [uo_ e];by_cases h:j<k
     . rw [if_pos h,if_pos (by omega)]
     . rw [if_neg h,if_neg (by omega)]
 . funext j;by_cases e:j=k
   . subst e;rw [upd_same,if_pos (Nat.lt_succ_self _)]
   . rw [uo_ e];by_cases h:j<k
     . rw [if_pos h,if_pos (by omega)]
     . rw [if_neg h,if_neg (by omega)]
theorem Pg (x:Hw) (k:Nat):(x.ports k).ca k=x.ca k∧(x.ports k).cd k=x.cd k:=by simp [Hw.ports]
theorem Uu {D:Nat} {tid:Int} {q:Bool} {r:Nat} {v:Int} (h:yY s x D tid q r v):∀i,i<s.nv->(x.popTo D q r v s.nv).m i=0:=by
 intro i hi;unfold Hw.popTo;split
 . by_cases e:i=D
   . subst e;exact upd_same _ _ _
   . exact(uo_ e).trans (h.no i hi e)
 . exact h.no i hi (by omega)
structure ZF (s:AE) (x:Hw):Prop where
 mux:∀i,i<s.nc->(x.ns i).kind=109->(x.ns i).want=(x.ns i).set
 left:∀i,i<s.nc->0<=(x.ns i).left∧(x.ns i).left<=1000
 dleft:∀i,i<s.nd->0<=(x.ds i).left∧(x.ds i).left<=1000
 lleft:∀i,i<s.nr->0<=(x.ls i).left∧(x.ls i).left<=1000
theorem xQ (ds:Nat->Dm):∀n,(RH ds n).length<=n:=by
 intro n
 induction n with
 | zero=>exact al11_ _
 | succ n ih=>
  unfold RH;rw [CX];split
  . simp;omega
  . simp;omega
def Hw.tick (s:AE) (x:Hw) (D:Nat) (q:Bool) (r:Nat) (v:Int):Hw:=
 { (x.popTo D q r v s.nv).ports s.nv with ns:=EC x.ns s.nc s.nc,ds:=C9 x.ds s.nd,ls:=Fp x.ls s.nr,fl:=Hf s (x.popTo D q r v s.nv).fl (RH x.ds s.nd) }
def Wc (w:World) (lab:Nat->Lb) (s:AE) (b:Hb) (x:Hw) (D:Nat) (tid:Int) (q:Bool) (r:Nat) (v:Int) (e:Ending) (w':World):Prop:=
 ∃ao c,e= .returned (.slice ao (FJ D s.nv) c)∧AD (BH lab) w w'∧AH w' lab s b (x.tick s D q r v)∧w'.ownsRow w.heap.size 53 4 (.slice ao (FJ D s.nv) c) (FJ D s.nv) (J2 x D tid r s.nv)
theorem xR (W:World):(binOp .eql 239 .nilFunc .nilFunc).run prog W= .ok (.bool true) W:=by kernel_rfl
theorem YZ (fn:Nat) (W:World):(binOp .eql 239 (.func (.func fn) #[] #[]) .nilFunc).run prog W= .ok (.bool false) W:=by kernel_rfl
section
variable {w:World} {lab:Nat->Lb} {s:AE} {b:Hb} {x:Hw}
theorem Sd (h:AH w lab s b x) (hfr:∀j,w.heap.size<=j->lab j= .obj 0) (hs:s.Ok) (hm:∀i,i<s.nc->(x.ns i).kind≠111->0<(x.ns i).m) (D:Nat) (tid:Int) (q:Bool) (r:Nat) (v:Int) (hp:yY s x D tid q r v) (ht:ZF s x):
 Calls prog 92 #[.pointer b.H, .int .u32 0] w (Wc w lab s b x D tid q r v):=by
 obtain⟨i0,KI,KZ0,KZ1,KZ2⟩:=ik_ info53;have c4:=h.c4;have nv:=hs.v2;have H:=Ae h;have FR:=Ae hfr;have HS:=Ae hs;have HM:=Ae hm;have HP:=Ae hp;have TK:=Ae ht;clear h hfr hs hm hp ht;go_in;go_wp2_with fail;refine(DU H.out).mono ?_;rintro e w' ⟨rfl,rfl⟩;go_wp2_with fail;clear c4;obtain⟨w,rfl⟩:∃W,W=w':=⟨_,rfl⟩;go_loopw [24,5] (fun i t wr=>∃k:Nat,k<=s.nv∧i= .int .i64 k∧∃a c,t= .slice a (FJ D k) c∧AD (BH lab) w wr∧AH wr lab s b (x.popTo D q r v k)∧wr.ownsRow w.heap.size 53 4 (.slice a (FJ D k) c) (FJ D k) (J2 x D tid r k)) (fun i _ _=>s.nv - (intOf i).toNat);case atStart=>exact⟨0,by omega,rfl,none,0,rfl,kx_,H.out,Gs⟩
 case round=>
  obtain⟨k,hk,rfl,a,c,rfl,kp,hh,op⟩:=hrel;have KP:=Ae kp;have HH:=Ae hh;have OP:=Ae op;clear kp hh op;by_cases hlt:k<s.nv
  . go_wp2_with fail;by_cases hD:k=D
    . subst hD;have hz:=KP.out.size;have hh:=HH.out;have op:=OP.out;rw [Xb] at hh;rw [Wu,PN] at op;rw [PN];clear OP HH;refine(OU hh (FR.out _ hz) HS.out k hlt HM.out (HP.out.al hlt) tid q r v (HP.out.m hlt) (HP.out.xs hlt) (HP.out.r hlt)).mono ?_;rintro e w2 ⟨rfl,k2,h2⟩;have KO:=Ae (BN op k2 (fun j hj e=>by have e':(lab j).isHard=true:=e;rw [FR.out j hj] at e';cases e'));have KP2:=Ae (KP.out.then_ k2);have H2:=Ae h2;have hz2:=k2.size;obtain⟨N,hN⟩:=ex ((x.fl k).now r);have KN:=Ae hN;rw [hN];clear op k2 h2 hh hN;go_wp2_with (at_builtin;refine wpList_append_own _ rfl (.tmp 34) (.tmp 36) 205 rfl w.heap.size 53 i0 _ 4 24 underlying205 KI.out KZ0.out KZ1.out KZ2.out rfl (by decide) _ _ _ rfl ((KO.out.alloc _).alloc _) ((w2.heap.size+1) 0) 1 1 [.int .i64 tid, .int .i64 k, .bool false, .int .u32 N] rfl rfl (Gt (w2.alloc (.cells #[.int .i64 tid, .int .i64 k, .bool false, .int .u32 N] 53)) [.int .i64 tid, .int .i64 k, .bool false, .int .u32 N] 53 _ (by simp)) (by simp [Value.oneCell']) (by unfold maxLen;omega) (by omega) (by simp;omega) ?_;intro v' w3 own3 grow3 _;obtain⟨ao',c',hv⟩:=AI own3;subst hv;have KO3:=Ae own3;have KK:=Ae ((((AD.refl (fun j=>some j=(Value.slice a 0 c).ownBlock) w2).alloc (.cells #[.int .i64 tid, .int .i64 k, .bool false, .int .u32 N] 53)).alloc (.cells #[.int .i64 tid, .int .i64 k, .bool false, .int .u32 N] 53)).grown grow3 (fun j e _=>e.symm));clear own3 grow3);have hrow:∀j,some j=(Value.slice a 0 c).ownBlock->w.heap.size<=j:=fun j e=>(KO.out.lt j e.symm).1;go_roundw;case rel=>
       refine⟨k+1,by omega,by go_num,ao',c',by rw [Km],KP2.out.trans KK.out (fun j hj e=>absurd (hrow j e) (by omega)),?_,?_⟩
       . rw [Rs];exact H2.out.keep KK.out (fun j e e2=>by rw [FR.out j (hrow j e2)] at e;cases e)
       . rw [Km,Ra,KN.out];exact KO3.out
      case measure=>simp [intOf];omega
    . have hz:=KP.out.size;refine(Qn HH.out k hlt (by rw [zB _ _ _ _ _ hD];exact HP.out.no k hlt hD)).mono ?_;rintro e w2 ⟨rfl,k2⟩;have KO:=Ae (BN OP.out k2 (fun j hj=>id));have KP2:=Ae (KP.out.then_ (k2.mono (fun _ h=>h.elim)));have H2:=Ae (HH.out.new k2);clear k2;go_wp2;go_roundw;case rel=>exact⟨k+1,by omega,by go_num,a,c,by rw [J1 _ hD],KP2.out.alloc _,by rw [Ph _ _ _ _ _ hD];exact H2.out.new ((AD.refl _ w2).alloc _),by rw [J1 _ hD,PO _ _ _ _ hD];exact KO.out.alloc _⟩
      case measure=>simp [intOf];omega
  . have hkn:k=s.nv:=by omega
    subst hkn;have M0:=Ae (Uu HP.out);obtain⟨y,hy⟩:=ex (x.popTo D q r v s.nv);rw [hy] at M0 HH;have HY:=Ae hy;have c4:=HH.out.c4;clear hy;go_wp2_with fail;clear c4;obtain⟨W2,rfl⟩:∃W,W=wr:=⟨_,rfl⟩;go_loopw [44] (fun i wr=>∃k:Nat,k<=s.nv∧i= .int .i64 k∧AD (BH lab) W2 wr∧AH wr lab s b (y.ports k)) (fun i _=>s.nv - (intOf i).toNat);case atStart=>exact⟨0,by omega,rfl,kx_,by rw [Rq];exact HH.out⟩
    case round=>
     obtain⟨i,hk,rfl,kp,hh⟩:=hrel;have KP2:=Ae kp;have HH2:=Ae hh;clear kp hh;by_cases hlt:i<s.nv
     . have d0:wr.cell? (b.dv (i*6))=some (.int .i64 (s.dv i).clock):=HH2.out.d.cell i 0 hlt (by omega);have d1:wr.cell? (b.dv (i*6+1))=some (.int .i64 (s.dv i).dom):=HH2.out.d.cell i 1 hlt (by omega);have d2:wr.cell? (b.dv (i*6+2))=some (.int .i64 (s.dv i).line):=HH2.out.d.cell i 2 hlt (by omega);have d3:wr.cell? (b.dv (i*6+3))=some (.int .u32 (s.dv i).clamp):=HH2.out.d.cell i 3 hlt (by omega);have d4:wr.cell? (b.dv (i*6+4))=some (.pointer (b.fb i)):=HH2.out.d.cell i 4 hlt (by omega);have d5:wr.cell? (b.dv (i*6+5))=some (.pointer (b.pb i)):=HH2.out.d.cell i 5 hlt (by omega);go_wp2_with fail;obtain⟨P,hP⟩:=ex wr.heap.size;obtain⟨W,hW⟩:∃W,wr.alloc (.cells #[.int .i64 ((s.dv i).clock:Int), .int .i64 ((s.dv i).dom:Int), .int .i64 ((s.dv i).line:Int), .int .u32 (s.dv i).clamp, .pointer (some (b.fb i 0)), .pointer (some (b.pb i 0))] 111)=W:=⟨_,rfl⟩;have BD:=AF.new wr [.int .i64 ((s.dv i).clock:Int), .int .i64 ((s.dv i).dom:Int), .int .i64 ((s.dv i).line:Int), .int .u32 (s.dv i).clamp, .pointer (some (b.fb i 0)), .pointer (some (b.pb i 0))] 111;have KT:=(nr wr).alloc (.cells #[.int .i64 ((s.dv i).clock:Int), .int .i64 ((s.dv i).dom:Int), .int .i64 ((s.dv i).line:Int), .int .u32 (s.dv i).clamp, .pointer (some (b.fb i 0)), .pointer (some (b.pb i 0))] 111);have hW2:wr.alloc (.cells [.int .i64 ((s.dv i).clock:Int), .int .i64 ((s.dv i).dom:Int), .int .i64 ((s.dv i).line:Int), .int .u32 (s.dv i).clamp, .pointer (b.fb i), .pointer (b.pb i)].toArray 111)=W:=hW;rw [hW2,hP] at BD;rw [hW] at KT;rw [hW,hP];have H3:=Ae (HH2.out.new KT);have c3:=H3.out.c3;have e5:=BD.z 5;have KT:=Ae KT;clear hW hW2 d0 d1 d2 d3 d4 d5 BD;obtain⟨qs,hb,hq⟩:=H3.out.bus;obtain⟨aq,cq,hv⟩:=(hq i hlt).1.form;have HB:=Ae hb;have HV:AG (qs i= .slice aq 0 cq):=⟨by rw [hv];exact congrArg (fun m=>Value.slice aq m cq) (M0.out i hlt)⟩;clear hb hq hv;have z0:(0:Nat)>>>i=0:=Nat.zero_shiftRight i;go_still_tail 14,(by kernel_rfl)
       still_call (Kk HB.out.drew i hlt HV.out)
       repeat still_step
       refine wpStill_nil ?_;change wpList _ _ _ _ _ W.drew;clear c3 e5;go_wp2_with fail;refine(WC (AF.drew (H3.out.port i hlt))).mono ?_;rintro e w4 ⟨rfl,k4,g4⟩;have LP:=H3.out.lport i hlt;have KP4:=Ae ((KP2.out.then_ ((KT.out.mono (fun _ h=>h.elim)).drew)).then_ (k4.mono (T:=BH lab) fun j e=>by subst e;show(lab (b.pb i)).isHard=true;rw [LP];rfl));have H4:=(H3.out.new (AD.refl _ W).drew).setPort k4 i (fun j e=>by subst e;exact LP) g4;rw [(Pg y i).1,(Pg y i).2,Rr] at H4;have H4:=Ae H4;clear k4 g4;go_wp2;go_roundw;case rel=>exact⟨i+1,by omega,by go_num,KP4.out,H4.out⟩
       case measure=>simp [intOf];omega
     . have hkn:i=s.nv:=by omega
       subst hkn;have MX:AG (∀i,i<s.nc->(y.ns i).kind≠111->0<(y.ns i).m):=⟨by rw [<-HY.out];unfold Hw.popTo;split <;> exact HM.out⟩;obtain⟨z,hz⟩:=ex (y.ports s.nv);rw [hz] at HH2;have HZ:=Ae hz;clear hz;have c0:=HH2.out.c0;go_wp2_with fail;clear c0;have EZ:AG (z.ns=x.ns∧z.ds=x.ds∧z.ls=x.ls):=⟨by rw [<-HZ.out, <-HY.out];unfold Hw.ports Hw.popTo;split <;> exact⟨rfl,rfl,rfl⟩⟩;refine(UZ HH2.out.tree (by rw [EZ.out.1];exact HM.out) (by rw [EZ.out.1];exact TK.out.mux) (by rw [EZ.out.1];exact TK.out.left)).mono ?_;rintro e w3 ⟨rfl,k3,g3⟩;have LG:=HH2.out.lt.2;have H3:=HH2.out.setTree k3 (fun j e=>by subst e;exact LG) g3 (fun i hi=>by
        unfold EC;rw [if_pos hi];exact⟨(Nd.tick_same _ _).1,(Nd.tick_same _ _).2.1⟩)
       have K3:=KP2.out.then_ (k3.mono (T:=BH lab) fun j e=>by subst e;show(lab b.gn).isHard=true;rw [LG];rfl);have H3:=Ae H3;have K3:=Ae K3;have c1:=H3.out.c1;clear k3 g3;go_wp2_with fail;clear c1;refine(VW H3.out.grid (by show ∀i,i<s.nd->0<=(z.ds i).left∧(z.ds i).left<=1000;rw [EZ.out.2.1];exact TK.out.dleft)).mono ?_;rintro e w4 ⟨ae,ce,me,rfl,k4,g4,o4⟩;have LD:=H3.out.lg.2;have H4:=Ae (H3.out.setGrid k4 (fun j e=>by subst e;exact LD) g4);have K4:=Ae (K3.out.then_ (k4.mono (T:=BH lab) fun j e=>by subst e;show(lab b.gd).isHard=true;rw [LD];rfl));have O4:=Ae o4;obtain⟨zz,hzz⟩:=ex ({ z with ns:=EC z.ns s.nc s.nc,ds:=C9 z.ds s.nd }:Hw);have H4':AH w4 lab s b zz:=by rw [<-hzz];exact H4.out
       have H4:=Ae H4';have ZZ:=Ae hzz;obtain⟨L,hL⟩:=ex (RH z.ds s.nd);have LL:AG (L.length=me):=⟨by have:=o4.1;rw [Mt,V8,hL] at this;omega⟩;have EV:AG (∀e ∈ L,e.1=111∨Qw e.1):=⟨fun e he=>by
        rw [<-hL] at he;obtain⟨_,e1,e2⟩:=evs_lt _ _ _ he;rcases RZ (z.ds e.2) with h | h
        . exact absurd (e1.trans h) e2
        . rw [e1];exact h⟩
       have CE:AG (∀k ev,L[k]?=some ev->(I9 z.ds s.nd)[k*2]?=some (.int .u8 ev.1)∧(I9 z.ds s.nd)[k*2+1]?=some (.int .i64 ev.2)):=⟨fun k ev h=>by rw [Mt,hL];exact V9 L k ev h⟩;have hz3:w.heap.size<=w3.heap.size:=by have:=KP.out.size;have:=K3.out.size;omega
       have hz4:w.heap.size<=w4.heap.size:=by have:=KP.out.size;have:=K4.out.size;omega
       have me8:me<=1000000:=by
        have h1:=xQ z.ds s.nd;have h2:=HS.out.d2;rw [hL,LL.out] at h1;omega
       have HL:=Ae hL;clear k4 g4 o4 hzz hL H4';go_wp2;go_loopw [76] (fun i wr=>∃k:Nat,k<=me∧i= .int .i64 k∧AD (BH lab) w4 wr∧AH wr lab s b { zz with fl:=Hf s zz.fl (L.take k) }) (fun i _=>me - (intOf i).toNat);case atStart=>exact⟨0,by omega,rfl,kx_,H4.out⟩
       case round=>
        obtain⟨k,hk,rfl,kp,hh⟩:=hrel;have KP5:=Ae kp;have H5:=Ae hh;by_cases hlt:k<me
        . have O5:=BN O4.out kp (fun j hj e=>by have e':(lab j).isHard=true:=e;rw [FR.out j (by omega)] at e';cases e');obtain⟨g,cg,hv⟩:=Joins.ownsRow_form O5 (by omega);injection hv with hv1 hv2 hv3;subst hv1 hv3;obtain⟨ev,hev⟩:∃ev,L[k]?=some ev:=⟨_,List.getElem?_eq_getElem (by rw [LL.out];exact hlt)⟩;have hkind:=EV.out ev (List.mem_of_getElem? hev);have x0:wr.cell? (g (k*2))=some (.int .u8 ev.1):=by have:=O5.cells rfl _ _ (CE.out k ev hev).1;rw [Af,Ag] at this;exact this
          have x1:wr.cell? (g (k*2+1))=some (.int .i64 ev.2):=by have:=O5.cells rfl _ _ (CE.out k ev hev).2;rw [Af,Ag] at this;exact this
          obtain⟨t,dm⟩:=ev;have HEV:=Ae hev;have HK:=Ae hkind;dsimp only at x0 x1;clear hev hkind kp hh O5;go_wp2_with fail;rcases HK.out with h111 | hd
          . have h111':t=111:=h111;subst h111';refine mn_ (Vq _) ?_;have heq:=fun W=>xR W;go_wp2;go_roundw;case rel=>exact⟨k+1,by omega,by go_num,KP5.out.alloc _,by rw [Lw s zz.fl L k _ HEV.out,Q3];exact H5.out.new ((kx_).alloc _)⟩
            case measure=>simp [intOf];omega
          . have hd':Qw t:=hd;obtain⟨B,hB⟩:=ex wr.heap.size;obtain⟨W,hW⟩:=ex (wr.alloc (.cells #[.int .u8 t, .int .i64 dm] 238));have BE:=AF.new wr [.int .u8 t, .int .i64 dm] 238;have KT:=(AD.refl (BH lab) wr).alloc (.cells #[.int .u8 t, .int .i64 dm] 238);have hW':wr.alloc (.cells [.int .u8 t, .int .i64 dm].toArray 238)=W:=hW;rw [hW',hB] at BE;rw [hW] at KT;rw [hW,hB];have hzB:w.heap.size<=B:=by have:=KP5.out.size;omega
            have BE:=Ae BE;have H6:=Ae (H5.out.new (AD.mono ((nr wr).alloc (.cells #[.int .u8 t, .int .i64 dm] 238)) (fun _ h=>h)));rw [hW] at H6;have KT5:=Ae (KP5.out.then_ KT);have HD:=Ae hd';have eg:=Yc t;obtain⟨fn,hfn⟩:=ex (Lx t);have DI:AG (∀w,Calls prog 160 #[.int .u8 t] w fun e w'=>e= .returned (.func (.func fn) #[] #[])∧w'=w):=⟨fun w=>by rw [<-hfn];exact yC hd' w⟩;have DC:AG (∀W i f,D6 W s b i f->Calls prog fn #[.pointer (some (b.fb i 0))] W fun e w'=>e= .returned (.tuple #[])∧AD (fun j=>j=b.fb i∨j=b.fn i∨j=b.fs i) W w'∧D6 w' s b i (f.deed t (s.dv i))):=⟨by rw [<-hfn];exact Vr hd'⟩;rw [hfn] at eg;have EG:=Ae eg;have x8:=BE.out.z 1;clear hW hW' hB hfn eg hd hd' HK x0 x1;refine(DI.out _).mono ?_;rintro e w6 ⟨rfl,rfl⟩;obtain⟨FL,hFL⟩:=ex (Hf s zz.fl (L.take k));rw [hFL] at H6;have HFL:=Ae hFL;have c4:=H6.out.c4;clear hFL;have heq:=fun W=>YZ fn W;go_wp2_with fail;clear heq c4 x8;obtain⟨W6,rfl⟩:∃W6,W6=w6:=⟨_,rfl⟩;obtain⟨W5,rfl⟩:∃W5,W5=wr:=⟨_,rfl⟩;go_loopw [90] (fun i wr=>∃j:Nat,j<=s.nv∧i= .int .i64 j∧AD (BH lab) W6 wr∧AH wr lab s b { zz with fl:=Ce s FL (t,dm) j }) (fun i _=>s.nv - (intOf i).toNat);case atStart=>exact⟨0,by omega,rfl,kx_,by rw [Q0];exact H6.out⟩
            case round=>
             obtain⟨j,hj,rfl,kp,hh⟩:=hrel;have KP7:=Ae kp;have H7:=Ae hh;have B7:=Ae (BE.out.keep kp (fun e=>by have e':(lab B).isHard=true:=e;rw [FR.out B hzB] at e';cases e'));clear kp hh;by_cases hlt2:j<s.nv
             . obtain⟨C,hC⟩:∃C,(s.dv j).dom=C:=⟨_,rfl⟩;have HC:=Ae hC;have d0:wr.cell? (b.dv (j*6))=some (.int .i64 (s.dv j).clock):=H7.out.d.cell j 0 hlt2 (by omega);have d1:wr.cell? (b.dv (j*6+1))=some (.int .i64 (s.dv j).dom):=H7.out.d.cell j 1 hlt2 (by omega);have d2:wr.cell? (b.dv (j*6+2))=some (.int .i64 (s.dv j).line):=H7.out.d.cell j 2 hlt2 (by omega);have d3:wr.cell? (b.dv (j*6+3))=some (.int .u32 (s.dv j).clamp):=H7.out.d.cell j 3 hlt2 (by omega);have d4:wr.cell? (b.dv (j*6+4))=some (.pointer (b.fb j)):=H7.out.d.cell j 4 hlt2 (by omega);have d5:wr.cell? (b.dv (j*6+5))=some (.pointer (b.pb j)):=H7.out.d.cell j 5 hlt2 (by omega);have y1:=cv_ (.int .i64 (dm:Int)) (B7.out.cell 1);have lB:=B7.out.lt;rw [hC] at d1;clear hC;by_cases hdm:C=dm
               . subst hdm;have eg:=EG.out;unfold Fu at eg;go_wp2_with fail;obtain⟨W,hW⟩:=ex (wr.alloc (.cells #[.int .i64 ((s.dv j).clock:Int), .int .i64 C, .int .i64 ((s.dv j).line:Int), .int .u32 (s.dv j).clamp, .pointer (b.fb j), .pointer (b.pb j)] 111));have H8:=Ae (H7.out.new (AD.alloc (nr wr) (.cells #[.int .i64 ((s.dv j).clock:Int), .int .i64 C, .int .i64 ((s.dv j).line:Int), .int .u32 (s.dv j).clamp, .pointer (b.fb j), .pointer (b.pb j)] 111)));have K8:=Ae (KP7.out.alloc (.cells #[.int .i64 ((s.dv j).clock:Int), .int .i64 C, .int .i64 ((s.dv j).line:Int), .int .u32 (s.dv j).clamp, .pointer (b.fb j), .pointer (b.pb j)] 111));rw [hW] at H8 K8;rw [hW];clear hW;have F8:=H8.out.file j hlt2;rw [show({ zz with fl:=Ce s FL (t,C) j }:Hw).fl j=FL j from Vs _ _ _ _] at F8;refine(DC.out _ _ _ F8).mono ?_;rintro e w9 ⟨rfl,k9,f9⟩;have LF:=H8.out.lfile j hlt2;have H9:=H8.out.setFile k9 j (fun i e=>by rcases e with e | e | e <;> subst e;exact LF.1;exact LF.2.1;exact LF.2.2.1) f9;have K9:=Ae (K8.out.then_ (k9.mono (T:=BH lab) fun i e=>by
                  show(lab i).isHard=true;rcases e with e | e | e
                  . rw [e,LF.1];rfl
                  . rw [e,LF.2.1];rfl
                  . rw [e,LF.2.2.1];rfl))
                 have E9:=Su s FL (t,C) j HC.out;have H9:=Ae H9;clear F8 k9 f9;go_wp2;go_roundw;case rel=>exact⟨j+1,by omega,by go_num,K9.out,by rw [<-E9];exact H9.out⟩
                 case measure=>simp [intOf];omega
               . have hne:¬(C:Int)=(dm:Int):=by omega
                 have MS:=Q5 s FL (t,dm) j (fun e=>hdm (HC.out.symm.trans e));have MS:=Ae MS;go_wp2;go_roundw;case rel=>exact⟨j+1,by omega,by go_num,KP7.out.alloc _,by rw [<-MS.out];exact H7.out.new (AD.alloc (AD.refl _ wr) _)⟩
                 case measure=>simp [intOf];omega
             . have hjn:j=s.nv:=by omega
               subst hjn;go_wp2;go_roundw;case rel=>exact⟨k+1,by omega,by go_num,KT5.out.then_ KP7.out,by rw [Lw s zz.fl L k _ HEV.out,HFL.out];exact H7.out⟩
               case measure=>simp [intOf];omega
        . have hkm:k=me:=by omega
          subst hkm;rw [<-LL.out,List.take_length] at hh;have H5:=Ae hh;have c2:=H5.out.c2;clear kp hh;go_wp2_with fail;clear c2;refine(SG H5.out.lines (by show ∀i,i<s.nr->0<=(zz.ls i).left∧(zz.ls i).left<=1000;rw [<-ZZ.out];show ∀i,i<s.nr->0<=(z.ls i).left∧(z.ls i).left<=1000;rw [EZ.out.2.2];exact TK.out.lleft)).mono ?_;rintro e w9 ⟨⟨_,rfl⟩,k9,g9⟩;have LM:=H5.out.ll.2;have H9:=Ae (H5.out.setLines k9 (fun j e=>by subst e;exact LM) g9);have K9:=Ae ((K4.out.then_ KP5.out).then_ (k9.mono (T:=BH lab) fun j e=>by subst e;show(lab b.mb).isHard=true;rw [LM];rfl));have O9:=Ae (BN OP.out K9.out (fun j hj e=>by have e':(lab j).isHard=true:=e;rw [FR.out j hj] at e';cases e'));have EX:({ zz with fl:=Hf s zz.fl L,ls:=Fp zz.ls s.nr }:Hw)=x.tick s D q r v:=by
           rw [<-HL.out, <-ZZ.out];show({ z with ns:=EC z.ns s.nc s.nc,ds:=C9 z.ds s.nd,fl:=Hf s z.fl (RH z.ds s.nd),ls:=Fp z.ls s.nr }:Hw)=_;rw [EZ.out.1,EZ.out.2.1,EZ.out.2.2, <-HZ.out, <-HY.out];rfl
          have EX:=Ae EX;clear k9 g9;go_wp2;go_ret;exact⟨a,c,rfl,KP.out.then_ K9.out,by rw [<-EX.out];exact H9.out,O9.out⟩
end
section
attribute [local go_sem] BI Fx
theorem xG:inf_ prog 111=some (some (.agg #[.int .i64 0, .int .i64 0, .int .i64 0, .int .u32 0, .pointer none, .pointer none]),6,48):=by kernel_rfl
def Hw.new (s:AE) (fb fc:Nat->Nat):Hw:=
 ⟨fun i=>Nd.new (s.ck i) (fb i) (fc i),fun i=>Dm.new (s.dm i),fun i=>Ln.new (s.rs i),fun i=>⟨fun j=>((s.dv i).reg j).reset,fun _=>0,false⟩,fun _=>0,fun _=>0,fun _=>0,fun _=>[],0⟩
structure Ng (w5:World) (lab5:Nat->Lb) (s:AE) (H M T G L:Nat) (k:Nat) (wr:World) (lab:Nat->Lb) (a:Option Addr) (c:Nat) (fb fn fs:Nat->Nat) (fa:Nat->Option Addr) (fc pb:Nat->Nat):Prop where
 kp:AD (fun j=>j=H∨j=M) w5 wr
 hb:AF wr H 103 [.pointer T, .pointer G, .pointer L, .pointer none, .slice a k c]
 own:wr.ownsRow (M+1) 111 6 (.slice a k c) k (Av k 6 (fun i=>GD (s.dv i) (fb i) (pb i)))
 many:wr.rowIs M 3 s.nv (fun i=> .int .i64 (if i<k then((s.dv i).nreg:Int) else 0))
 file:∀i,i<k->AV wr (fb i) (fn i) (fs i) (fa i) (s.dv i).nreg (fc i) (fun j=>((s.dv i).reg j).reset) (fun j=>((s.dv i).reg j).ret) (fun j=>((s.dv i).reg j).reset) (fun _=>0) false
 port:∀i,i<k->Df wr (pb i) 0 0
 old:∀j,j<=M->lab j=lab5 j
 lfile:∀i,i<k->lab (fb i)= .file i∧lab (fn i)= .file i∧lab (fs i)= .file i∧∀j,fa i=some ⟨j,0,none⟩->0<(s.dv i).nreg->lab j= .file i
 lport:∀i,i<k->lab (pb i)= .port i
 la:∀g,a=some ⟨g,0,none⟩->lab g= .obj 0
 fresh:∀j,wr.heap.size<=j->lab j= .obj 0
def Ey (lab:Nat->Lb) (lo mid k:Nat) (p:Nat) (j:Nat):Lb:=if j<lo then lab j else if j<mid then .file k else if j=p then .port k else .obj 0
theorem Cx {K:Nat} {f g:Nat->Nat->Value} (h:∀i j,i<n->j<K->f i j=g i j):Av n K f=Av n K g:=by
 induction n with
 | zero=>rfl
 | succ n ih=>
  rw [BM,BM,ih fun i j hi hj=>h i j (by omega) hj];congr 1;refine List.map_congr_left fun j hj=>h n j (by omega) (List.mem_range.1 hj)
theorem Pl {base e size m g p t:Nat} {ys:List Value} (h:w.ownsRow base e size (.slice g n c) m xs) (k:AF w p t ys) (ht:t≠e):g≠p:=by
 intro e1;subst e1;rcases h.2 with⟨hv,_⟩ | ⟨g',c',cur,hv,_,hg,_⟩
 . cases hv
 . injection hv with hv;injection hv with hv;injection hv with hv;subst hv;unfold AF at k;rw [k] at hg;injection hg with hg;injection hg with _ hg;exact ht hg
theorem Ng.next {w1 w3:World} (h:Ng w5 lab5 s H M T G L k wr lab a c fb fn fs fa fc pb)
 (hHM:M=H+1) (h5:w5.heap.size=M+1) (hlH:lab5 H= .obj 0) (hlM:lab5 M= .obj 0) (hk:k<s.nv)
 (k1:AJ wr w1) {b bn bs:Nat} {am:Option Addr} {cm:Nat}
 (f:AV w1 b bn bs am (s.dv k).nreg cm (fun j=>((s.dv k).reg j).reset) (fun j=>((s.dv k).reg j).ret) (fun j=>((s.dv k).reg j).reset) (fun _=>0) false)
 (lb:wr.heap.size<=b∧wr.heap.size<=bn∧wr.heap.size<=bs∧∀bm,am=some ⟨bm,0,none⟩->(s.dv k).nreg≠0->wr.heap.size<=bm)
 {P:Nat} (hP:w1.heap.size<=P) (k13:AD (fun j=>j=M∨(Value.slice a k c).ownBlock=some j) w1 w3) (p:Df w3 P 0 0) (m3:w3.rowIs M 3 s.nv (fun i=> .int .i64 (if i<k+1 then((s.dv i).nreg:Int) else 0)))
 {g cp:Nat}
 (o3:w3.ownsRow (M+1) 111 6 (.slice g (k+1) cp) (k+1) (Av k 6 (fun i=>GD (s.dv i) (fb i) (pb i))++[.int .i64 ((s.dv k).clock:Int), .int .i64 ((s.dv k).dom:Int), .int .i64 ((s.dv k).line:Int), .int .u32 (s.dv k).clamp, .pointer b, .pointer P]))
 (hg:(Value.slice a k c).ownBlock=some g∨w1.heap.size<=g) (hgP:g≠P):
 ∃lab' fb' fn' fs' fa' fc' pb',Ng w5 lab5 s H M T G L (k+1) (w3.setCell (H 4) (.slice g (k+1) cp)) lab' (some (g 0)) cp fb' fn' fs' fa' fc' pb':=by
 have z0:=h.kp.size;have z1:=k1.size;have z3:=k13.size;have hwr:M<wr.heap.size:=by omega
 have hown:∀j,(Value.slice a k c).ownBlock=some j->lab j= .obj 0∧M<j∧j<wr.heap.size:=fun j e=>by
  obtain⟨h1,h2⟩:=h.own.lt j e;refine⟨h.la j ?_,by omega,h2⟩;rcases h.own.2 with⟨hv,_⟩ | ⟨g',c',cur,hv,_⟩
  . injection hv with hv;subst hv;cases e
  . injection hv with hv;subst hv;simp only [Value.ownBlock,Option.some.injEq] at e;rw [e]
 have hgM:M<g:=by rcases hg with e | e;exact(hown g e).2.1;omega
 have hHg:H≠g:=by omega
 have kr3:=(k1.mono fun j e=>e.elim).trans k13 fun j hj e=>e;have kset:AD (fun j=>j=H) w3 (w3.setCell (H 4) (.slice g (k+1) cp)):=keeps_set _;have kr4:AD (fun j=>(j=M∨(Value.slice a k c).ownBlock=some j)∨j=H) wr (w3.setCell (H 4) (.slice g (k+1) cp)):=(kr3.mono fun j e=> .inl e).trans kset fun j _ e=> .inr e;have hnot:∀ (j:Nat) (l:Lb),lab j=l->l≠ .obj 0->¬((j=M∨(Value.slice a k c).ownBlock=some j)∨j=H):=fun j l e hl c=>by
  rcases c with(rfl | c) | rfl
  . exact hl (e.symm.trans ((h.old _ (al11_ _)).trans hlM))
  . exact hl (e.symm.trans (hown j c).1)
  . exact hl (e.symm.trans ((h.old _ (by omega)).trans hlH))
 have k14:AD (fun j=>(j=M∨(Value.slice a k c).ownBlock=some j)∨j=H) w1 (w3.setCell (H 4) (.slice g (k+1) cp)):=(k13.mono fun j e=> .inl e).trans kset fun j _ e=> .inr e;have hnew:∀j,wr.heap.size<=j->¬((j=M∨(Value.slice a k c).ownBlock=some j)∨j=H):=fun j hj c=>by
  rcases c with(rfl | c) | rfl
  . omega
  . have:=(hown j c).2.2;omega
  . omega
 have flt:b<w1.heap.size∧bn<w1.heap.size∧bs<w1.heap.size:=⟨f.f.lt,f.now.lt,f.saved.lt⟩;have hPlt:=p.lt;have lo:∀j,j<wr.heap.size->Ey lab wr.heap.size w1.heap.size k P j=lab j:=fun j hj=>by unfold Ey;rw [if_pos hj]
 have lm:∀j,wr.heap.size<=j->j<w1.heap.size->Ey lab wr.heap.size w1.heap.size k P j= .file k:=fun j h1 h2=>by unfold Ey;rw [if_neg (by omega),if_pos h2]
 have lp:Ey lab wr.heap.size w1.heap.size k P P= .port k:=by unfold Ey;rw [if_neg (by omega),if_neg (by omega),if_pos rfl]
 have ln:∀j,w1.heap.size<=j->j≠P->Ey lab wr.heap.size w1.heap.size k P j= .obj 0:=fun j h1 h2=>by unfold Ey;rw [if_neg (by omega),if_neg (by omega),if_neg h2]
 refine⟨Ey lab wr.heap.size w1.heap.size k P,upd fb k b,upd fn k bn,upd fs k bs,upd fa k am,upd fc k cm,upd pb k P,?_⟩;refine⟨?_,?_,?_,?_,?_,?_,?_,?_,?_,?_,?_⟩
 . refine(h.kp.trans kr4 fun j hj e=>?_);rcases e with(rfl | e) | rfl
   . exact .inr rfl
   . have:=(hown j e).2.1;omega
   . exact .inl rfl
 . exact(h.hb.keep kr3 fun c=>by rcases c with c | c;exact absurd c (by omega);have:=(hown H c).2.1;omega).set 4 _
 . rw [BM];have e1:Av k 6 (fun i=>GD (s.dv i) (upd fb k b i) (upd pb k P i))=Av k 6 (fun i=>GD (s.dv i) (fb i) (pb i)):=Cx fun i j hi hj=>by rw [uo_ (by omega),uo_ (by omega)]
   rw [e1];have e2:(List.range 6).map (GD (s.dv k) (upd fb k b k) (upd pb k P k))=[.int .i64 ((s.dv k).clock:Int), .int .i64 ((s.dv k).dom:Int), .int .i64 ((s.dv k).line:Int), .int .u32 (s.dv k).clamp, .pointer b, .pointer P]:=by simp only [upd_same];rfl
   rw [e2];exact Gq o3 (fun e=>hHg e.symm)
 . exact m3.setOther (fun e=>by have e:M=H:=e;omega) _
 . intro i hi;by_cases e:i=k
   . subst e;simp only [upd_same];exact f.keep2 k14 (hnew _ lb.1) (hnew _ lb.2.1) (hnew _ lb.2.2.1) fun bm e hp=>hnew _ (lb.2.2.2 bm e (by omega))
   . simp only [uo_ e];have hi':i<k:=by omega
     have hl:=h.lfile i hi';exact(h.file i hi').keep2 kr4 (hnot _ _ hl.1 (by simp)) (hnot _ _ hl.2.1 (by simp)) (hnot _ _ hl.2.2.1 (by simp)) fun bm e hp=>hnot _ _ (hl.2.2.2 bm e hp) (by simp)
 . intro i hi;by_cases e:i=k
   . subst e;simp only [upd_same];exact AF.keep p kset (fun e=>by have:=h.hb.lt;omega)
   . simp only [uo_ e];exact AF.keep (h.port i (by omega)) kr4 (hnot _ _ (h.lport i (by omega)) (by simp))
 . intro j hj;rw [lo j (by omega)];exact h.old j hj
 . intro i hi;by_cases e:i=k
   . subst e;simp only [upd_same];refine⟨lm _ lb.1 flt.1,lm _ lb.2.1 flt.2.1,lm _ lb.2.2.1 flt.2.2,fun j e hp=>lm _ (lb.2.2.2 j e (by omega)) ?_⟩;obtain⟨bm,e1,r,_⟩:=f.made (by omega);rw [e1] at e;injection e with e;injection e with e;subst e;exact r.lt
   . simp only [uo_ e];have hi':i<k:=by omega
     have hl:=h.lfile i hi';have hf:=h.file i hi';refine⟨(lo _ hf.f.lt).trans hl.1,(lo _ hf.now.lt).trans hl.2.1,(lo _ hf.saved.lt).trans hl.2.2.1,fun j e hp=>(lo j ?_).trans (hl.2.2.2 j e hp)⟩;obtain⟨bm,e1,r,_⟩:=hf.made (by omega);rw [e1] at e;injection e with e;injection e with e;subst e;exact r.lt
 . intro i hi;by_cases e:i=k
   . subst e;simp only [upd_same];exact lp
   . simp only [uo_ e];rw [lo _ (h.port i (by omega)).lt];exact h.lport i (by omega)
 . intro g' e;injection e with e;injection e with e;subst e;rcases hg with e | e
   . rw [lo _ (hown g e).2.2];exact(hown g e).1
   . exact ln _ (by omega) (by omega)
 . intro j hj;simp only [Fg] at hj;exact ln j (by omega) (by omega)
theorem Ng.done {w6:World} (h:Ng w5 lab5 s H M T G L s.nv wr lab a c fb fn fs fa fc pb)
 (hv:s.nv≠0) (hHM:M=H+1) (h5:w5.heap.size=M+1) (hlH:lab5 H= .obj 0) (hlM:lab5 M= .obj 0)
 {gn tc gd gc mb:Nat} {tb tn:Nat->Nat} (ht:AX w5 T gn s.nc tc (fun i=>Nd.new (s.ck i) (tb i) (tn i))) (hg:Ah w5 G gd s.nd gc (fun i=>Dm.new (s.dm i))) (hl:Bc w5 L mb s.nr (fun i=>Ln.new (s.rs i)))
 (lt:lab5 T= .tree∧lab5 gn= .tree) (lf:∀i,i<s.nc->0<(s.ck i).m->lab5 (tb i)= .tree) (lg:lab5 G= .grid∧lab5 gd= .grid) (ll:lab5 L= .lines∧lab5 mb= .lines)
 (k6:AJ wr w6) {B gr gw:Nat} (hb:Ab w6 B gr gw s.nv (fun i=>((s.dv i).nreg:Int)) (fun _=> .slice none 0 0) 0) (lb:wr.heap.size<=B∧wr.heap.size<=gr∧wr.heap.size<=gw):
 ∃lab' b fb' fc',b.H=H∧AH (w6.setCell (H 3) (.pointer B)) lab' s b (Hw.new s fb' fc')∧(∀j,j<w5.heap.size->j≠H->lab' j=lab5 j)∧(∀j,w6.heap.size<=j->lab' j= .obj 0)∧AD (fun j=>j=H∨j=M) w5 (w6.setCell (H 3) (.pointer B)):=by
 obtain⟨g,rfl,rg,hgM⟩:=A5 h.own hv;have z0:=h.kp.size;have z6:=k6.size;have hlg:=h.la g rfl;have hgl:=rg.lt;have hHl:=h.hb.lt;have kset:AD (fun j=>j=H) w6 (w6.setCell (H 3) (.pointer B)):=keeps_set _;have k7:=(k6.mono fun j e=>e.elim).trans kset fun j _ e=>e;have kall:AD (fun j=>j=H∨j=M) w5 (w6.setCell (H 3) (.pointer B)):=h.kp.trans k7 fun j _ e=> .inl e;have oH:=(h.old H (by omega)).trans hlH;have five:∀ (j:Nat) (l:Lb),lab5 j=l->l≠ .obj 0->¬(j=H∨j=M):=fun j l e n c=>by
  rcases c with rfl | rfl
  . exact n (e.symm.trans hlH)
  . exact n (e.symm.trans hlM)
 have seven:∀ (j:Nat) (l:Lb),lab j=l->l≠ .obj 0->¬(j=H∨j=g):=fun j l e n c=>by
  rcases c with rfl | rfl
  . exact n (e.symm.trans oH)
  . exact n (e.symm.trans hlg)
 obtain⟨lab',hlab⟩:∃lab':Nat->Lb,lab'=fun j=>if j=H∨j=g then .hard else if j<wr.heap.size then lab j else if j<w6.heap.size then .bus else .obj 0:=⟨_,rfl⟩
 have lo:∀ (j:Nat) (l:Lb),j<wr.heap.size->lab j=l->l≠ .obj 0->lab' j=l:=fun j l hj e n=>by
  rw [hlab];show(if j=H∨j=g then Lb.hard else _)=l;rw [if_neg (seven j l e n),if_pos hj];exact e
 have l5:∀ (j:Nat) (l:Lb),j<=M->lab5 j=l->l≠ .obj 0->lab' j=l:=fun j l hj e n=>lo j l (by omega) ((h.old j hj).trans e) n;have lbus:∀j,wr.heap.size<=j->j<w6.heap.size->lab' j= .bus:=fun j h1 h2=>by
  rw [hlab];show(if j=H∨j=g then Lb.hard else _)=_;rw [if_neg (by omega),if_neg (by omega),if_pos h2]
 have lH:lab' H= .hard:=by rw [hlab];show(if H=H∨H=g then Lb.hard else _)=_;rw [if_pos (.inl rfl)]
 have lgd:lab' g= .hard:=by rw [hlab];show(if g=H∨g=g then Lb.hard else _)=_;rw [if_pos (.inr rfl)]
 have le5:∀ (j:Nat) (l:Lb),lab5 j=l->l≠ .obj 0->j<w5.heap.size->j<=M:=fun j l _ _ hj=>by omega
 refine⟨lab',⟨H,g,c,T,gn,tc,G,gd,gc,L,mb,B,gr,gw,fb,fn,fs,fa,fc,pb⟩,tb,tn,rfl,⟨?_,?_,?_,?_,?_,?_,?_,?_,⟨lH,lgd⟩,?_,?_,?_,?_,?_,?_,?_⟩,?_,?_,kall⟩
 . exact(h.hb.keep k6 id).set 3 _
 . exact rg.keep k7 (by omega)
 . exact ht.keep kall (five _ _ lt.1 (by simp)) (five _ _ lt.2 (by simp)) fun i hi hm=>five _ _ (lf i hi hm) (by simp)
 . exact hg.keep kall (five _ _ lg.1 (by simp)) (five _ _ lg.2 (by simp))
 . exact hl.keep kall (five _ _ ll.1 (by simp)) (five _ _ ll.2 (by simp))
 . refine⟨fun _=> .slice none 0 0,hb.keep kset (by show¬B=H;omega) (by show¬gr=H;omega) (by show¬gw=H;omega),fun i hi=>⟨.inl (Gs),fun j e=>by cases e⟩⟩
 . intro i hi;have hlf:=h.lfile i hi;exact(h.file i hi).keep2 k7 (fun e=>seven _ _ hlf.1 (by simp) (.inl e)) (fun e=>seven _ _ hlf.2.1 (by simp) (.inl e)) (fun e=>seven _ _ hlf.2.2.1 (by simp) (.inl e)) fun bm e hp e2=>seven _ _ (hlf.2.2.2 bm e hp) (by simp) (.inl e2)
 . intro i hi;exact AF.keep (h.port i hi) k7 fun e=>seven _ _ (h.lport i hi) (by simp) (.inl e)
 . exact⟨l5 T _ (by have:=ht.t.lt;omega) lt.1 (by simp),l5 gn _ (by have:=ht.d.lt;omega) lt.2 (by simp)⟩
 . intro i hi hm;exact l5 (tb i) _ (by have:=(ht.f i hi hm).lt;simp only [Nd.new] at this;omega) (lf i hi hm) (by simp)
 . exact⟨l5 G _ (by have:=hg.g.lt;omega) lg.1 (by simp),l5 gd _ (by have:=hg.d.lt;omega) lg.2 (by simp)⟩
 . exact⟨l5 L _ (by have:=hl.f.lt;omega) ll.1 (by simp),l5 mb _ (by obtain⟨D,o,_⟩:=hl.m;have:=o.lt;omega) ll.2 (by simp)⟩
 . exact⟨lbus B lb.1 hb.lb,lbus gr lb.2.1 hb.r.lt,lbus gw lb.2.2 hb.q.lt⟩
 . intro i hi;have hlf:=h.lfile i hi;have hf:=h.file i hi;refine⟨lo _ _ hf.f.lt hlf.1 (by simp),lo _ _ hf.now.lt hlf.2.1 (by simp),lo _ _ hf.saved.lt hlf.2.2.1 (by simp),fun j e hp=>lo j _ ?_ (hlf.2.2.2 j e hp) (by simp)⟩;obtain⟨bm,e1,r,_⟩:=hf.made (by omega);have e':fa i=some (j 0):=e;rw [e1] at e';injection e' with e';injection e' with e';subst e';exact r.lt
 . intro i hi;exact lo _ _ (h.port i hi).lt (h.lport i hi) (by simp)
 . intro j hj hne;rw [hlab];show(if j=H∨j=g then Lb.hard else _)=_;rw [if_neg (by omega),if_pos (by omega)];exact h.old j (by omega)
 . intro j hj;rw [hlab];show(if j=H∨j=g then Lb.hard else _)=_;rw [if_neg (by omega),if_neg (by omega),if_neg (by omega)]
def JL (a0 a1 a2 a3 H:Nat) (j:Nat):Lb:=if j<a0 then .obj 0 else if j<a1 then .tree else if j<a2 then .grid else if j<a3 then .lines else .obj 0
def ZP (w:World) (s:AE) (e:Ending) (w':World):Prop:=
 ∃lab b fb fc,e= .returned (.tuple #[.pointer b.H, .int .i64 0])∧AJ w w'∧AH w' lab s b (Hw.new s fb fc)∧(∀j,j<w.heap.size->lab j= .obj 0)∧(∀j,w'.heap.size<=j->lab j= .obj 0)
theorem YN {v:Bx} (hs:s.Ok) (ha:A6 w v s):Calls prog 11 #[.agg (BI v s)] w (ZP w s):=by
 obtain⟨i0,KI,KZ0,KZ1,KZ2⟩:=ik_ xG;have HS:=Ae hs;have HA:=Ae ha;have n1:=hs.v1;have n2:=hs.v2;have HB:=Ae (Aj (w:=w) s v);have KB:=Ae ((nr w).alloc (.cells (BI v s) 30));clear hs ha;go_in;go_wp2_with fail;refine(CP HS.out (HA.out.new KB.out)).mono ?_;rintro z' w1 ⟨rfl,k1⟩;have HB1:=Ae (HB.out.keep k1 id);have K1:=Ae (KB.out.then_ k1);have s0:=HB1.out.z 0;have s1:=HB1.out.z 1;have s2:=HB1.out.z 2;have s3:=HB1.out.z 3;clear k1;go_wp2_with fail;refine(Ws HS.out (HA.out.new K1.out)).mono ?_;rintro z' w2 ⟨T,gn,tc,fb,fc,rfl,k2,t2,lT,lgn,lfb⟩;have HB2:=Ae (HB1.out.keep k2 id);have K2:=Ae (K1.out.then_ k2);have T2:=Ae t2;have LT:=Ae (And.intro lT (And.intro lgn lfb));have s0':=HB2.out.z 0;have s1':=HB2.out.z 1;have s2':=HB2.out.z 2;have s3':=HB2.out.z 3;clear k2 t2 lT lgn lfb s0 s1 s2 s3;go_wp2_with fail;refine(Us HS.out (HA.out.new K2.out)).mono ?_;rintro z' w3 ⟨G,gd,gc,rfl,k3,g3,lG,lgd⟩;have HB3:=Ae (HB2.out.keep k3 id);have K3:=Ae (K2.out.then_ k3);have T3:=Ae (T2.out.keep k3 id id fun _ _ _=>id);have G3:=Ae g3;have LG:=Ae (And.intro lG lgd);have t0:=HB3.out.z 0;have t1:=HB3.out.z 1;have t2:=HB3.out.z 2;have t3:=HB3.out.z 3;clear k3 g3 lG lgd s0' s1' s2' s3';go_wp2_with fail;refine(VH HS.out (HA.out.new K3.out)).mono ?_;rintro z' w4 ⟨L,mb,rfl,k4,l4,lL,lmb⟩;have HB4:=Ae (HB3.out.keep k4 id);have K4:=Ae (K3.out.then_ k4);have T4:=Ae (T3.out.keep k4 id id fun _ _ _=>id);have G4:=Ae (G3.out.keep k4 id id);have L4:=Ae l4;have LL:=Ae (And.intro lL lmb);have u3:=HB4.out.z 3;have lw4:=HB4.out.lt;clear k4 l4 lL lmb t0 t1 t2 t3;have hm22:=fun(W:World)=>run_make_row' (P:=prog) 22 3 (.int .i64 0) 8 underlying22 JN rfl .i64 .i64 s.nv (by omega) (by omega) W;go_wp2_with fail;clear hm22;obtain⟨H,hH⟩:=ex w4.heap.size;obtain⟨W5,hW5⟩:=ex ((w4.alloc (.cells #[.pointer T, .pointer G, .pointer L, .pointer none, .slice none 0 0] 103)).alloc (.cells (madeCells #[.int .i64 0] s.nv) 3));have B5:=(AF.new w4 [.pointer T, .pointer G, .pointer L, .pointer none, .slice none 0 0] 103).alloc (.cells (madeCells #[.int .i64 0] s.nv) 3);have R5:=CV (w4.alloc (.cells #[.pointer T, .pointer G, .pointer L, .pointer none, .slice none 0 0] 103)) (.int .i64 0) s.nv 3;have K5:=((nr w4).alloc (.cells #[.pointer T, .pointer G, .pointer L, .pointer none, .slice none 0 0] 103)).alloc (.cells (madeCells #[.int .i64 0] s.nv) 3);have hz5:W5.heap.size=H+1+1:=by rw [<-hW5, <-hH];simp
 have KN5:=K4.out.then_ K5;rw [hW5] at B5 R5 K5 KN5;rw [hH] at B5;rw [Ay,hH] at R5;rw [hW5,hH];have B5:=Ae B5;have R5:=Ae R5;have K5:=Ae K5;have KN5:=Ae KN5;have HZ5:=Ae hz5;have HH:=Ae hH;have l5:w.heap.size<H:=by omega
 clear hW5 hz5 hH u3 lw4;obtain⟨lab5,hlab5⟩:∃l,l=JL w1.heap.size w2.heap.size w3.heap.size w4.heap.size H:=⟨_,rfl⟩;have HL5:=Ae hlab5;have o5:lab5 H= .obj 0∧lab5 (H+1)= .obj 0∧∀j,H<=j->lab5 j= .obj 0:=by
  have hh:=HH.out;have z4:w3.heap.size<=w4.heap.size:=by have h1:=L4.out.f.lt;have h2:=LL.out.1;omega
  have z3:w2.heap.size<=w3.heap.size:=by have h1:=G3.out.g.lt;have h2:=LG.out.1;omega
  have z2:w1.heap.size<=w2.heap.size:=by have h1:=T2.out.t.lt;have h2:=LT.out.1;omega
  have e:∀j,H<=j->lab5 j= .obj 0:=fun j hj=>by rw [hlab5];unfold JL;rw [if_neg (by omega),if_neg (by omega),if_neg (by omega),if_neg (by omega)]
  exact⟨e _ (by omega),e _ (by omega),e⟩
 have O5:=Ae o5;clear o5 hlab5;go_loopw [56] (fun i wr=>∃k:Nat,k<=s.nv∧i= .int .i64 k∧∃lab a c fb fn fs fa fc pb,Ng W5 lab5 s H (H+1) T G L k wr lab a c fb fn fs fa fc pb) (fun i _=>s.nv - (intOf i).toNat);case atStart=>exact⟨0,by omega,rfl,lab5,none,0,fun _=>0,fun _=>0,fun _=>0,fun _=>none,fun _=>0,fun _=>0,⟨kx_,B5.out,Gs,R5.out.congr (fun i hi=>by simp),fun i hi=>by omega,fun i hi=>by omega,fun j _=>rfl,fun i hi=>by omega,fun i hi=>by omega,fun g e=>(by cases e),fun j hj=>O5.out.2.2 j (by have:=HZ5.out;omega)⟩⟩
 case round=>
  obtain⟨k,hk,rfl,lab,a,c,qb,qn,qs,qa,qc,pb,hm⟩:=hrel;have HMK:=Ae hm;have kw:=KN5.out.trans hm.kp (fun j hj e=>by omega);have KW:=Ae kw;by_cases hlt:k<s.nv
  . have R:=HA.out.new kw;have c0:wr.cell? (v.vb (k*6))=some (.int .i64 ((s.dv k).clock:Int)):=R.dv.cell k 0 hlt (by omega);have c1:wr.cell? (v.vb (k*6+1))=some (.int .i64 ((s.dv k).dom:Int)):=R.dv.cell k 1 hlt (by omega);have c2:wr.cell? (v.vb (k*6+2))=some (.int .i64 ((s.dv k).line:Int)):=R.dv.cell k 2 hlt (by omega);have c3:wr.cell? (v.vb (k*6+3))=some (.int .u32 (s.dv k).clamp):=R.dv.cell k 3 hlt (by omega);obtain⟨ao,rc,er⟩:=AO (v.gb k) (s.dv k).nreg (v.gc k);obtain⟨ao2,rc2,er2⟩:=AO (v.qb k) (s.dv k).nneed (v.qc k);have c4:wr.cell? (v.vb (k*6+4))=some (.slice ao (s.dv k).nreg rc):=(R.dv.cell k 4 hlt (by omega)).trans (congrArg some er);have c5:wr.cell? (v.vb (k*6+5))=some (.slice ao2 (s.dv k).nneed rc2):=(R.dv.cell k 5 hlt (by omega)).trans (congrArg some er2);have SR:=Ae (F6 er (R.reg k hlt) (fun i j _ hj=>J7 _ j hj));have hnr:=HS.out.regs k hlt;obtain⟨d,hd⟩:=ex (s.dv k);have HD:=Ae hd;rw [hd] at c0 c1 c2 c3 c4 c5 SR hnr;have SR2:AG (Src wr ao d.nreg rc 2 (Av d.nreg 2 (Dw (fun j=>(d.reg j).reset) (fun j=>(d.reg j).ret)))):=⟨by
     have h:=SR.out
     rwa [Cx (g:=Dw (fun j=>(d.reg j).reset) (fun j=>(d.reg j).ret)) (fun i j _ hj=>by match j,hj with | 0,_=>rfl | 1,_=>rfl)] at h⟩
    clear hm kw R hd er er2 SR;go_wp2_with fail;obtain⟨D,hD⟩:=ex wr.heap.size;obtain⟨W1,hW1⟩:=ex (wr.alloc (.cells #[.int .i64 d.clock, .int .i64 d.dom, .int .i64 d.line, .int .u32 d.clamp, .slice ao d.nreg rc, .slice ao2 d.nneed rc2] 40));have BD:=AF.new wr [.int .i64 d.clock, .int .i64 d.dom, .int .i64 d.line, .int .u32 d.clamp, .slice ao d.nreg rc, .slice ao2 d.nneed rc2] 40;have KA:=(nr wr).alloc (.cells #[.int .i64 d.clock, .int .i64 d.dom, .int .i64 d.line, .int .u32 d.clamp, .slice ao d.nreg rc, .slice ao2 d.nneed rc2] 40);have hW1':wr.alloc (.cells [.int .i64 d.clock, .int .i64 d.dom, .int .i64 d.line, .int .u32 d.clamp, .slice ao d.nreg rc, .slice ao2 d.nneed rc2].toArray 40)=W1:=hW1;rw [hW1',hD] at BD;rw [hW1] at KA;rw [hW1,hD];have HDz:=Ae hD;have KA:=Ae KA;have BD:=Ae BD;clear hW1 hW1' hD c0 c1 c2 c3 c4 c5;refine(X6 ao d.nreg rc (fun j=>(d.reg j).reset) (fun j=>(d.reg j).ret) W1 (SR2.out.new KA.out) (by omega)).mono ?_;rintro e w9 ⟨b,bn,bs,am,cm,rfl,k9,f9,lb1,lb2,lb3,lb4⟩;have F9:=Ae f9;have K9:=Ae k9;have LB:=Ae (And.intro lb1 (And.intro lb2 (And.intro lb3 lb4)));have KD:=Ae (KA.out.then_ k9);have BD9:=Ae (BD.out.keep k9 id);have RM:=Ae (rowIs_keep HMK.out.many KD.out id);have hm0:=RM.out.cell hlt;have fm0:=RM.out.frozen k;clear k9 f9 lb1 lb2 lb3 lb4;go_wp2_with fail;refine(E8 F9.out).mono ?_;rintro e w8 ⟨rfl,rfl⟩;go_wp2_with fail;obtain⟨W2,hW2⟩:=ex (w8.setCell ((H+1) k) (.int .i64 d.nreg));have hDH:H+1<D:=by have:=HMK.out.kp.size;have:=HZ5.out;have:=HDz.out;omega
    have KS:AD (fun j=>j=H+1) w8 W2:=by rw [<-hW2];exact keeps_set _
    have KW2:=(KD.out.mono fun j e=>e.elim).trans KS fun j _ e=>e;have OW:=Ae (AW HMK.out.own KW2 (fun j e c=>by have h1:=(HMK.out.own.lt j e).1;omega));have OB:=Ae (fun j (e:(Value.slice a k c).ownBlock=some j)=>(HMK.out.own.lt j e));have BD2:=BD9.out.keep KS (by omega);have BH2:=HMK.out.hb.keep KW2 (by omega);have x0:=BD2.z 0;have x1:=BD2.z 1;have x2:=BD2.z 2;have x3:=BD2.z 3;have h4:=BH2.z 4;have hzD:=BD2.lt;have hzH:=BH2.lt;have R2:AG (W2.rowIs (H+1) 3 s.nv (fun i=> .int .i64 (if i<k+1 then((s.dv i).nreg:Int) else 0))):=⟨by
     rw [<-hW2];refine(RM.out.set k (.int .i64 d.nreg)).congr fun i hi=>?_;by_cases e:i=k
     . subst e;simp [HD.out]
     . have:(i<k+1)=(i<k):=by simp;omega
       simp [e,this]⟩
    have KW2:=Ae KW2;have KS:=Ae KS;have BD2:=Ae BD2;have BH2:=Ae BH2;rw [hW2];clear hW2 hm0 fm0;have SD:∀w':World,AD (fun j=>(Value.slice a k c).ownBlock=some j∨j=H) W2 w'->(w'.cell? (D 0)=some (.int .i64 d.clock)∧w'.cell? (D 1)=some (.int .i64 d.dom)∧w'.cell? (D 2)=some (.int .i64 d.line)∧w'.cell? (D 3)=some (.int .u32 d.clamp)):=fun w' kk=>by
     have bb:=BD2.out.keep kk (fun e=>by rcases e with e | e;have h1:=(OB.out D e).2;have:=HDz.out;omega;omega);exact⟨bb.cell 0,bb.cell 1,bb.cell 2,bb.cell 3⟩
    have SDK:=Ae SD;have hHeld0:(W2.drew.cell? (D 0)=some (.int .i64 d.clock)∧W2.drew.cell? (D 1)=some (.int .i64 d.dom)∧W2.drew.cell? (D 2)=some (.int .i64 d.line)∧W2.drew.cell? (D 3)=some (.int .u32 d.clamp)):=⟨x0,x1,x2,x3⟩;refine rh_ (fun w'=>(w'.cell? (D 0)=some (.int .i64 d.clock)∧w'.cell? (D 1)=some (.int .i64 d.dom)∧w'.cell? (D 2)=some (.int .i64 d.line)∧w'.cell? (D 3)=some (.int .u32 d.clamp))) hHeld0 (fun hE=>?_);clear SD x0 x1 x2 x3 h4 hHeld0;refine tk 0 hE ?_;refine tk 1 hE ?_;refine tk 2 hE ?_;refine tk 3 hE ?_;refine tk 5 hE ?_;refine tk 6 hE ?_;refine tk 7 hE ?_;refine tk 8 hE ?_;refine tk 9 hE ?_;refine tk 10 hE ?_;refine tk 11 hE ?_;refine tk 12 hE ?_;refine tk 13 hE ?_;have hDW:∀W,AJ W2 W->∃z,z=W2.heap.size:=fun _ _=>⟨_,rfl⟩;clear hDW
    refine wl_ (fuel:=4) [4,14,15,16] (fun i vals W=>match i with
     | 4=>vals 4= .slice a k c
     | 14=>∃p,vals 14= .pointer (some ⟨p,0,none⟩)∧W2.heap.size<=p∧Df W p 0 0
     | 15=>∃p,vals 14= .pointer (some ⟨p,0,none⟩)∧vals 15= .agg #[.int .i64 d.clock, .int .i64 d.dom, .int .i64 d.line, .int .u32 d.clamp, .pointer b, .pointer (some ⟨p,0,none⟩)]
     | _=>∃p q,vals 15= .agg #[.int .i64 d.clock, .int .i64 d.dom, .int .i64 d.line, .int .u32 d.clamp, .pointer b, .pointer (some ⟨p,0,none⟩)]∧vals 16= .slice (some ⟨q,0,none⟩) 1 1∧W2.heap.size<=q∧AF W q 111 [.int .i64 d.clock, .int .i64 d.dom, .int .i64 d.line, .int .u32 d.clamp, .pointer b, .pointer (some ⟨p,0,none⟩)])
     (AJ W2) (fun i W W'=>AJ W W') ?j ?step ?fin (stab:=?stab) (cong:=?cong)
    case j=>exact(AD.refl _ W2).drew
    case step=>
     intro i hi o ho vals ρ W hJ hd ev;simp only [m1,m0,or_false] at hi;have SN:∀W',AJ W2 W'->(W'.cell? (D 0)=some (.int .i64 d.clock)∧W'.cell? (D 1)=some (.int .i64 d.dom)∧W'.cell? (D 2)=some (.int .i64 d.line)∧W'.cell? (D 3)=some (.int .u32 d.clamp)):=fun W' kk=>SDK.out W' (kk.mono fun j e=>e.elim);have SNK:=Ae SN;clear SN;rcases hi with rfl | rfl | rfl | rfl
     . cases ho;intro a' K Q ha hK;subst ha;have e1:=tv (ev (.tmp 78) rfl);have q0:=(BH2.out.keep hJ id).z 4;go_simp;exact hK _ _ ⟨kx_,hJ,SNK.out _ hJ,Ap⟩
     . cases ho;intro a' K Q ha hK;subst ha;go_simp;refine(Ym W).mono ?_;rintro e w4 ⟨rfl,rfl⟩;have KN:AJ W2 (W.alloc (.cells #[.int .i64 0, .int .i64 0] 187)):=hJ.alloc _;exact hK _ _ ⟨(kx_).alloc _,KN,SNK.out _ KN,W.heap.size,by rw [AQ],hJ.size,AF.new W [.int .i64 0, .int .i64 0] 187⟩
     . cases ho;obtain⟨⟨p,v14,_⟩,d14⟩:=he_ hd 14;intro a' K Q ha hK;subst ha;have e0:=et ((d14 89 rfl).trans v14);have e1:=tv (ev (.tmp 81) rfl);have e2:=tv (ev (.tmp 83) rfl);have e3:=tv (ev (.tmp 85) rfl);have e4:=tv (ev (.tmp 87) rfl);have e5:=tv (ev (.tmp 88) rfl);go_simp;exact hK _ _ ⟨kx_,hJ,SNK.out _ hJ,p,(turn_other vals _ (by decide:(14:Nat)≠15)).trans v14,by rw [AQ]⟩
     . cases ho;obtain⟨⟨p,v14,v15⟩,d15⟩:=he_ hd 15;intro a' K Q ha hK;subst ha;have e0:=et ((d15 90 rfl).trans v15);go_simp;have KN:AJ W2 (W.alloc (.cells #[.int .i64 d.clock, .int .i64 d.dom, .int .i64 d.line, .int .u32 d.clamp, .pointer b, .pointer p] 111)):=hJ.alloc _;exact hK _ _ ⟨(kx_).alloc _,KN,SNK.out _ KN,p,W.heap.size,(turn_other vals _ (by decide:(15:Nat)≠16)).trans v15,by rw [AQ],hJ.size,AF.new W [.int .i64 d.clock, .int .i64 d.dom, .int .i64 d.line, .int .u32 d.clamp, .pointer b, .pointer p] 111⟩
    case stab=>
     intro k' hk' i hi hne hw vals W W' hR;simp only [m1,m0,or_false] at hk';rcases hk' with rfl | rfl | rfl | rfl
     . exact fun h=>h
     . exact fun⟨p,h1,h2,h3⟩=>⟨p,h1,h2,AF.keep h3 hR id⟩
     . exact fun h=>h
     . exact fun⟨p,q,h1,h2,h3,h4⟩=>⟨p,q,h1,h2,h3,h4.keep hR id⟩
    case cong=>
     intro k' hk' vals vals' W he hd;simp only [m1,m0,or_false] at hk';rcases hk' with rfl | rfl | rfl | rfl
     . exact fun h=>he.symm.trans h
     . exact fun⟨p,h1,h2⟩=>⟨p,he.symm.trans h1,h2⟩
     . have h14:=he_ hd 14;exact fun⟨p,h1,h2⟩=>⟨p,h14.symm.trans h1,he.symm.trans h2⟩
     . have h15:=he_ hd 15;exact fun⟨p,q,h1,h2,h3⟩=>⟨p,q,h15.symm.trans h1,he.symm.trans h2,h3⟩
    case fin=>
     intro vals W hJ hV;have v4:=Jh hV 4;obtain⟨p,v14,hp,cp14⟩:=Jh hV 14;obtain⟨p',v14',v15⟩:=Jh hV 15;obtain⟨p2,q,v15',v16,hq,bq⟩:=Jh hV 16;rw [v14] at v14';injection v14' with v14';injection v14' with v14';injection v14' with v14';subst v14';rw [v15] at v15';simp only [Value.agg.injEq,Array.mk.injEq,List.cons.injEq,Value.pointer.injEq,Option.some.injEq,Addr.mk.injEq,true_and,and_true] at v15';subst v15';simp only [Am,AR,dstOf,De,Bl,Bk,CM,pu,s0,s1,if_true];rw [v4,v14,v15,v16];have OWW:=Ae (BN OW.out hJ (fun _ _=>id));have BQ:=Ae bq;have CPW:=Ae cp14;have JW:=Ae hJ;have KZS:=hJ.size;have kHW:H+1+1<=W.heap.size:=by omega
     clear v4 v14 v15 v16 bq cp14 hJ hV;refine CO (i:=17) rfl rfl (by kernel_rfl) (C:=fun v w'=>∃g cp,v= .slice (some ⟨g,0,none⟩) (k+1) cp∧w'.ownsRow (H+1+1) 111 6 (.slice (some ⟨g,0,none⟩) (k+1) cp) (k+1) (Av k 6 (fun i=>GD (s.dv i) (qb i) (pb i))++[.int .i64 d.clock, .int .i64 d.dom, .int .i64 d.line, .int .u32 d.clamp, .pointer b, .pointer p])∧W.grownBy w' (Value.slice a k c).ownBlock∧((Value.slice a k c).ownBlock=some g∨W.heap.size<=g)∧g<w'.heap.size) ?g17 ?n17;case g17=>
      intro a' K Q ha hK;have e0:a'.eval (.tmp 79)= .slice a k c:=by rw [ha];rfl
      have e1:a'.eval (.tmp 91)= .slice q 1 1:=by rw [ha];rfl
      clear ha;refine wp_append_lies W (.tmp 79) (.tmp 91) 101 rfl (H+1+1) 111 i0 _ 6 48 underlying101 KI.out KZ0.out KZ1.out KZ2.out rfl (by decide) (.slice a k c) k (Av k 6 (fun i=>GD (s.dv i) (qb i) (pb i))) e0 OWW.out (q 0) 1 1 [.int .i64 d.clock, .int .i64 d.dom, .int .i64 d.line, .int .u32 d.clamp, .pointer b, .pointer p] e1 rfl (fun j u h=>by rw [Af,Ag,BQ.out.cell j];exact h) (by simp [Value.oneCell']) (by omega) (by unfold maxLen;omega) (by omega) (by omega) _ rfl ?_;intro g cp w5 own5 grow5 hat5 hlt5;exact hK _ _ ⟨g,cp,rfl,own5,grow5,hat5.imp id (fun e=>by omega),hlt5⟩
     case n17=>
     rintro v0 w5 ⟨g,cp,rfl,own5,grow5,hg5,hlt5⟩;have K5w:=(JW.out.mono fun j e=>e.elim).grown grow5 (fun j e _=>e);have S5:(w5.cell? (D 0)=some (.int .i64 d.clock)∧w5.cell? (D 1)=some (.int .i64 d.dom)∧w5.cell? (D 2)=some (.int .i64 d.line)∧w5.cell? (D 3)=some (.int .u32 d.clamp)):=SDK.out w5 (K5w.mono fun j e=> .inl e);refine⟨S5,?_⟩;simp only [Act.put,List.setIfInBounds_toArray,List.set_cons_zero,List.set_cons_succ];have B5H:=BH2.out.keep K5w (fun e=>by have h1:=(OB.out H e).1;omega);have cg5:=B5H.z 4;have fg5:=B5H.frozen 4;have OWN5:=Ae own5;have KG5:=Ae hg5;have K5W:=Ae K5w;have P5:=Ae (AF.keep (S:=fun j=>(Value.slice a k c).ownBlock=some j) CPW.out ((AD.refl _ W).grown grow5 (fun j e _=>e)) (fun e=>by have h1:=(OB.out p e).2;have:=HDz.out;omega));clear own5 hg5 grow5 K5w B5H;refine tk 18 S5 ?_;refine tk 19 S5 ?_;refine CO (i:=20) rfl rfl (by kernel_rfl) (C:=fun v w'=>v=undef∧w'=w5.setCell (H 4) (.slice g (k+1) cp)) ?g20 ?n20;case g20=>
      intro a' K Q ha hK;have e0:=te ha 94;have e1:=te ha 92;clear ha;go_simp;exact hK _ _ ⟨rfl,rfl⟩
     case n20=>
     rintro v0 w6 ⟨rfl,rfl⟩;refine⟨SDK.out _ ((K5W.out.mono fun j e=> .inl e).trans (keeps_set _) (fun j _ e=> .inr e)),?_⟩;simp only [Act.put];refine⟨by kernel_rfl,?_⟩;clear S5 cg5 fg5;go_wp2;go_roundw;case measure=>simp [intOf];omega
     case rel=>
      have hgp:=Pl OWN5.out P5.out (by omega);have z9:=K9.out.size;have z1:=KA.out.size;have z2:=KS.out.size;obtain⟨lb1,lb2,lb3,lb4⟩:=LB.out;have hD2:=HD.out;subst hD2;have k13:AD (fun j=>j=H+1∨(Value.slice a k c).ownBlock=some j) w8 w5:=(KS.out.mono fun j e=> .inl e).trans K5W.out fun j _ e=> .inr e;refine⟨k+1,by omega,by go_num,?_⟩;obtain⟨lab',fb',fn',fs',fa',fc',pb',NX⟩:=HMK.out.next rfl HZ5.out O5.out.1 O5.out.2.1 hlt (KA.out.then_ K9.out) F9.out ⟨by omega,by omega,by omega,fun bm e hn=>by have:=lb4 bm e hn;omega⟩ (P:=p) (by omega) k13 P5.out (rowIs_keep R2.out K5W.out fun e=>by have h1:=(OB.out _ e).1;omega) OWN5.out (KG5.out.imp id fun e=>by omega) hgp;exact⟨lab',_,_,fb',fn',fs',fa',fc',pb',NX⟩
  . have ek:k=s.nv:=by omega
    subst ek;have HB9:=HMK.out.hb;have f3:=HB9.frozen 3;have b3:=HB9.z 3;have HN:AG (ZL wr (some ((H+1) 0)) s.nv (fun i=>((s.dv i).nreg:Int))):=⟨⟨fun _=>⟨H+1,rfl,HMK.out.many.lt,fun i hi=>by rw [HMK.out.many.cell hi,if_pos hi]⟩⟩⟩;clear hm kw HB9;go_wp2_with fail;refine(zP _ s.nv s.nv _ wr (by omega) HN.out fun i hi=>⟨by omega,by have:=HS.out.regs i hi;omega⟩).mono ?_;rintro e w6 ⟨B,gr,gw,rfl,k6,hb6,lB,lgr,lgw⟩;have K6:AG (AJ wr w6):=⟨⟨k6.os,k6.tape,k6.output,k6.size,fun j hj _=>k6.block j hj⟩⟩;have HB6:=HMK.out.hb.keep K6.out id;have f3':=HB6.frozen 3;have b3':=HB6.z 3;have BB6:=Ae hb6;have LB6:=Ae (And.intro lB (And.intro lgr lgw));clear k6 hb6 lB lgr lgw b3 f3 HB6;go_wp2;go_ret2;have hh:=HH.out;have tt:=T2.out.t.lt;have tg:=T2.out.d.lt;have gg:=G3.out.g.lt;have gd':=G3.out.d.lt;have ll:=L4.out.f.lt;have lm:=L4.out.lt;obtain⟨a1,a2,a3⟩:=LT.out;obtain⟨a4,a5⟩:=LG.out;obtain⟨a6,a7⟩:=LL.out;have hl:=HL5.out;have z2:w2.heap.size<=w3.heap.size:=by omega
    have z3:w3.heap.size<=w4.heap.size:=by omega
    have i1:∀j,w1.heap.size<=j->j<w2.heap.size->lab5 j= .tree:=fun j h1 h2=>by rw [hl];unfold JL;rw [if_neg (by omega),if_pos h2]
    have i2:∀j,w2.heap.size<=j->j<w3.heap.size->lab5 j= .grid:=fun j h1 h2=>by rw [hl];unfold JL;rw [if_neg (by omega),if_neg (by omega),if_pos h2]
    have i3:∀j,w3.heap.size<=j->j<w4.heap.size->lab5 j= .lines:=fun j h1 h2=>by rw [hl];unfold JL;rw [if_neg (by omega),if_neg (by omega),if_neg (by omega),if_pos h2]
    have i0':∀j,j<w.heap.size->lab5 j= .obj 0:=fun j h1=>by have:=K1.out.size;rw [hl];unfold JL;rw [if_pos (by omega)]
    have K45:=K5.out;obtain⟨lab',bb,fb',fc',eH,HAT,lo,hi',ka⟩:=HMK.out.done (by omega) rfl HZ5.out O5.out.1 O5.out.2.1 (T4.out.keep K45 id id fun _ _ _=>id) (G4.out.keep K45 id id) (L4.out.keep K45 id id)
     ⟨i1 _ a1 tt,i1 _ a2 tg⟩ (fun i hi hm=>i1 _ (a3 i hi hm) (by have:=(T2.out.f i hi hm).lt;simpa only [Nd.new] using this)) ⟨i2 _ a4 gg,i2 _ a5 gd'⟩ ⟨i3 _ a6 ll,i3 _ a7 lm⟩ K6.out BB6.out LB6.out
    refine⟨lab',bb,fb',fc',by rw [eH];rfl,KN5.out.trans ka (fun j hj e=>by omega),HAT,fun j hj=>?_,fun j hj=>hi' j (by simpa using hj)⟩;rw [lo j (by have:=HZ5.out;omega) (by omega)];exact i0' j hj
end
end Go.Proofs.YtpekoejdnhaohaaGreatDoor
