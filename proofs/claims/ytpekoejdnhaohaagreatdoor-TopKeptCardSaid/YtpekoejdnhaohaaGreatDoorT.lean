/- What the world's tick, task, step and making leave; the plain law's acts and clocks, no program in sight. For every world in memory. -/
import Derived.Test.YtpekoejdnhaohaaGreatDoorS
namespace Go.Proofs.YtpekoejdnhaohaaGreatDoor
open Go.RowKit Tryz
set_option maxRecDepth 100000
set_option maxHeartbeats 40000000
set_option linter.all false
variable {s:AE} {r:Bool} {e:Ending} {hx' x':Hw} {q t:Int} {l:List DX} {c i p tok x:Nat} {on:Nat->Bool} {lf:Nat->Int} {ns:Nat->Nd} {y':Rm} {X1 X2:St}
section
variable {w w':World} {lab:Nat->Lb} {s:AE} {B:Wb} {X:St}
theorem AN.hardTurn (h:AN w lab s B X) (k:AD (BH lab) w w') (hh:AH w' lab s B.hb x'):Cs w lab s B { X with hx:=x' } w' lab B:=by
 have kA:AD (SL lab Lb.isHard) w w':=k;have e0:∀j,j<w.heap.size->lab j=lab j:=fun _ _=>rfl;refine⟨kA.mono fun j e=>?_,e0, .refl _,⟨hh,h.firm_k e0 kA rfl rfl,h.rpm_k e0 kA rfl rfl,h.cnt_k e0 kA rfl rfl rfl,h.wd_k kA rfl,h.ev_k e0 kA rfl,h.lW,h.fr_k kA,h.le_k kA rfl,h.l1,h.q_k e0 kA rfl⟩⟩;have e:(lab j).isHard=true:=e;show(lab j).mut=true
 cases hq:lab j with
 | obj k=>rw [hq] at e;simp [Lb.isHard,Lb.mut] at e ⊢;omega
 | sub k i=>rfl
theorem Xu:madeCells (Value.agg #[.int .u8 0, .int .i64 0, .int .u8 0, .int .i64 0, .int .i64 0, .int .u32 0, .int .i64 0, .int .u32 0, .int .i64 0, .int .i64 0, .bool false, .int .u32 0, .bool false, .slice none 0 0]).cells ((1:Int).toNat*14)= #[.int .u8 0, .int .i64 0, .int .u8 0, .int .i64 0, .int .i64 0, .int .u32 0, .int .i64 0, .int .u32 0, .int .i64 0, .int .i64 0, .bool false, .int .u32 0, .bool false, .slice none 0 0]:=by kernel_rfl
theorem Xv:madeCells (Value.agg #[.int .u8 0, .int .i64 0, .int .u8 0, .int .i64 0, .int .i64 0, .int .u32 0, .int .i64 0, .int .u32 0, .int .i64 0, .int .i64 0, .bool false, .int .u32 0, .bool false, .slice none 0 0]).cells ((0:Int).toNat*14)= #[]:=by kernel_rfl
theorem Xt (W:World):(Instr.makeSlice 48 (.int .i64 0) (.int .i64 0)).run prog W= .ok (.slice W.heap.size 0 0) (W.alloc (.cells #[] 55)):=by
 obtain⟨i,hi,hz0,hz1,hz2⟩:=info_parts ON;have h:=run_make (P:=prog) W 48 55 i _ underlying48 hi hz0 .i64 .i64 0 0 (by omega) (Int.le_refl _) (by rw [hz2];omega) (by omega);rw [hz1,Xv] at h;exact h
theorem Xs (W:World):(Instr.makeSlice 48 (.int .i64 1) (.int .i64 1)).run prog W= .ok (.slice W.heap.size 1 1) (W.alloc (.cells #[.int .u8 0, .int .i64 0, .int .u8 0, .int .i64 0, .int .i64 0, .int .u32 0, .int .i64 0, .int .u32 0, .int .i64 0, .int .i64 0, .bool false, .int .u32 0, .bool false, .slice none 0 0] 55)):=by
 obtain⟨i,hi,hz0,hz1,hz2⟩:=info_parts ON;have h:=run_make (P:=prog) W 48 55 i _ underlying48 hi hz0 .i64 .i64 1 1 (by omega) (Int.le_refl _) (by rw [hz2];omega) (by omega);rw [hz1,Xu] at h;exact h
abbrev evDel (tid:Int) (D:Nat) (nw:Int):Ev:=⟨100,0,Cl.none,0,0,tid,D,nw,true⟩
def Sr (s:AE) (D:Nat) (tid nw:Int):List Ev:=if D<s.nv then [evDel tid D nw] else []
theorem Yb (s:AE) (D:Nat) (tid nw:Int):(Sr s D tid nw).length=FJ D s.nv:=by unfold Sr FJ;split <;> rfl
theorem St.tell_nil (X:St):X.tell []=X:=by simp [St.tell]
theorem Kf (hs:s.Ok) (hm:∀i,i<s.nc->(X.hx.ns i).kind≠111->0<(X.hx.ns i).m) (D:Nat) (tid:Int) (q:Bool) (r:Nat) (v:Int) (hp:yY s X.hx D tid q r v) (htk:ZF s X.hx) (hn:X.ev.length<=1000) {nw:Int} (hnw:(X.hx.fl D).now r=nw)
 (Z:Nat->St) (hZ:({ X with hx:=X.hx.tick s D q r v }:St).tell (Sr s D tid nw)={ Z 0 with rm:=X.rm })
 (hr0:¬D<s.nv->(Z 0).rm=X.rm) (hr1:D<s.nv->∃t:Nat,(t=0∨t=1∨t=2)∧X.rm.holder=(t:Int)∧X.rm.posted=true∧X.rm.ident=tid∧(Z 0).rm=X.rm.over t 0 nw)
 (ge:∀t:Nat,t=0∨t=1∨t=2->Ez s 86 (fun B=> #[.pointer B.W, .int .i64 t]) (.tuple #[]) (Z t) (Z (t+1))):Hk s X (Z 3):=by
 intro w lab B h;have nv:=hs.v2;have c3:=h.wd.z 3;have c0:=h.wd.z 0;have hnv:(0:Int)<=s.nv∧(s.nv:Int)<=1000000:=by omega
 have H:=Ae h;have HS:=Ae hs;have HM:=Ae hm;have HP:=Ae hp;have HT:=Ae htk;have HNW:=Ae hnw;have HZ:=Ae hZ;have R0:=Ae hr0;have RA:=Ae hr1;have GE:=Ae ge;have AL:AG (D<s.nv->FX s X.hx D=true):=⟨hp.al⟩;have DL:=Ae (Yb s D tid nw);have TN:=Ae (show FJ D s.nv=if D<s.nv then 1 else 0 from rfl);obtain⟨m,hM⟩:=ex (FJ D s.nv);rw [hM] at DL TN;have HMM:=Ae hM;have hm1:m<=1:=by have:=TN.out;split at this <;> omega
 clear h hs hm hp htk hnw hZ hr0 hr1 ge hM;have hmk:=fun(W:World)=>run_make_row' (P:=prog) 115 4 (.bool false) 1 underlying115 GX rfl .i64 .i64 s.nv (by omega) (by omega) W;go_in;go_wp2_with fail;have kb:=(nr w).alloc (.cells (madeCells #[.bool false] s.nv) 4);have rb:=CV w (.bool false) s.nv 4;obtain⟨W1,hW1⟩:=ex (w.alloc (.cells (madeCells #[.bool false] s.nv) 4));rw [hW1] at kb rb;rw [hW1];clear hW1 c3 hmk;have K1:=Ae kb;have R1:=Ae rb;clear kb rb c0;go_loopw [18] (fun j wr=>∃k:Nat,k<=s.nv∧j= .int .i64 k∧AJ w wr∧wr.rowIs w.heap.size 4 s.nv (fun i=> .bool (if i<k then FX s X.hx i else false))) (fun j _=>s.nv - (intOf j).toNat);case atStart=>exact⟨0,by omega,rfl,K1.out,R1.out⟩
 case round=>
  obtain⟨k,hk,rfl,kw,row⟩:=hrel;have KW:=Ae kw;have ROW:=Ae row;have c0:=(H.out.new kw).wd.z 0;clear kw row;by_cases hlt:k<s.nv
  . have hc:(k:Int)<s.nv:=by omega
    go_wp2_with fail;refine(IX (H.out.hard.new KW.out) HS.out k hlt HM.out rfl).mono ?_;rintro e w2 ⟨rfl,k2⟩;have K2:=Ae k2;have row2:=rowIs_keep ROW.out k2 id;have ROW2:=Ae row2;have q0:=row2.cell hlt;have lq:=row2.lt;have fr:=fun i=>row2.frozen i;clear k2 row2 c0;go_wp2;go_roundw;case rel=>
     refine⟨k+1,by omega,by go_num,?_,?_⟩
     . exact(KW.out.then_ K2.out).trans (keeps_set _) fun j hj e=>by rw [show j=w.heap.size from e] at hj;omega
     . refine(ROW2.out.set k (.bool (FX s X.hx k))).congr fun i hi=>?_;by_cases e:i=k
       . rw [if_pos e,e,if_pos (Nat.lt_succ_self k)]
       . rw [if_neg e];by_cases h:i<k
         . rw [if_pos h,if_pos (by omega)]
         . rw [if_neg h,if_neg (by omega)]
    case measure=>simp [intOf];omega
  . obtain rfl:k=s.nv:=by omega
    go_wp2_with fail;refine(Sd (H.out.hard.new KW.out) (fun j hj=>H.out.fr j (Nat.le_trans KW.out.size hj)) HS.out HM.out D tid q r v HP.out HT.out).mono ?_;rintro e w2 ⟨ao,c,rfl,k2,hh2,own2⟩;have T2:=Ae ((H.out.turn_new KW.out).trans ((H.out.new KW.out).hardTurn k2 hh2));have row2:=rowIs_keep ROW.out k2 (by show¬(lab w.heap.size).isHard=true;rw [H.out.fr _ (al11_ _)];decide);have ROW2:=Ae row2;rw [HMM.out] at own2 ⊢;have OWN2:=Ae own2;clear own2 k2 hh2 row2 c0 hlt hk;by_cases hD:D<s.nv
    . have hm':m=1:=by have:=TN.out;rw [if_pos hD] at this;exact this
      subst hm';obtain⟨t,ht,hho,hpo,hid,hz⟩:=RA.out hD;have RR:=Ae (And.intro ht (And.intro hho (And.intro hpo (And.intro hid hz))));have cD:w2.cell? (w.heap.size D)=some (.bool true):=by rw [ROW2.out.cell hD,if_pos hD,AL.out hD]
      have DEL:AG (Sr s D tid nw=[evDel tid D nw]):=⟨if_pos hD⟩;obtain⟨g,hg,hgl,hgc⟩:∃g,ao=some ⟨g,0,none⟩∧(wr.heap.size<=g∧g<w2.heap.size)∧∀j u,([.int .i64 tid, .int .i64 D, .bool false, .int .u32 nw]:List Value)[j]?=some u->w2.cell? ⟨g,j,none⟩=some u:=by
       have o:=OWN2.out;rcases o.2 with⟨hv,h0⟩ | ⟨g,c',cur,hv,hb,hg,hle,hm,hs,ht⟩
       . cases h0
       . injection hv with h1 h2 h3;refine⟨g,h1,⟨hb,(Ci.1 hg).1⟩,fun j u hu=>?_⟩;have e:J2 X.hx D tid r s.nv=[.int .i64 tid, .int .i64 D, .bool false, .int .u32 nw]:=by rw [<-HNW.out];exact if_pos hD
         rw [<-e] at hu;have hc:=o.cells (g:=g) (by rw [h1];rfl) j u hu;rw [Af,Ag] at hc;exact hc
      subst hg;have g0:=hgc 0 _ rfl;have g1:=hgc 1 _ rfl;have g2:=hgc 2 _ rfl;have g3:=hgc 3 _ rfl;have GL:=Ae hgl;have GC:=Ae hgc;clear ht hho hpo hid hz hgl hgc;have hmk:=fun(W:World)=>Xs W;go_wp2_with fail;have kN:=(nr w2).alloc (.cells #[.int .u8 0, .int .i64 0, .int .u8 0, .int .i64 0, .int .i64 0, .int .u32 0, .int .i64 0, .int .u32 0, .int .i64 0, .int .i64 0, .bool false, .int .u32 0, .bool false, .slice none 0 0] 55);have bN:=AF.new w2 [.int .u8 0, .int .i64 0, .int .u8 0, .int .i64 0, .int .i64 0, .int .u32 0, .int .i64 0, .int .u32 0, .int .i64 0, .int .i64 0, .bool false, .int .u32 0, .bool false, .slice none 0 0] 55;obtain⟨W3,hW3⟩:=ex (w2.alloc (.cells #[.int .u8 0, .int .i64 0, .int .u8 0, .int .i64 0, .int .i64 0, .int .u32 0, .int .i64 0, .int .u32 0, .int .i64 0, .int .i64 0, .bool false, .int .u32 0, .bool false, .slice none 0 0] 55));rw [hW3] at kN bN ⊢;have K3:=Ae kN;have B3:=Ae bN;clear hW3 kN bN hmk g0 g1 g2 g3 cD;have CD:AG (w2.cell? (w.heap.size D)=some (.bool true)):=⟨by rw [ROW2.out.cell hD,if_pos hD,AL.out hD]⟩;have LA:AG (w.heap.size<w2.heap.size):=⟨ROW2.out.lt⟩;go_loopw [42] (fun i wz=>∃k:Nat,k<=1∧i= .int .i64 k∧AJ w2 wz∧AF wz w2.heap.size 55 (if k=0 then [.int .u8 0, .int .i64 0, .int .u8 0, .int .i64 0, .int .i64 0, .int .u32 0, .int .i64 0, .int .u32 0, .int .i64 0, .int .i64 0, .bool false, .int .u32 0, .bool false, .slice none 0 0] else [.int .u8 100, .int .i64 0, .int .u8 0, .int .i64 0, .int .i64 0, .int .u32 0, .int .i64 0, .int .u32 0, .int .i64 tid, .int .i64 D, .bool false, .int .u32 nw, .bool true, .slice none 0 0])) (fun i _=>1 - (intOf i).toNat);case atStart=>exact⟨0,by omega,rfl,K3.out,B3.out⟩
      case round=>
       obtain⟨k,hk,rfl,kz,bz⟩:=hrel;rcases(show k=0∨k=1 by omega) with rfl | rfl
       . have KZ:=Ae kz;have BZ:=Ae bz;have g0:=(kz.cell GL.out.2 id).trans (GC.out 0 _ rfl);have g1:=(kz.cell GL.out.2 id).trans (GC.out 1 _ rfl);have g2:=(kz.cell GL.out.2 id).trans (GC.out 2 _ rfl);have g3:=(kz.cell GL.out.2 id).trans (GC.out 3 _ rfl);have lg:g<wr.heap.size:=Bo GL.out.2 kz.size;clear kz bz;go_wp2_with fail;have kA:=(nr wr).alloc (.cells #[.int .i64 tid, .int .i64 D, .bool false, .int .u32 nw] 53);have bA:=AF.new wr [.int .i64 tid, .int .i64 D, .bool false, .int .u32 nw] 53;obtain⟨bx,hbx⟩:=ex wr.heap.size;obtain⟨V,hV⟩:=ex (wr.alloc (.cells #[.int .i64 tid, .int .i64 D, .bool false, .int .u32 nw] 53));rw [hV,hbx] at bA;rw [hV] at kA;rw [hV,hbx];obtain⟨Y,hY⟩:=ex V.drew;have KY:AG (AJ wr Y):=⟨by rw [<-hY];exact kA.drew⟩;have BX:AG (AF Y bx 53 [.int .i64 tid, .int .i64 D, .bool false, .int .u32 nw]):=⟨by rw [<-hY];exact bA⟩;have CY:AG (Y.cell? (w.heap.size D)=some (.bool true)):=⟨((KZ.out.then_ KY.out).cell LA.out id).trans CD.out⟩;have BY:AG (AF Y w2.heap.size 55 [.int .u8 0, .int .i64 0, .int .u8 0, .int .i64 0, .int .i64 0, .int .u32 0, .int .i64 0, .int .u32 0, .int .i64 0, .int .i64 0, .bool false, .int .u32 0, .bool false, .slice none 0 0]):=⟨BZ.out.keep KY.out id⟩;have NE:AG (bx≠w2.heap.size∧w.heap.size≠w2.heap.size):=⟨by have:=BZ.out.lt;omega,by have:=LA.out;omega⟩;have hDi:(D:Int)<s.nv:=by omega
         clear kA bA hbx g0 g1 g2 g3 lg;refine rh_ (fun wz=>wz.cell? (bx 0)=some (.int .i64 tid)∧wz.cell? (bx 1)=some (.int .i64 D)∧wz.cell? (bx 2)=some (.bool false)∧wz.cell? (bx 3)=some (.int .u32 nw)∧wz.cell? (w.heap.size D)=some (.bool true)) (by rw [hY];exact⟨BX.out.cell 0,BX.out.cell 1,BX.out.cell 2,BX.out.cell 3,CY.out⟩) (fun hE=>?_);rw [hY] at hE ⊢;clear hV hY;refine tk 0 hE ?_;refine tk 1 hE ?_;refine tk 2 hE ?_ (hy:=by intro oi ho;cases ho;refine Or.inl ⟨by rfl,?_⟩;intro w' hS;have s0:=hS.1;have s1:=hS.2.1;have s2:=hS.2.2.1;have s3:=hS.2.2.2.1;have s4:=hS.2.2.2.2;go_simp;try with_reducible rfl);refine tk 3 hE ?_;refine tk 4 hE ?_;refine tk 5 hE ?_ (hy:=by intro oi ho;cases ho;refine Or.inl ⟨by rfl,?_⟩;intro w' hS;have s0:=hS.1;have s1:=hS.2.1;have s2:=hS.2.2.1;have s3:=hS.2.2.2.1;have s4:=hS.2.2.2.2;go_simp;try with_reducible rfl);refine tk 6 hE ?_;refine tk 7 hE ?_ (hy:=by intro oi ho;cases ho;refine Or.inl ⟨by rfl,?_⟩;intro w' hS;have s0:=hS.1;have s1:=hS.2.1;have s2:=hS.2.2.1;have s3:=hS.2.2.2.1;have s4:=hS.2.2.2.2;go_simp;try with_reducible rfl);refine tk 8 hE ?_;refine tk 9 hE ?_;have fr:=fun i=>BY.out.frozen i;have lY:=BY.out.lt;have y0:=BY.out.z 0;have y1:=BY.out.z 1;have y2:=BY.out.z 2;have y3:=BY.out.z 3;have y4:=BY.out.z 4;have y5:=BY.out.z 5;have y6:=BY.out.z 6;have y7:=BY.out.z 7;have y8:=BY.out.z 8;have y9:=BY.out.z 9;have y10:=BY.out.z 10;have y11:=BY.out.z 11;have y12:=BY.out.z 12;have y13:=BY.out.z 13;clear hE;refine oN_ 10 (fun wz=>wz=((((((((((((((Y.setCell (w2.heap.size 0) (.int .u8 100)).setCell (w2.heap.size 1) (.int .i64 0)).setCell (w2.heap.size 2) (.int .u8 0)).setCell (w2.heap.size 3) (.int .i64 0)).setCell (w2.heap.size 4) (.int .i64 0)).setCell (w2.heap.size 5) (.int .u32 0)).setCell (w2.heap.size 6) (.int .i64 0)).setCell (w2.heap.size 7) (.int .u32 0)).setCell (w2.heap.size 8) (.int .i64 tid)).setCell (w2.heap.size 9) (.int .i64 D)).setCell (w2.heap.size 10) (.bool false)).setCell (w2.heap.size 11) (.int .u32 nw)).setCell (w2.heap.size 12) (.bool true)).setCell (w2.heap.size 13) (.slice none 0 0))) ?d_g10 ?d_n10;case d_g10=>
          intro a' K Q ha hK;have e56:=te ha 56;have e55:=te ha 55;clear ha;go_simp;exact hK undef _ rfl
         case d_n10=>
         rintro w5 h5;have k5:AD (fun j=>j=w2.heap.size) Y w5:=by rw [h5];exact(((((((((((((keeps_set _).t (keeps_set _)).t (keeps_set _)).t (keeps_set _)).t (keeps_set _)).t (keeps_set _)).t (keeps_set _)).t (keeps_set _)).t (keeps_set _)).t (keeps_set _)).t (keeps_set _)).t (keeps_set _)).t (keeps_set _)).t (keeps_set _)
         have b5:AF w5 w2.heap.size 55 [.int .u8 100, .int .i64 0, .int .u8 0, .int .i64 0, .int .i64 0, .int .u32 0, .int .i64 0, .int .u32 0, .int .i64 tid, .int .i64 D, .bool false, .int .u32 nw, .bool true, .slice none 0 0]:=by rw [h5];exact(((((((((((((BY.out.set 0 _).set 1 _).set 2 _).set 3 _).set 4 _).set 5 _).set 6 _).set 7 _).set 8 _).set 9 _).set 10 _).set 11 _).set 12 _).set 13 _
         have K5:=Ae k5;have B5:=Ae b5;have X5:=BX.out.keep k5 NE.out.1;refine⟨⟨X5.cell 0,X5.cell 1,X5.cell 2,X5.cell 3,(k5.cell (Bo LA.out (KZ.out.then_ KY.out).size) NE.out.2).trans CY.out⟩,?_⟩;refine⟨by kernel_rfl,?_⟩;clear X5 h5 k5 b5 fr lY y0 y1 y2 y3 y4 y5 y6 y7 y8 y9 y10 y11 y12 y13;go_wp2;go_roundw;case rel=>exact⟨1,by omega,by go_num,(KZ.out.then_ KY.out).trans K5.out fun j hj e=>(by rw [show j=w2.heap.size from e] at hj;omega),B5.out⟩
         case measure=>simp [intOf]
       . have KZ:=Ae kz;have BZ:AG (AF wr w2.heap.size 55 [.int .u8 100, .int .i64 0, .int .u8 0, .int .i64 0, .int .i64 0, .int .u32 0, .int .i64 0, .int .u32 0, .int .i64 tid, .int .i64 D, .bool false, .int .u32 nw, .bool true, .slice none 0 0]):=⟨bz⟩;have T4:=Ae (T2.out.trans (T2.out.h.turn_new kz));have LG:AG (lab g= .obj 0):=⟨H.out.fr g (Nat.le_trans KW.out.size GL.out.1)⟩;clear kz bz;go_wp2_with fail;refine(GJ T4.out.h [evDel tid D nw] (al11_ 1) hn w2.heap.size 1 fun j u hj=>?_).mono ?_
         . rw [show(((w2.heap.size 0):Addr).add j)=(w2.heap.size j) from by simp [Addr.add];exact fun h=>h.symm];exact(BZ.out.cell j).trans hj
         rintro e w5 ⟨rfl,lab5,B5,T5'⟩;have T5:=Ae (T4.out.trans T5');have k5:=(KZ.out.mono fun _ e=>e.elim).then_ T5'.k;have ng:¬SL lab Lb.mut g:=fun c=>by have c:(lab g).mut=true:=c;rw [LG.out] at c;cases c
         have g0:=(k5.cell GL.out.2 ng).trans (GC.out 0 _ rfl);have g1:=(k5.cell GL.out.2 ng).trans (GC.out 1 _ rfl);have g2:=(k5.cell GL.out.2 ng).trans (GC.out 2 _ rfl);have g3:=(k5.cell GL.out.2 ng).trans (GC.out 3 _ rfl);have cR:w5.cell? (B.W 2)=some (.pointer (some (B5.rb.R 0))):=by rw [<-T5.out.b.W];exact T5.out.h.wd.cell 2
         clear T5' k5 ng;go_wp2_with fail;refine(Ql T5.out.h.rpm t RR.out.1 RR.out.2.1 RR.out.2.2.1 RR.out.2.2.2.1 g c (D:Int) nw g0 g1 g2 g3).mono ?_;rintro e w6 ⟨rfl,k6,sv,r6⟩;have T6:=Ae (T5.out.trans (T5.out.h.rpmTurn (b':={ B5.rb with sv:=sv }) k6 rfl r6));have hz0:(({ (({ X with hx:=X.hx.tick s D q r v }:St).tell [evDel tid D nw]) with rm:=X.rm.over t 0 nw }:St))=Z 0:=by
          have h:=HZ.out;rw [DEL.out] at h;rw [h, <-RR.out.2.2.2.2]
         have T6:AG (Cs w lab s B (Z 0) w6 lab5 { B5 with rb:={ B5.rb with sv:=sv } }):=⟨by rw [<-hz0];exact T6.out⟩;clear k6 r6 g0 g1 g2 g3 cR hz0;go_wp2;go_loopw [67] (fun i wr=>∃k:Nat,k<=3∧i= .int .i64 k∧∃lab1 B1,Cs w lab s B (Z k) wr lab1 B1) (fun i _=>3 - (intOf i).toNat);case atStart=>exact⟨0,by omega,rfl,_,_,T6.out⟩
         case round=>
          obtain⟨k,hk,rfl,lab1,B1,T1⟩:=hrel;have T1:=Ae T1;by_cases hlt:k<3
          . have hc:(k:Int)<3:=by omega
            have hk3:AG (k=0∨k=1∨k=2):=⟨by omega⟩;go_wp2_with fail;refine((GE.out k hk3.out).next T1.out (by rw [T1.out.b.W])).mono ?_;rintro e w2 ⟨rfl,lab2,B2,T2⟩;have T2:=Ae T2;go_wp2;go_roundw;case rel=>exact⟨k+1,by omega,by go_num,lab2,B2,T2.out⟩
            case measure=>simp [intOf];omega
          . obtain rfl:k=3:=by omega
            go_wp2;go_end0;exact⟨rfl,lab1,B1,T1.out⟩
    . have hm':m=0:=by have:=TN.out;rw [if_neg hD] at this;exact this
      subst hm';have DEL:AG (Sr s D tid nw=[]):=⟨if_neg hD⟩;have HZ0:AG (({ X with hx:=X.hx.tick s D q r v }:St)=Z 0):=⟨by have h:=HZ.out;rw [DEL.out,St.tell_nil] at h;rw [h, <-R0.out hD]⟩;have hmk:=fun(W:World)=>Xt W;go_wp2_with fail;have kN:=(nr w2).alloc (.cells #[] 55);obtain⟨W3,hW3⟩:=ex (w2.alloc (.cells #[] 55));rw [hW3] at kN ⊢;have K3:=Ae kN;clear hW3 kN hmk;go_loopw [42] (fun i wz=>i= .int .i64 0∧AJ w2 wz) (fun i _=>1 - (intOf i).toNat);case atStart=>exact⟨rfl,K3.out⟩
      case round=>
       obtain⟨rfl,kz⟩:=hrel;have T4:=Ae (T2.out.trans (T2.out.h.turn_new kz));clear kz;go_wp2_with fail;refine(GJ T4.out.h [] (Nat.zero_le 1) hn w2.heap.size 0 fun j u hj=>by cases hj).mono ?_;rintro e w5 ⟨rfl,lab5,B5,T5⟩;have T5:=Ae (T4.out.trans T5);have cR:w5.cell? (B.W 2)=some (.pointer (some (B5.rb.R 0))):=by rw [<-T5.out.b.W];exact T5.out.h.wd.cell 2
       go_wp2_with fail;refine(Qm _ ao c w5).mono ?_;rintro e w6 ⟨rfl,rfl⟩;have T6:AG (Cs w lab s B (Z 0) w6 lab5 B5):=⟨by rw [<-HZ0.out];have h:=T5.out;rw [St.tell_nil] at h;exact h⟩;clear cR;go_wp2;go_loopw [67] (fun i wr=>∃k:Nat,k<=3∧i= .int .i64 k∧∃lab1 B1,Cs w lab s B (Z k) wr lab1 B1) (fun i _=>3 - (intOf i).toNat);case atStart=>exact⟨0,by omega,rfl,_,_,T6.out⟩
       case round=>
        obtain⟨k,hk,rfl,lab1,B1,T1⟩:=hrel;have T1:=Ae T1;by_cases hlt:k<3
        . have hc:(k:Int)<3:=by omega
          have hk3:AG (k=0∨k=1∨k=2):=⟨by omega⟩;go_wp2_with fail;refine((GE.out k hk3.out).next T1.out (by rw [T1.out.b.W])).mono ?_;rintro e w2 ⟨rfl,lab2,B2,T2⟩;have T2:=Ae T2;go_wp2;go_roundw;case rel=>exact⟨k+1,by omega,by go_num,lab2,B2,T2.out⟩
          case measure=>simp [intOf];omega
        . obtain rfl:k=3:=by omega
          go_wp2;go_end0;exact⟨rfl,lab1,B1,T1.out⟩
end
section
variable {s:AE} {X:St}
abbrev Cj (s:AE) (t:Nat) (X X':St):Prop:=Ez s 85 (fun B=> #[.pointer B.rb.R, .int .i64 t]) (.tuple #[]) X X'
abbrev Kc (s:AE) (t:Nat) (X X':St):Prop:=Ez s 86 (fun B=> #[.pointer B.W, .int .i64 t]) (.tuple #[]) X X'
theorem Hm (t:Nat) (ht:t=0∨t=1∨t=2) (hw:X.waits t=false) (g:Cj s t X X1) (ge:Kc s t X1 X2):GH s t X X2:=by
 intro w lab B h;have c2:=h.wd.z 2;have cw:w.cell? (B.W (17+t))=some (.bool false):=by rw [<-hw];exact h.wdw t ht
 have t0:(0:Int)<=t:=by omega
 have t3:(t:Int)<3:=by omega
 have T0:=Ae (h.turn_new (kx_));have G:=Ae g;have GE:=Ae ge;clear h g ge hw;go_in;go_wp2_with fail;refine(G.out.next T0.out rfl).mono ?_;rintro e w1 ⟨rfl,lab1,B1,T1⟩;have T1:=Ae T1;clear c2 cw;go_wp2_with fail;refine(GE.out.next T1.out (by rw [T1.out.b.W])).mono ?_;rintro e w2 ⟨rfl,lab2,B2,T2⟩;have T2:=Ae T2;go_wp2;go_end0;exact⟨rfl,lab2,B2,T2.out⟩
def St.begun (X:St) (t:Nat):St:=({ X with waits:=upd X.waits t false }:St).tell [CJ t (X.calls t)]
theorem IS (t:Nat) (ht:t=0∨t=1∨t=2) (hw:X.waits t=true) (hh:X.rm.holder= -1) (g:Cj s t X X1) (hn:X1.ev.length<=1000) (ge:Kc s t (X1.begun t) X2):GH s t X X2:=by
 intro w lab B h;have c2:=h.wd.z 2;have cw:w.cell? (B.W (17+t))=some (.bool true):=by rw [<-hw];exact h.wdw t ht
 have t0:(0:Int)<=t:=by omega
 have t3:(t:Int)<3:=by omega
 have T0:=Ae (h.turn_new (kx_));have HH:AG (Calls prog 84 #[.pointer B.rb.R] w fun e w'=>e= .returned (.int .i64 (-1))∧w'=w):=⟨by rw [<-hh];exact Rk h.rpm⟩;have G:=Ae g;have GE:=Ae ge;have HT:=Ae ht;obtain⟨c,hc⟩:=ex (X1.calls t);have HC:=Ae hc;clear h g ge hw hh ht hc;go_in;go_wp2_with fail;refine HH.out.mono ?_;rintro e w' ⟨rfl,rfl⟩;go_wp2_with fail;refine(G.out.next T0.out rfl).mono ?_;rintro e w1 ⟨rfl,lab1,B1,T1⟩;have HV:AG (AF w1 B.W 77 (CQ s B1 X1)):=⟨by rw [<-T1.b.W];exact T1.h.wd⟩;have T1:=Ae T1;have q0:=wdw' (B:={ B1 with W:=B.W }) HV.out t HT.out;have fr:=fun i=>HV.out.frozen i;have lW:=HV.out.lt;obtain⟨q1,q2,q3,q4⟩:=wdc' (B:={ B1 with W:=B.W }) HV.out t HT.out HC.out;clear c2 cw;go_wp2_with fail;have T2:=Ae (T1.out.trans (T1.out.h.wdTurn (w':=w1.setCell (B.W (17+t)) (.bool false)) (X':={ X1 with waits:=upd X1.waits t false }) (by rw [T1.out.b.W];exact keeps_set _) (by rw [T1.out.b.W, <-TX s B1 X1 t HT.out false];exact HV.out.set _ _) rfl));obtain⟨V,hV⟩:=ex (w1.setCell (B.W (17+t)) (.bool false));have hz:V.heap.size=w1.heap.size:=by rw [<-hV];simp
 rw [hV] at T2 ⊢;clear hV;have T3:=Ae (T2.out.trans (T2.out.h.turn_new (((AD.refl _ V).alloc (.cells #[.int .u8 98, .int .i64 t, .int .u8 c.kind, .int .i64 c.dev, .int .i64 c.reg, .int .u32 c.val, .int .i64 0, .int .u32 0, .int .i64 0, .int .i64 0, .bool false, .int .u32 0, .bool false, .slice none 0 0] 55):AJ V _))));have TL:=GJ T3.out.h [CJ t c] (al11_ 1) hn V.heap.size 1 fun j u hj=>by
  rw [show(((V.heap.size 0):Addr).add j)=(V.heap.size j) from by simp [Addr.add];exact fun h=>h.symm];exact((AF.new V [.int .u8 98, .int .i64 t, .int .u8 c.kind, .int .i64 c.dev, .int .i64 c.reg, .int .u32 c.val, .int .i64 0, .int .u32 0, .int .i64 0, .int .i64 0, .bool false, .int .u32 0, .bool false, .slice none 0 0] 55).cell j).trans hj
 rw [T1.out.b.W,hz] at TL;refine TL.mono ?_;rintro e w4 ⟨rfl,lab4,B4,T4⟩;have T4:AG (Cs w' lab s B (X1.begun t) w4 lab4 B4):=⟨by rw [St.begun,HC.out];exact T3.out.trans T4⟩;clear TL q0 q1 q2 q3 q4 fr lW;go_wp2_with fail;refine(GE.out.next T4.out (by rw [T4.out.b.W])).mono ?_;rintro e w2 ⟨rfl,lab2,B2,T2⟩;have T2:=Ae T2;go_wp2;go_end0;exact⟨rfl,lab2,B2,T2.out⟩
end
section
variable {w w':World} {lab lab':Nat->Lb} {s:AE} {B:Wb} {X:St}
theorem AN.gen (h:AN w lab s B X) {p:Lb->Bool} (k:AD (SL lab p) w w') (hp:∀l:Lb,p l=true->l.mut=true) (h11:p (.obj 11)=false) (h12:p (.obj 12)=false) (h0:p (.obj 0)=false)
 (e:∀j,j<w.heap.size->lab' j=lab j) (fr:∀j,w'.heap.size<=j->lab' j= .obj 0) {fb':Fb} {rb':Rb} {x':Hw} {y':Fm} {r':Rm} {n':Nat} {cnt':Nat->Nat} {asl':Bool} {q':Qs} (hF:fb'.F=B.fb.F) (hR:rb'.R=B.rb.R)
 (hh:AH w' lab' s B.hb x') (hf:AP w' lab' s B.hb.H fb' y') (hr:Ac w' lab' s B.hb.H B.fb.F B.cb.C rb' r') (hc:A7 w' lab' s B.cb n' cnt' asl') (hq:Z2 w' lab' fb' q'):
 Cs w lab s B { X with hx:=x',fm:=y',rm:=r',n:=n',cnt:=cnt',asl:=asl',q:=q' } w' lab' { B with fb:=fb',rb:=rb' }:=by
 refine⟨k.mono fun j c=>hp _ c,e,⟨rfl,hF,hR,rfl,rfl⟩,⟨hh,hf,by rw [hF];exact hr,hc,?_,h.ev_k e k h12,h.lW_k e,fr,h.le_k k h0,h.l1_k e,hq⟩⟩;have g:=h.wd_k k h11;unfold AF at g ⊢;rw [g];simp only [CQ,hF,hR]
theorem V4 (t:Nat) (ht:t=0∨t=1∨t=2) (h0:(X.rm.tk t).st=q) (h1:q≠1) (h2:q≠2):Cj s t X X:=by
 intro w lab B h;refine mn_ (Ue h.rpm t ht h0 h1 h2) ?_;exact⟨rfl,lab,B,h.turn_new (kx_)⟩
theorem Cj.of {t:Nat} {X X':St} (ht:t=0∨t=1∨t=2) (h2:(X.rm.tk t).st=2) (hp:X.rm.posted=false)
 (act:∀w lab B,AN w lab s B X->Calls prog 137 #[.pointer B.rb.R] w (WP w lab s B X' (.tuple #[]))):Cj s t X X':=by
 intro w lab B h;refine(XA h.rpm t ht h2 hp (Q:=fun w'=>∃lab' B',Cs w lab s B X' w' lab' B') ((act w lab B h).mono fun e w' h=>h)).mono ?_;rintro e w' ⟨rfl,h⟩;exact⟨rfl,h⟩
def pRF (l:Lb):Bool:=decide (l= .obj 10)||decide (l= .obj 6)
theorem Tm (l:Lb) (h:pRF l=true):l.mut=true:=by
 rw [pRF,Eu,decide_eq_true_eq,decide_eq_true_eq] at h;rcases h with rfl | rfl <;> rfl
theorem AN.keepRF (h:AN w lab s B X) (k:AD (fun j=>j=B.rb.R∨j=B.fb.F) w w'):AD (SL lab pRF) w w':=k.mono fun j c=>by
 show pRF (lab j)=true;rcases c with rfl | rfl
 . rw [h.rpm.lR];rfl
 . rw [h.firm.lF];rfl
theorem NH (q:Lb) (hq:q.isHard=true):pRF q=false:=by
 cases q with
 | obj k=>simp [Lb.isHard,pRF] at hq ⊢;omega
 | sub k i=>rfl
def St.sends (X:St) (q:DX):St:={ X with rm:={ X.rm with sent:=true,many:=(X.rm.many+1) % 1024 },fm:={ X.fm with box:=1 },q:= .sent q.p X.rm.many q.i q.x }
theorem VY (t:Nat) (ht:t=0∨t=1∨t=2) (h2:(X.rm.tk t).st=2) (hp:X.rm.posted=false) (hb:X.fm.box=0) {q:DX} (hst:X.rm.steps=q::l) (hse:X.rm.sent=false) (hq:q.p<=255) (hm:X.rm.many<=1023):Cj s t X (X.sends q):=by
 refine .of ht h2 hp fun w lab B h=>?_;refine(Yy h.rpm h.firm hb hst hse hq rfl hm).mono ?_;rintro e w' ⟨rfl,k,r,k2,c,f,sw,hk2⟩;have kA:=h.keepRF k;have e0:∀j,j<w.heap.size->lab j=lab j:=fun _ _=>rfl;exact⟨rfl,lab,_,h.gen (fb':={ B.fb with q:=k2,qn:=3,qc:=c }) kA Tm rfl rfl rfl e0 (h.fr_k kA) rfl rfl (h.hard_k e0 kA NH) f r (h.cnt_k e0 kA rfl rfl rfl) ⟨rfl,sw,h.fr _ hk2,sw.lt⟩⟩
theorem NO (t:Nat) (ht:t=0∨t=1∨t=2) (h2:(X.rm.tk t).st=2) (hp:X.rm.posted=false) (hb:X.fm.box=1) (hse:X.rm.sent=true):Cj s t X X:=by
 refine .of ht h2 hp fun w lab B h=>?_;refine(Yx h.rpm h.firm (by omega) (by omega) hse).mono ?_;rintro e w' ⟨rfl,rfl⟩;exact⟨rfl,lab,B,h.turn_new (kx_)⟩
def St.reads (X:St) (t:Nat) (l:List DX):St:={ X with rm:=if l=[] then(X.rm.next l).over t 0 0 else X.rm.next l,fm:={ X.fm with box:=0 },q:= .none }
theorem VZ (t:Nat) (ht:t=0∨t=1∨t=2) (h2:(X.rm.tk t).st=2) (hp:X.rm.posted=false) (hb:X.fm.box=2) (hd:X.q= .done) {q:DX} (hst:X.rm.steps=q::l) (hse:X.rm.sent=true) (hho:X.rm.holder=(t:Int)):Cj s t X (X.reads t l):=by
 refine .of ht h2 hp fun w lab B h=>?_;have hq:=h.q;rw [hd] at hq;obtain⟨q1,q2,q3,q4⟩:=hq;refine(Yz h.rpm h.firm hb q1 q2 hst hse (fun c=>?_) (fun c=>?_) q4 t ht hho).mono ?_
 . rw [c,h.firm.lF] at q3;cases q3
 . rw [c,h.rpm.lR] at q3;cases q3
 rintro e w' ⟨rfl,k,⟨sv,r⟩,f⟩;have kA:=h.keepRF k;have e0:∀j,j<w.heap.size->lab j=lab j:=fun _ _=>rfl;exact⟨rfl,lab,_,h.gen (rb':={ B.rb with sv:=sv }) kA Tm rfl rfl rfl e0 (h.fr_k kA) rfl rfl (h.hard_k e0 kA NH) f r (h.cnt_k e0 kA rfl rfl rfl) trivial⟩
theorem E6 (t:Nat) (ht:t=0∨t=1∨t=2) (h1:(X.rm.tk t).st=1) (hh:X.rm.holder= -1) {k:Int} (hkk:(X.rm.tk t).c.kind=k) (hk:JA k) (hho:X2.rm.holder=(t:Int))
 (act:∀w lab B,AN w lab s B { X with rm:=X.rm.works t }->Calls prog (effF k) #[Vf k, .pointer B.rb.R, .pointer (some ⟨B.rb.R,10+t*13,none⟩)] w (WP w lab s B X2 (.int .i64 0))):
 ((X2.rm.posted=true∨X2.rm.steps≠[])->Cj s t X X2)∧(X2.rm.posted=false->X2.rm.steps=[]->Cj s t X { X2 with rm:=X2.rm.over t 0 0 }):=by
 have hb:∀ (w:World) (lab:Nat->Lb) (B:Wb) (h:AN w lab s B X),Calls prog 136 #[.pointer B.rb.R, .int .i64 t] w fun e w'=>e= .returned (.tuple #[])∧
  ((X2.rm.posted=true∨X2.rm.steps≠[])->∃lab' B',Cs w lab s B X2 w' lab' B')∧(X2.rm.posted=false->X2.rm.steps=[]->∃lab' B',Cs w lab s B { X2 with rm:=X2.rm.over t 0 0 } w' lab' B'):=by
  intro w lab B h;refine(Uq h.rpm t ht (by rw [hkk];exact hk) X2.rm (fun w' lab' b2=>∃B',B'.rb=b2∧Cs w lab s B X2 w' lab' B') (fun W kW r=>?_) (fun W lab' b2 q=>?_) hho).mono ?_
  . rw [hkk];have T:=h.rpmTurn (b':=B.rb) kW rfl r;refine(act W lab _ T.h).mono ?_;rintro e w' ⟨rfl,lab',B',T2⟩;exact⟨rfl,lab',_,B',rfl,T.trans T2⟩
  . obtain⟨B',rfl,T⟩:=q;refine⟨T.b.R,?_⟩;have r:=T.h.rpm;rw [T.b.hb,T.b.F,T.b.cb] at r;exact r
  . rintro e w' ⟨rfl,g1,g2⟩;refine⟨rfl,fun c=>?_,fun c1 c2=>?_⟩
    . obtain⟨lab',b2,B',_,T⟩:=g1 c;exact⟨lab',B',T⟩
    . obtain⟨W,lab',b2,⟨B',rfl,T⟩,_,_,kW,sv,r⟩:=g2 c1 c2;refine⟨lab',_,T.trans (T.h.rpmTurn (b':={ B'.rb with sv:=sv }) kW rfl ?_)⟩;rw [T.b.hb,T.b.F,T.b.cb];exact r
 refine⟨fun c w lab B h=>?_,fun c1 c2 w lab B h=>?_⟩
 . refine(Kt h.rpm t ht h1 hh (Q:=fun w'=>∃lab' B',Cs w lab s B X2 w' lab' B') ((hb w lab B h).mono fun e w' g=>⟨g.1,g.2.1 c⟩)).mono ?_;rintro e w' ⟨rfl,h⟩;exact⟨rfl,h⟩
 . refine(Kt h.rpm t ht h1 hh (Q:=fun w'=>∃lab' B',Cs w lab s B { X2 with rm:=X2.rm.over t 0 0 } w' lab' B') ((hb w lab B h).mono fun e w' g=>⟨g.1,g.2.2 c1 c2⟩)).mono ?_;rintro e w' ⟨rfl,h⟩;exact⟨rfl,h⟩
def pRC (l:Lb):Bool:=decide (l= .obj 10)||(decide (l= .obj 8)||decide (l= .obj 9))
theorem zH (l:Lb) (h:pRC l=true):l.mut=true:=by
 rw [pRC,Eu,Eu,decide_eq_true_eq,decide_eq_true_eq,decide_eq_true_eq] at h;rcases h with rfl | rfl | rfl <;> rfl
theorem VQ (q:Lb) (hq:q.isHard=true):pRC q=false:=by
 cases q with
 | obj k=>simp [Lb.isHard,pRC] at hq ⊢;omega
 | sub k i=>rfl
theorem AN.begins (h:AN w lab s B X) {n':Nat} {cnt':Nat->Nat} {asl':Bool} (hb:MN w lab s B.hb.H B.fb.F B.cb B.rb y' n' cnt' asl' e w'):WP w lab s B { X with rm:=y',n:=n',cnt:=cnt',asl:=asl' } (.int .i64 0) e w':=by
 obtain⟨rfl,k,b',hR,r,c⟩:=hb;have kA:=k.mono fun j c=>by
  show pRC (lab j)=true;rcases c with rfl | rfl | rfl
  . rw [h.rpm.lR];rfl
  . rw [h.cnt.lC];rfl
  . rw [h.cnt.lM];rfl
 have e0:∀j,j<w.heap.size->lab j=lab j:=fun _ _=>rfl;exact⟨rfl,lab,_,h.gen kA zH rfl rfl rfl e0 (h.fr_k kA) rfl hR (h.hard_k e0 kA VQ) (h.firm_k e0 kA rfl rfl) r c (h.q_k e0 kA rfl)⟩
def pRH (l:Lb):Bool:=decide (l= .obj 10)||l.isHard
theorem zG (l:Lb) (h:pRH l=true):l.mut=true:=by
 rw [pRH,Eu,decide_eq_true_eq] at h;rcases h with rfl | h
 . rfl
 . cases l with
   | obj k=>simp [Lb.isHard,Lb.mut] at h ⊢;omega
   | sub k i=>rfl
theorem AN.accesses (h:AN w lab s B X) (hb:UM w lab s B.fb.F B.cb.C B.rb y' B.hb x' e w'):WP w lab s B { X with rm:=y',hx:=x' } (.int .i64 0) e w':=by
 obtain⟨rfl,k,lab1,e1,hh,r⟩:=hb;have kA:=k.mono fun j c=>by
  show pRH (lab j)=true;rcases c with rfl | c
  . rw [h.rpm.lR];rfl
  . have c:(lab j).isHard=true:=c;rw [pRH,c,Bool.or_true]
 obtain⟨lab2,hl2⟩:∃lab2:Nat->Lb,lab2=fun j=>if j<w'.heap.size then lab1 j else .obj 0:=⟨_,rfl⟩
 have e2:∀j,j<w'.heap.size->lab2 j=lab1 j:=fun j hj=>by rw [hl2];exact if_pos hj
 have e0:∀j,j<w.heap.size->lab2 j=lab j:=fun j hj=>(e2 j (Bo hj k.size)).trans (e1 j hj);have fr:∀j,w'.heap.size<=j->lab2 j= .obj 0:=fun j hj=>by rw [hl2];exact if_neg (by omega)
 exact⟨rfl,lab2,_,h.gen kA zG rfl rfl rfl e0 fr rfl rfl (hh.relab e2) (h.firm_k e0 kA rfl rfl) (r.relab e2) (h.cnt_k e0 kA rfl rfl rfl) (h.q_k e0 kA rfl)⟩
theorem Cy (hat:X.fm.at_= -1) (hbx:X.fm.box≠1) (hb2:X.fm.box<=2) (hl:X.fm.last<=1):GI s X X:=by
 intro w lab B h;refine mn_ (Lq (hb:=B.hb) h.firm hat hbx hb2 hl) ?_;exact⟨rfl,lab,B,h.turn_new (kx_)⟩
def IC (s:AE) (t:Int) (i:Nat) (hx:Hw) (r:Bool) (hx':Hw):Prop:=∀ (W:World) (lab:Nat->Lb) (hb:Hb) (b:Fb) (y:Fm),y.kind=t->AP W lab s hb.H b y->AH W lab s hb hx->Ai W->lab 1= .obj 0->Calls prog (Dl t) #[.pointer b.F, .int .i64 i] W (IE W lab s hb r hx')
def St.acted (X:St) (y:Fm) (r:Bool) (hx':Hw):St:={ X with hx:=hx',fm:=if r then { y with box:=2,at_:= -1 } else y,q:=if r then .done else X.q }
def pFH (l:Lb):Bool:=decide (l= .obj 6)||l.isHard
theorem Tn (l:Lb) (h:pFH l=true):l.mut=true:=by
 rw [pFH,Eu,decide_eq_true_eq] at h;rcases h with rfl | h
 . rfl
 . cases l with
   | obj k=>simp [Lb.isHard,Lb.mut] at h ⊢;omega
   | sub k i=>rfl
theorem AN.steps (h:AN w lab s B X) {y:Fm} (hq:X.q= .sent p tok i x) (st:ZH w lab s B.hb B.fb y p tok i x r hx' e w'):WP w lab s B (X.acted y r hx') (.tuple #[]) e w':=by
 obtain⟨rfl,k,hh,b',hF,g0,g1⟩:=st;have kA:=k.mono fun j c=>by
  show pFH (lab j)=true;rcases c with rfl | c
  . rw [h.firm.lF];rfl
  . have c:(lab j).isHard=true:=c;rw [pFH,c,Bool.or_true]
 have e0:∀j,j<w.heap.size->lab j=lab j:=fun _ _=>rfl;have hQ:=h.q;rw [hq] at hQ;cases r
 . obtain⟨f,qn,sw,eq⟩:=g0 rfl;exact⟨rfl,lab,_,h.gen kA Tn rfl rfl rfl e0 (h.fr_k kA) hF rfl hh f (h.rpm_k e0 kA rfl rfl) (h.cnt_k e0 kA rfl rfl rfl) (show Z2 w' lab b' X.q by rw [hq];exact⟨qn,sw,by rw [eq];exact hQ.2.2.1,sw.lt⟩)⟩
 . obtain⟨f,qn,c1,lt,ge⟩:=g1 rfl;exact⟨rfl,lab,_,h.gen kA Tn rfl rfl rfl e0 (h.fr_k kA) hF rfl hh f (h.rpm_k e0 kA rfl rfl) (h.cnt_k e0 kA rfl rfl rfl) ⟨qn,c1,h.fr _ ge,lt⟩⟩
theorem NN (hq:X.q= .sent p tok i x) (hat:X.fm.at_=0) (hbx:X.fm.box=1) (htok:tok<=1023) (st:DG s p x i t) (act:IC s t i X.hx r hx') (hkd:X.fm.kind=t) (hid:X.fm.ident=i):GI s X (X.acted X.fm r hx'):=by
 intro w lab B h;have hQ:=h.q;rw [hq] at hQ;exact(Lo h.firm h.hard hat hbx hQ.1 htok hQ.2.1 hQ.2.2.1 st h.le h.l1 (fun W b' y' hF hk hf hh L=>by rw [<-hF];exact act W lab B.hb b' y' hk hf hh L h.l1) hkd hid).mono fun e w' g=>h.steps hq g
def Fm.taken (y:Fm) (t:Int) (i:Nat):Fm:={ y with wish:=Br y.wish t i,last:=0,at_:=0,kind:=t,ident:=i }
theorem NP (hq:X.q= .sent p tok i x) (hs:s.Ok) (hx0:∀i,i<s.nv->X.hx.m i=0) (hat:X.fm.at_= -1) (hbx:X.fm.box=1) (hl:X.fm.last<=1) (htok:tok<=1023) (st:DG s p x i t) (act:IC s t i X.hx r hx') (hc:Qz s X.fm.wish t i):GI s X (X.acted (X.fm.taken t i) r hx'):=by
 intro w lab B h;have hQ:=h.q;rw [hq] at hQ;exact(Lp h.firm h.hard hs h.fr hx0 hat hbx hQ.1 hl htok hQ.2.1 hQ.2.2.1 st h.le h.l1 (fun W b' y' hF hk hf hh L=>by rw [<-hF];exact act W lab B.hb b' y' hk hf hh L h.l1) hc).mono fun e w' g=>h.steps hq g
theorem Bv (t:Nat) (ht:t=0∨t=1∨t=2) (h0:(X.rm.tk t).st=q) (hq:q≠3):Kc s t X X:=fun w lab B h=>Nl h t ht h0 hq
theorem Ll (t:Nat) (ht:t=0∨t=1∨t=2) (h0:(X.rm.tk t).st=3) (hn:X.ev.length<=1000):Kc s t X (X.ended t):=fun w lab B h=>UO h t ht h0 hn
end
section
attribute [local go_sem] BI Fx
section
variable {w w':World} {s:AE}
def St.new (s:AE) (fb fc:Nat->Nat):St:=⟨Hw.new s fb fc,Fm.new,Rm.new,0,fun _=>0,false,fun _=>Cl.none,fun _=>false,[], .none⟩
def WNewP (w:World) (s:AE) (e:Ending) (w':World):Prop:=
 ∃lab B fb fc,e= .returned (.tuple #[.pointer B.W, .int .i64 0])∧AJ w w'∧AN w' lab s B (St.new s fb fc)∧∀j,j<w.heap.size->lab j= .obj 0
theorem Mq {v:Bx} (hs:s.Ok) (ha:A6 w v s) (L:Ai w):
 Calls prog 6 #[.agg #[.slice v.cb s.nc v.cc, .slice v.db s.nd v.dc, .slice v.rb s.nr v.rc, .slice v.vb s.nv v.vc]] w (WNewP w s):=by
 have n1:=hs.c2;have n2:=hs.d2;have n3:=hs.r2;have n4:=hs.v2;have HS:=Ae hs;have HA:=Ae ha;have HL:=Ae L;obtain⟨bx,hbx⟩:=ex w.heap.size;have HB:=Ae hbx;clear hs ha L;go_in;go_wp2_with fail;have kb:=(nr w).alloc (.cells (BI v s) 30);have bb:=AF.new w (Fx v s) 30;obtain⟨W1,hW1⟩:=ex (w.alloc (.cells (BI v s) 30));rw [hW1] at kb bb ⊢;rw [hbx] at bb;have K1:=Ae kb;have B1:=Ae bb;clear hW1 kb bb hbx;refine(YN HS.out (HA.out.keep K1.out fun _ _=>id)).mono ?_;rintro e w2 ⟨lab,hb,fb,fc,rfl,k2,h2,l2,f2⟩;have K2:=Ae (K1.out.then_ k2);have B2:=B1.out.keep k2 id;have BB:=Ae B2;have H2:=Ae h2;have L2:=Ae l2;have F2:=Ae f2;have x0:=B2.z 0;have x1:=B2.z 1;have x2:=B2.z 2;have x3:=B2.z 3;clear k2 B2 h2 l2 f2;go_wp2_with fail;refine(YU (lab:=lab) HS.out (HA.out.keep K2.out fun _ _=>id) F2.out).mono ?_;rintro e w3 ⟨b,rfl,k3,hF,f3⟩;have K3:=Ae k3;have HF:=Ae hF;have F3:=Ae f3;have B3:=BB.out.keep k3 id;have BB3:=Ae B3;have y0:=B3.z 0;have y1:=B3.z 1;have y2:=B3.z 2;have y3:=B3.z 3;have fr3:∀j,w3.heap.size<=j->upd lab b.F (.obj 6) j= .obj 0:=fun j hj=>by
  have lt:=f3.f.lt;rw [uo_ (by omega)];exact F2.out j (Nat.le_trans k3.size hj)
 have FR3:=Ae fr3;clear k3 hF f3 B3 x0 x1 x2 x3 fr3;go_wp2_with fail;refine(Zw (lab:=upd lab b.F (.obj 6)) HS.out (HA.out.keep (K2.out.then_ K3.out) fun _ _=>id) FR3.out).mono ?_;rintro e w4 ⟨rb,cb,rfl,k4,⟨g1,g2,g3⟩,lab4,e4,fr4,d4,r4,c4⟩;have K4:=Ae k4;have G:=Ae (And.intro g1 (And.intro g2 g3));have E4:=Ae e4;have FR4:=Ae fr4;have D4:=Ae d4;have R4:=Ae r4;have C4:=Ae c4;have B4:=BB3.out.keep k4 id;have y0:=B4.z 0;have y1:=B4.z 1;have y2:=B4.z 2;have y3:=B4.z 3;have lbx:=B4.lt;clear k4 g1 g2 g3 e4 fr4 d4 r4 c4 B4;go_wp2;go_ret2;obtain⟨W,hW⟩:=ex w4.heap.size;have eZ:((s.nd:Int)+s.nc+s.nr)=((s.nd+s.nc+s.nr:Nat):Int):=by push_cast;rfl
 rw [eZ];have kY:=(nr w4).alloc (.cells (CQ s ⟨hb,b,rb,cb,W, .slice none 0 0⟩ (St.new s fb fc)).toArray 77);have bY:=AF.new w4 (CQ s ⟨hb,b,rb,cb,W, .slice none 0 0⟩ (St.new s fb fc)) 77;rw [hW] at bY;have z1:=K1.out.size;have z2:=K2.out.size;have z3:=K3.out.size;have z4:=K4.out.size;have zF:=HF.out;have zf:=F3.out.f.lt;have l1:=HL.out.lt;have e4:∀j,j<w4.heap.size->upd lab4 W (.obj 11) j=lab4 j:=fun j hj=>uo_ (by omega);have e3:∀j,j<w3.heap.size->upd lab4 W (.obj 11) j=upd lab b.F (.obj 6) j:=fun j hj=>(e4 j (by omega)).trans (E4.out j hj);have e2:∀j,j<w2.heap.size->upd lab4 W (.obj 11) j=lab j:=fun j hj=>(e3 j (by omega)).trans (uo_ (by omega));refine⟨upd lab4 W (.obj 11),⟨hb,b,rb,cb,W, .slice none 0 0⟩,fb,fc,by rw [<-hW];rfl,K2.out.then_ (K3.out.then_ (K4.out.then_ kY)),?_,fun j hj=>by rw [e2 j (by omega)];exact L2.out j (by omega)⟩;refine⟨(H2.out.relab e2).new (K3.out.then_ (K4.out.then_ kY)),(F3.out.relab e3).new (K4.out.then_ kY),(R4.out.relab e4).new kY,(C4.out.relab e4).new kY,bY,⟨Gs,fun j e=>by cases e⟩,upd_same _ _ _,fun j hj=>?_,HL.out.keep (K2.out.then_ (K3.out.then_ (K4.out.then_ kY))) id,?_,trivial⟩
 . have:j≠W:=fun c=>absurd (show j<_ from by rw [c];exact bY.lt) (Nat.not_lt.2 hj);rw [uo_ this];exact FR4.out j (Nat.le_trans kY.size hj)
 . rw [e2 1 (by omega)];exact L2.out 1 (by omega)
end
end
theorem TM:Dl 117=142:=by decide
theorem TQ:Dl 100=143:=by decide
theorem TP:Dl 107=143:=by decide
theorem act99:Dl 99=144:=by decide
theorem act111:Dl 111=145:=by decide
theorem ZC:Dl 114=146:=by decide
section
variable {s:AE} {x:Hw}
theorem Mm (d:Nat) (hd:d<s.nd) (hdn:(x.ds d).isDown=true) (ab:(x.ds d).above= -1∨∃a:Nat,(x.ds d).above=(a:Int)∧a<s.nd∧(x.ds a).phase=49):IC s 117 d x false { x with ds:=upd x.ds d (x.ds d).up }:=by
 intro W lab hb b y hk hf hh L l1;rw [TM];exact M8 hf hh d hd hdn ab
theorem Iz (d:Nat) (hd:d<s.nd) (h1:(x.ds d).phase≠48) (h2:(x.ds d).phase≠116) (h3:(x.ds d).phase≠49):IC s 117 d x false x:=by
 intro W lab hb b y hk hf hh L l1;rw [TM];exact OZ hf hh d hd rfl h1 h2 h3
theorem Ot (hs:s.Ok) (d:Nat) (hd:d<s.nd) (hp:(x.ds d).phase=49) (hca:∀j,j<s.nv->x.ca j<=2):IC s 117 d x true { x with ca:=Cw s d x.ca s.nv }:=by
 intro W lab hb b y hk hf hh L l1;rw [TM];exact O6 hf hh hs L l1 d hd hp hca
theorem MG (ht:t=100∨t=107) (d:Nat) (hd:d<s.nd) (hdn:(x.ds d).isDown=true):IC s t d x true x:=by
 intro W lab hb b y hk hf hh L l1;rcases ht with rfl | rfl
 . rw [TQ];exact Hd hf hh d hd hdn
 . rw [TP];exact Hd hf hh d hd hdn
theorem MF (ht:t=100∨t=107) (hs:s.Ok) (d:Nat) (hd:d<s.nd) (hp:(x.ds d).phase=49) (hca:∀j,j<s.nv->x.ca j<=2) (hst:Ak s d x.ca s.nv=false):IC s t d x false { x with ca:=Au s d x.ca s.nv }:=by
 intro W lab hb b y hk hf hh L l1;rcases ht with rfl | rfl
 . rw [TQ];exact Hc hf hh hs L l1 d hd hp hca hst
 . rw [TP];exact Hc hf hh hs L l1 d hd hp hca hst
theorem Ov {q:Bool} (hs:s.Ok) (d:Nat) (hd:d<s.nd) (hp:(x.ds d).phase=49) (hca:∀j,j<s.nv->x.ca j<=2) (hst:Ak s d x.ca s.nv=true) (hb:q=true->(x.ds d).ret=true) (lo:∀j,j<s.nd->(x.ds j).above=(d:Int)->(x.ds j).isDown=true):
 IC s (if q then 107 else 100) d x false { x with ca:=Au s d x.ca s.nv,ds:=upd x.ds d ((x.ds d).down q) }:=by
 intro W lab hb2 b y hk hf hh L l1;cases q
 . show Calls prog (Dl 100) _ _ _;rw [TQ];exact Jo hf hh hs L l1 d hd hp hca hst hk lo
 . show Calls prog (Dl 107) _ _ _;rw [TP];exact Jn hf hh hs L l1 d hd hp hca hst hk (hb rfl) lo
theorem Qo (i:Nat) (hi:i<s.nc) (hk:(x.ns i).kind=112∨(x.ns i).kind=103) (hm:∀j,j<s.nc->(x.ns j).kind≠111->0<(x.ns j).m)
 (hr:Ar (upd x.ns i ((x.ns i).gate true)) s.nc i=true):IC s 99 i x true { x with ns:=upd x.ns i ((x.ns i).gate true) }:=by
 intro W lab hb b y _ hf hh L l1;rw [act99];exact JQ hf hh i hi hk hm hr
theorem Ou (hs:s.Ok) (i:Nat) (hi:i<s.nc) (hk:(x.ns i).kind=112∨(x.ns i).kind=103) (hm1:(s.ck i).m=1) (hm:∀j,j<s.nc->(x.ns j).kind≠111->0<(x.ns j).m)
 (hr:Ar (upd x.ns i ((x.ns i).gate true)) s.nc i=false) (hr2:Ar (upd x.ns i ((x.ns i).gate true)) s.nc ((s.ck i).src 0)=true):IC s 99 i x false { x with ns:=upd x.ns i ((x.ns i).gate true) }:=by
 intro W lab hb b y _ hf hh L l1;rw [act99];exact Iv hf hh hs i hi hk hm1 hm hr hr2
theorem ZB (i:Nat) (hi:i<s.nc) (hk:(x.ns i).kind=112∨(x.ns i).kind=103):IC s 111 i x true { x with ns:=upd x.ns i ((x.ns i).gate false) }:=by
 intro W lab hb b y _ hf hh L l1;rw [act111];exact M9 hf hh i hi hk
theorem Mn (i:Nat) (hi:i<s.nr) (hr:(x.ls i).held=false):IC s 114 i x true x:=by
 intro W lab hb b y _ hf hh L l1;rw [ZC];exact Iu hf hh i hi hr
theorem ZA (i:Nat) (hi:i<s.nr) (hr:(x.ls i).held=true):IC s 114 i x false { x with ls:=upd x.ls i { x.ls i with wanted:=true } }:=by
 intro W lab hb b y _ hf hh L l1;rw [ZC];exact O7 hf hh i hi hr
end
def Sw (s:AE) (i:Nat):Prop:=(s.ck i).kind=112∨(s.ck i).kind=103
theorem Om (hs:s.Ok):∀f g c,c<f->c<g->c<s.nc->AU s f c=AU s g c:=by
 intro f
 induction f with
 | zero=>intro g c h;omega
 | succ f ih=>
  intro g c hf hg hc
  cases g with
  | zero=>omega
  | succ g=>
   rw [AU,AU];by_cases m0:(s.ck c).m=0
   . rw [if_pos m0,if_pos m0]
   . have l:=(hs.ck c hc).less 0 (by omega);rw [if_neg m0,if_neg m0,ih g _ (by omega) (by omega) (by omega)]
theorem Ol (hs:s.Ok) (hc:c<s.nc):AU s s.nc c=c::(if(s.ck c).m=0 then [] else AU s s.nc ((s.ck c).src 0)):=by
 obtain⟨k,hk⟩:∃k,s.nc=k+1:=⟨s.nc - 1,by omega⟩;have e:AU s s.nc c=c::(if(s.ck c).m=0 then [] else AU s k ((s.ck c).src 0)):=by rw [hk,AU]
 rw [e];by_cases m0:(s.ck c).m=0
 . rw [if_pos m0,if_pos m0]
 . have l:=(hs.ck c hc).less 0 (by omega);rw [if_neg m0,if_neg m0,Om hs k s.nc _ (by omega) (by omega) (by omega)]
theorem Cq (hs:s.Ok) (hc:c<s.nc):x ∈ AU s s.nc c ↔ x=c∨((s.ck c).m≠0∧x ∈ AU s s.nc ((s.ck c).src 0)):=by
 rw [Ol hs hc,List.mem_cons];by_cases m0:(s.ck c).m=0 <;> simp [m0]
theorem Ix (hs:s.Ok):∀n c x,c<n->c<s.nc->x ∈ AU s s.nc c->x<=c:=by
 intro n
 induction n with
 | zero=>intro c x h;omega
 | succ n ih=>
  intro c x hn hc h;rcases(Cq hs hc).1 h with rfl | ⟨m0,h⟩
  . omega
  . have l:=(hs.ck c hc).less 0 (by omega);have:=ih _ x (by omega) (by omega) h;omega
theorem Qe (hs:s.Ok):∀n c i x,c<n->c<s.nc->i ∈ AU s s.nc c->x ∈ AU s s.nc i->x ∈ AU s s.nc c:=by
 intro n
 induction n with
 | zero=>intro c i x h;omega
 | succ n ih=>
  intro c i x hn hc h hx;rcases(Cq hs hc).1 h with rfl | ⟨m0,h⟩
  . exact hx
  . have l:=(hs.ck c hc).less 0 (by omega);exact(Cq hs hc).2 (.inr ⟨m0,ih _ i x (by omega) (by omega) h hx⟩)
structure NdOk (c:Ck) (d:Nd) (q:Bool) (l:Int):Prop where
 kind:d.kind=c.kind
 m:d.m=c.m
 src:d.src=c.src
 lock:d.lock=c.lock
 set:d.set=0
 want:d.want=0
 on:(c.kind=112∨c.kind=103)->d.on=q
 left:d.left=l
def Gd (s:AE) (ns:Nat->Nd) (on:Nat->Bool) (lf:Nat->Int):Prop:=∀i,i<s.nc->NdOk (s.ck i) (ns i) (on i) (lf i)
def Lf (s:AE) (on:Nat->Bool) (i:Nat):Int:=if(s.ck i).kind=112∧on i=false then(s.ck i).lock else 0
def Ef (s:AE) (on:Nat->Bool):Prop:=∀j,j<s.nc->on j=true->∀c ∈ AU s s.nc j,Sw s c->on c=true
theorem Nc (hs:s.Ok) (on:Nat->Bool) (i:Nat) (hi:i<s.nc):0<=Lf s on i∧Lf s on i<=3:=by
 unfold Lf;split
 . rename_i h;exact(hs.ck i hi).lock h.1
 . omega
theorem Jv (hs:s.Ok) (h:Gd s ns on lf):
 ∀f i,i<f->i<s.nc->(∀c ∈ AU s s.nc i,Sw s c->on c=true∧((s.ck c).kind=112->lf c=0))->Ar ns f i=true:=by
 intro f
 induction f with
 | zero=>intro i h;omega
 | succ f ih=>
  intro i hf hi hc;have d:=h i hi;rw [Ar,d.kind];by_cases k1:(s.ck i).kind=111
  . rw [if_pos k1]
  have m0:(s.ck i).m≠0:=by
   rcases(hs.ck i hi).kinds with e | e | e | e | e
   . exact absurd e k1
   . have:=(hs.ck i hi).one (.inl e);omega
   . have:=(hs.ck i hi).one (.inr (.inl e));omega
   . have:=(hs.ck i hi).one (.inr (.inr e));omega
   . have:=(hs.ck i hi).mux e;omega
  have l:=(hs.ck i hi).less 0 (by omega);have r:Ar ns f ((ns i).src (ns i).set)=true:=by
   rw [d.src,d.set];exact ih _ (by omega) (by omega) fun c hcc=>hc c ((Cq hs hi).2 (.inr ⟨m0,hcc⟩))
  rw [if_neg k1,r];by_cases k2:(s.ck i).kind=112
  . have g:=hc i ((Cq hs hi).2 (.inl rfl)) (.inl k2);rw [if_pos k2,d.on (.inl k2),d.left,g.1,g.2 k2];rfl
  rw [if_neg k2];by_cases k3:(s.ck i).kind=103
  . have g:=hc i ((Cq hs hi).2 (.inl rfl)) (.inr k3);rw [if_pos k3,d.on (.inr k3),g.1];rfl
  . rw [if_neg k3]
theorem Qb (hs:s.Ok) (hi:i<s.nc) (hk:(s.ck i).kind≠111):0<(s.ck i).m:=by
 rcases(hs.ck i hi).kinds with e | e | e | e | e
 . exact absurd e hk
 . have:=(hs.ck i hi).one (.inl e);omega
 . have:=(hs.ck i hi).one (.inr (.inl e));omega
 . have:=(hs.ck i hi).one (.inr (.inr e));omega
 . have:=(hs.ck i hi).mux e;omega
theorem Tp (h:Gd s ns on lf) (hr:∀i,i<s.nc->(s.ck i).kind=112->on i=true->Ar ns s.nc ((s.ck i).src 0)=true):
 Gd s (EC ns s.nc s.nc) on (fun i=>if(s.ck i).kind=112∧on i=true∧0<lf i then lf i - 1 else lf i):=by
 intro i hi;have d:=h i hi;have e:EC ns s.nc s.nc i=(ns i).tick (Ar ns s.nc ((s.ck i).src 0)):=by
  rw [EC,if_pos hi,J9,d.src,d.set]
 rw [e];by_cases c:(ns i).kind=112∧(ns i).on=true
 . have k2:=d.kind ▸ c.1;have o:on i=true:=(d.on (.inl k2)) ▸ c.2;rw [hr i hi k2 o,Nd.tick,if_pos c,if_pos rfl];by_cases l0:0<(ns i).left
   . rw [if_pos l0];exact⟨d.kind,d.m,d.src,d.lock,d.set,d.want,d.on,by rw [d.left] at l0;simp only [k2,o,l0,and_self,if_true];rw [d.left]⟩
   . rw [if_neg l0];exact⟨d.kind,d.m,d.src,d.lock,d.set,d.want,d.on,by rw [d.left] at l0;dsimp only;rw [if_neg (fun a=>l0 a.2.2)];exact d.left⟩
 . rw [Nd.tick,if_neg c];refine⟨d.kind,d.m,d.src,d.lock,d.set,d.want,d.on,?_⟩;dsimp only;rw [if_neg]
   . exact d.left
   . rintro⟨k2,o, -⟩;exact c ⟨d.kind.trans k2,(d.on (.inl k2)).trans o⟩
theorem P0 (hs:s.Ok) (h:Gd s ns on lf) (cl:Ef s on) (i:Nat) (hi:i<s.nc) (k2:(s.ck i).kind=112) (o:on i=true)
 (z:∀c ∈ AU s s.nc ((s.ck i).src 0),(s.ck c).kind=112->on c=true->lf c=0):Ar ns s.nc ((s.ck i).src 0)=true:=by
 have m0:=Qb hs hi (by omega);have l:=(hs.ck i hi).less 0 (by omega);refine Jv hs h s.nc _ (by omega) (by omega) fun c hc sw=>?_;have oc:=cl i hi o c ((Cq hs hi).2 (.inr ⟨by omega,hc⟩)) sw;exact⟨oc,fun k=>z c hc k oc⟩
theorem Jx (hs:s.Ok) (h:Gd s ns on (Lf s on)) (cl:Ef s on):Gd s (EC ns s.nc s.nc) on (Lf s on):=by
 have g:=Tp h fun i hi k2 o=>P0 hs h cl i hi k2 o fun c _ _ oc=>by rw [Lf,if_neg];rintro⟨-,h⟩;rw [oc] at h;cases h
 intro i hi;have d:=g i hi;have e:(if(s.ck i).kind=112∧on i=true∧0<Lf s on i then Lf s on i - 1 else Lf s on i)=Lf s on i:=by
  rw [if_neg];rintro⟨-,o,h⟩;rw [Lf,if_neg] at h
  . omega
  . rintro⟨-,h2⟩;rw [o] at h2;cases h2
 dsimp only at d;rw [e] at d;exact d
theorem L8 (h:Gd s ns on lf) (i:Nat):Gd s (upd ns i ((ns i).gate true)) (upd on i true) lf:=by
 intro j hj;by_cases e:j=i
 . subst e;have d:=h j hj;rw [upd_same,upd_same,Nd.gate,if_neg (by simp)];exact⟨d.kind,d.m,d.src,d.lock,d.set,d.want,fun _=>rfl,d.left⟩
 . rw [uo_ e,uo_ e];exact h j hj
theorem Pn (h:Gd s ns on (Lf s on)) (i:Nat):Gd s (upd ns i ((ns i).gate false)) (upd on i false) (Lf s (upd on i false)):=by
 intro j hj;by_cases e:j=i
 . subst e;have d:=h j hj;rw [upd_same,upd_same,Nd.gate];by_cases k2:(s.ck j).kind=112
   . rw [if_pos ⟨d.kind.trans k2,rfl⟩];exact⟨d.kind,d.m,d.src,d.lock,d.set,d.want,fun _=>rfl,by rw [Lf,upd_same,if_pos ⟨k2,rfl⟩];exact d.lock⟩
   . rw [if_neg (fun a=>k2 (d.kind.symm.trans a.1))];exact⟨d.kind,d.m,d.src,d.lock,d.set,d.want,fun _=>rfl,by rw [Lf,if_neg (fun a=>k2 a.1)];have:=d.left;rw [Lf,if_neg (fun a=>k2 a.1)] at this;exact this⟩
 . have d:=h j hj;rw [uo_ e,uo_ e];have e2:Lf s (upd on i false) j=Lf s on j:=by rw [Lf,Lf,uo_ e]
   rw [e2];exact d
theorem cl_on (hs:s.Ok) (cl:Ef s on) (hi:i<s.nc) (hc:∀c ∈ AU s s.nc ((s.ck i).src 0),Sw s c->on c=true):Ef s (upd on i true):=by
 intro j hj o c h sw;by_cases e:c=i
 . subst e;rw [upd_same]
 rw [uo_ e];by_cases e2:j=i
 . subst e2;rcases(Cq hs hj).1 h with rfl | ⟨-,h⟩
   . exact absurd rfl e
   . exact hc c h sw
 . rw [uo_ e2] at o;exact cl j hj o c h sw
theorem cl_off (cl:Ef s on) (hc:∀j,j<s.nc->j≠i->on j=true->i ∉ AU s s.nc j):Ef s (upd on i false):=by
 intro j hj o c h sw;have e2:j≠i:=by rintro rfl;rw [upd_same] at o;cases o
 rw [uo_ e2] at o;have e:c≠i:=by rintro rfl;exact hc j hj e2 o h
 rw [uo_ e];exact cl j hj o c h sw
end Go.Proofs.YtpekoejdnhaohaaGreatDoor
