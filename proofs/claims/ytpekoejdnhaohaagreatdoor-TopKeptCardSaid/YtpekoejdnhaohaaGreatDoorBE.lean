/- TopKept's walk: called with any rows of numbers it returns true, and old memory reads as before. The conditions: the letters of package quiet are laid, and block 0 holds an int. -/
import Derived.Test.YtpekoejdnhaohaaGreatDoorBD
import Derived.Test.YtpekoejdnhaohaaGreatDoorZ
namespace Go.Proofs.YtpekoejdnhaohaaGreatDoor
open Go.RowKit Tryz
set_option maxRecDepth 100000
set_option maxHeartbeats 40000000
set_option linter.all false
section
attribute [local go_sem] BI Fx
theorem xC:inf_ prog 37=some (some (.int .u32 0),1,4):=by kernel_rfl
def zO (f:Nat->Int) (k:Nat):List Value:=(List.range k).map fun i=> .int .u32 (f i)
theorem VC (f:Nat->Int) (k:Nat):zO f (k+1)=zO f k++[.int .u32 (f k)]:=by unfold zO;rw [List.range_succ,List.map_append];rfl
theorem Wt (w:World) (al:Option Addr) (nl cl:Nat) (zl:Nat->Int) (at_:Int) (av:Option Addr) (nv cv:Nat) (zv:Nat->Int) (ah:Option Addr) (nh ch:Nat) (zh:Nat->Int)
 (hl:IN .i64 w al nl zl) (hv:IN .u32 w av nv zv) (hh:IN .i64 w ah nh zh) (hat: -9223372036854775808<=at_∧at_<=9223372036854775807) (hnl:nl<=9223372036854775807) (hnv:nv<=9223372036854775807) (hnh:nh<=9223372036854775807)
 (L:Ai w) (hm:∃m:Int,w.cell? ⟨0,0,none⟩=some (.int .i64 m)):
 Calls prog 3 #[.slice al nl cl, .int .i64 at_, .slice av nv cv, .slice ah nh ch] w fun e w'=>e= .returned (.bool true)∧AJ w w':=by
 obtain⟨i0,KI,KZ0,KZ1,KZ2⟩:=ik_ xC;have HL:=Ae hl;have HV:=Ae hv;have HH:=Ae hh;have HC:=Ae (And.intro L hm);have HAT:=Ae hat
 clear hl hv hh L hm;go_in;go_wp2_with fail;refine(Yu w HC.out.1 HC.out.2).mono ?_;rintro e w1 ⟨rfl,k1⟩;have K1:=Ae k1;clear k1;go_wp2_with fail;refine(yT w1 al nl cl zl (HL.out.keep K1.out fun _ _=>id) hnl).mono ?_;rintro e w2 ⟨s,v,hs,rfl,k2,soc⟩;have K2:=Ae (K1.out.then_ k2);have HS:=Ae hs;have SO:=Ae soc;have d2:=hs.v2;have d1:=hs.v1;clear k2 hs soc;unfold Kv;go_wp2_with fail;obtain⟨SC,hSC⟩:=ex w2.heap.size;have kb:=(nr w2).alloc (.cells (BI v s) 30);have bb:AF _ w2.heap.size 30 _:=AF.new w2 (Fx v s) 30;obtain⟨W1,hW1⟩:=ex (w2.alloc (.cells (BI v s) 30));have hW1':w2.alloc (.cells (Fx v s).toArray 30)=W1:=hW1;rw [hW1',hSC] at bb;rw [hW1] at kb;rw [hW1,hSC];have K3:=Ae (K2.out.then_ kb);have SB:=Ae bb;have S3:=Ae (SO.out.new kb);have x0:=bb.z 0;have x1:=bb.z 1;have x2:=bb.z 2;have x3:=bb.z 3;have LSC:AG (SC<W1.heap.size):=⟨bb.lt⟩;clear hW1 hW1' hSC kb bb;go_wp2_with fail;refine(Mq HS.out S3.out (HC.out.1.keep K3.out id)).mono ?_;rintro e w4 ⟨lab,B,fb,fc,rfl,k4,wa,lo⟩;have K4:=Ae (K3.out.then_ k4);have SB4:=Ae (SB.out.keep k4 id);have S4:=Ae (S3.out.new k4);have WA:=Ae wa;have LO:=Ae lo;have z4:=k4.size;clear x0 x1 x2 x3 k4 wa lo;by_cases h4:4<nh
 . have hi:(4:Int)<nh:=by omega
   go_wp2;go_ret;exact⟨rfl,K4.out⟩
 have hi:(nh:Int)<=4:=by omega
 have x0:=SB4.out.z 0;have x1:=SB4.out.z 1;have x2:=SB4.out.z 2;have x3:=SB4.out.z 3;go_wp2_with fail;refine(Kl w4 at_ s.nv HAT.out ⟨by omega,by omega⟩).mono ?_;rintro e w' ⟨⟨d,hd,rfl⟩,rfl⟩;obtain⟨q,hq⟩:=ex (s.dv d);have HQ:=Ae hq;have dc:=fun j hj=>S4.out.dv.cell d j hd hj;have y0:w'.cell? (v.vb (d*6))=some (.int .i64 q.clock):=by rw [<-hq];exact dc 0 (by omega)
 have y1:w'.cell? (v.vb (d*6+1))=some (.int .i64 q.dom):=by rw [<-hq];exact dc 1 (by omega)
 have y2:w'.cell? (v.vb (d*6+2))=some (.int .i64 q.line):=by rw [<-hq];exact dc 2 (by omega)
 have y3:w'.cell? (v.vb (d*6+3))=some (.int .u32 q.clamp):=by rw [<-hq];exact dc 3 (by omega)
 obtain⟨ga,gn,gcp,hg,hgn,hga⟩:∃ga gn gcp,Aa (v.gb d) q.nreg (v.gc d)= .slice ga gn gcp∧gn=q.nreg∧(q.nreg≠0->ga=some (v.gb d 0)):=by
  by_cases c:q.nreg=0
  . rw [c];exact⟨_,_,_,rfl,rfl,fun h=>absurd rfl h⟩
  . rw [Dj (by omega)];exact⟨_,_,_,rfl,rfl,fun _=>rfl⟩
 obtain⟨qa,qn,qcp,hqq⟩:=Kw (v.qb d) q.nneed (v.qc d);have y4:w'.cell? (v.vb (d*6+4))=some (.slice ga gn gcp):=by rw [<-hg, <-hq];exact dc 4 (by omega)
 have y5:w'.cell? (v.vb (d*6+5))=some (.slice qa qn qcp):=by rw [<-hqq, <-hq];exact dc 5 (by omega)
 have nr4:gn<=4:=by rw [hgn, <-hq];exact HS.out.regs d hd
 have HG:=Ae (And.intro hgn hga);have hdn:(d:Int)<s.nv:=by omega
 clear dc hq hg hqq hgn hga;go_wp2_with fail;obtain⟨XB,hXB⟩:=ex w'.heap.size;have kb:=(nr w').alloc (.cells #[.int .i64 q.clock, .int .i64 q.dom, .int .i64 q.line, .int .u32 q.clamp, .slice ga gn gcp, .slice qa qn qcp] 40);have bb:=AF.new w' [.int .i64 q.clock, .int .i64 q.dom, .int .i64 q.line, .int .u32 q.clamp, .slice ga gn gcp, .slice qa qn qcp] 40;obtain⟨W5,hW5⟩:=ex (w'.alloc (.cells #[.int .i64 q.clock, .int .i64 q.dom, .int .i64 q.line, .int .u32 q.clamp, .slice ga gn gcp, .slice qa qn qcp] 40));have hW5':w'.alloc (.cells [.int .i64 q.clock, .int .i64 q.dom, .int .i64 q.line, .int .u32 q.clamp, .slice ga gn gcp, .slice qa qn qcp].toArray 40)=W5:=hW5;rw [hW5',hXB] at bb;rw [hW5] at kb;rw [hW5];have BX:=Ae bb;have S5:=Ae (S4.out.new kb);have SB5:=Ae (SB4.out.keep kb id);have K5:=Ae (K4.out.then_ kb);have WA5:=Ae (WA.out.new kb);have LX:AG (lab XB= .obj 0):=⟨WA.out.fr XB (by omega)⟩;obtain⟨X1,hX1⟩:=Nw HS.out hd (QB HS.out hd fb fc) (by omega) (by omega);have G1:=Ae hX1;clear hW5 hW5' kb bb hX1 x0 x1 x2 x3 y0 y1 y2 y3 y4 y5;have ST:AG (∀ (S:Nat->Prop) (wz:World),AD S W5 wz->(∀j,lab j= .obj 0->¬S j)->A6 wz v s∧AF wz SC 30 (Fx v s)∧AF wz XB 40 [.int .i64 q.clock, .int .i64 q.dom, .int .i64 q.line, .int .u32 q.clamp, .slice ga gn gcp, .slice qa qn qcp]∧IN .u32 wz av nv zv∧IN .i64 wz ah nh zh):=⟨fun S wz kz hS=>by
  have kwz:=(K5.out.mono fun j e=>e.elim).trans kz (fun j _ e=>e);have ho:∀j,j<w.heap.size->¬S j:=fun j hj=>hS j (LO.out j (Bo hj K3.out.size));exact⟨S5.out.keep kz fun b hb=>hS b (LO.out b (S3.out.lt b hb)),SB5.out.keep kz (hS _ (LO.out _ LSC.out)),BX.out.keep kz (hS _ LX.out),HV.out.keep kwz ho,HH.out.keep kwz ho⟩⟩
 have mut0:∀j,lab j= .obj 0->¬SL lab Lb.mut j:=fun j e c=>by have c:(lab j).mut=true:=c;rw [e] at c;cases c
 have M0:=Ae mut0;clear mut0;refine(G1.out.1 W5 lab B WA5.out).mono ?_;rintro e w6 ⟨rfl,lab6,B6,T6⟩;have T6:=Ae T6;have ST6:=Ae (ST.out _ w6 T6.out.k M0.out);have GR:AG (∀wz,AJ w6 wz->∀i,i<gn->wz.cell? (v.gb d (i*2))=some (.int .u32 (q.reg i).reset)):=⟨fun wz kz i hi=>by
  have e:=(((ST6.out.1.new kz).reg d hd (by rw [HQ.out, <-HG.out.1];omega)).cell i 0 (by rw [HQ.out, <-HG.out.1];exact hi) (by omega));rw [HQ.out] at e;exact e⟩
 go_wp2_with fail;obtain⟨LB,hLB⟩:=ex w6.heap.size;have b46:∀wz,AJ w6 wz->wz.cell? (XB 4)=some (.slice ga gn gcp):=fun wz kz=>(ST6.out.2.2.1.keep kz id).cell 4;have B46:=Ae b46;clear b46;go_loopw [15,16] (fun sl i wr=>∃k:Nat,k<=gn∧i= .int .i64 k∧AJ w6 wr∧∃a c,sl= .slice a k c∧wr.ownsRow LB 37 1 (.slice a k c) k (zO (fun i=>(q.reg i).reset) k)) (fun _ i _=>gn - (intOf i).toNat);case atStart=>exact⟨0,by omega,rfl,kx_,none,0,rfl,Gs⟩
 case round=>
  obtain⟨k,hk,rfl,kp,a,c,rfl,own⟩:=hrel;have KP:=Ae kp;have OP:=Ae own;have b4:=B46.out wr kp;clear kp own;by_cases hlt:k<gn
  . have hc:(k:Int)<gn:=by omega
    obtain rfl:ga=some (v.gb d 0):=HG.out.2 (by rw [<-HG.out.1];omega);have g0:=GR.out wr KP.out k hlt;obtain⟨rs,hrs⟩:=ex ((q.reg k).reset);rw [hrs] at g0;have HRS:=Ae hrs;have zKP:=KP.out.size;clear hrs;go_wp2_with (at_builtin;refine wpList_append_own _ rfl (.tmp 77) (.tmp 84) 23 rfl LB 37 i0 _ 1 4 underlying23 KI.out KZ0.out KZ1.out KZ2.out rfl (by decide) _ _ _ rfl (OP.out.alloc _) (wr.heap.size 0) 1 1 [.int .u32 rs] rfl rfl (Ee _ _ _) (by simp [Value.oneCell']) (by unfold maxLen;omega) (by omega) (by simp;omega) ?_;intro v' w3 own3 grow3 _;obtain⟨ao',c',hv⟩:=AI own3;subst hv;have KO3:=Ae own3;have KK:=Ae (((AD.refl (fun j=>some j=(Value.slice a k c).ownBlock) wr).alloc (.cells #[.int .u32 rs] 37)).grown grow3 (fun j e _=>e.symm));have hrow:∀j,some j=(Value.slice a k c).ownBlock->LB<=j:=fun j e=>(OP.out.lt j e.symm).1;have K3':AG (AJ w6 w3):=⟨KP.out.trans KK.out (fun j hj e=>absurd (hrow j e) (by omega))⟩;clear own3 grow3 hrow);go_roundw;case rel=>exact⟨k+1,by omega,by go_num,K3'.out,ao',c',rfl,by rw [VC,HRS.out];exact KO3.out⟩
    case measure=>simp [intOf];omega
  . obtain rfl:k=gn:=by omega
    have hc:¬(k:Int)<k:=by omega
    obtain⟨wM,hwM⟩:∃wM,wM=wr:=⟨_,rfl⟩;subst hwM;obtain⟨labM,hlM⟩:∃labM:Nat->Lb,labM=fun j=>if j<w6.heap.size then lab6 j else if j<wM.heap.size then .obj 20 else .obj 0:=⟨_,rfl⟩
    obtain⟨nb,hnb⟩:∃nb,LB<=nb∧(k≠0->a=some ⟨nb,0,none⟩∧nb<wM.heap.size∧labM nb= .obj 20∧Row wM nb 37 k (fun r=> .int .u32 (q.reg r).reset)):=by
     by_cases k0:k=0
     . exact⟨LB,al11_ _,fun h=>absurd k0 h⟩
     . obtain⟨g,hg,row,hgl⟩:=Hq OP.out (by omega);refine⟨g,hgl,fun _=>⟨hg,row.lt,?_,row⟩⟩;rw [hlM];dsimp only;rw [if_neg (by omega),if_pos row.lt]
    have zM:=KP.out.size;have WM:AG (AN wM labM s B6 X1):=⟨T6.out.h.adopt KP.out (fun j hj=>by rw [hlM];exact if_pos hj) (fun j hj=>by rw [hlM];dsimp only;rw [if_neg (by omega),if_neg (by omega)])⟩;have z65:=T6.out.k.size;have SZ:AG (∀X wz lz Bz,Trn wM labM s B6 nb X wz lz Bz->AD (SL lab Lb.mut) W5 wz):=⟨fun X wz lz Bz T=>by
     refine((T6.out.k.trans KP.out fun _ _ e=>e.elim).trans T.k fun j hj c=>?_);rcases c with c | c
     . rw [hlM] at c;dsimp only at c;rw [if_pos (by omega),T6.out.e j hj] at c;exact c
     . omega⟩
    have FIN:AG (∀X wz lz Bz,Trn wM labM s B6 nb X wz lz Bz->AJ w wz):=⟨fun X wz lz Bz T=>K5.out.trans (SZ.out X wz lz Bz T) fun j hj c=>M0.out j (LO.out j (Bo hj K3.out.size)) c⟩;have STZ:AG (∀X wz lz Bz,Trn wM labM s B6 nb X wz lz Bz->_):=⟨fun X wz lz Bz T=>ST.out _ wz (SZ.out X wz lz Bz T) M0.out⟩;have NB:=Ae hnb.2;have T0:AG (Trn wM labM s B6 nb X1 wM labM B6):=⟨.refl WM.out⟩;have BW:AG (B6.W=B.W):=⟨T6.out.b.W⟩;have H1:=Ae G1.out.2;clear hnb hlM zM z65;go_wp2;go_loopw [17] (fun i wz=>∃j:Nat,j<=nh∧i= .int .i64 j∧∃X lz Bz vv m,Trn wM labM s B6 nb X wz lz Bz∧Bn s X d 1 false m vv∧m<=1+6*j∧(k≠0->Row wz nb 37 k (fun r=> .int .u32 (vv r)))) (fun i _=>nh - (intOf i).toNat);case atStart=>exact⟨0,by omega,rfl,X1,labM,B6,_,1,T0.out,H1.out,by omega,fun h=>by rw [HQ.out];exact(NB.out h).2.2.2⟩
    case round=>
     obtain⟨j,hj,rfl,X,lz,Bz,vv,m,TZ,HZ,hm,row⟩:=hrel;have TZ:=Ae TZ;have HZ:=Ae HZ;have RW:=Ae row;have FZ:=Ae (STZ.out _ _ _ _ TZ.out);have b4:=FZ.out.2.2.1.z 4;clear row;by_cases hlt:j<nh
     . have hc2:(j:Int)<nh:=by omega
       go_wp2_with fail;obtain⟨w7,hw7⟩:∃w7,w7=wr:=⟨_,rfl⟩;subst hw7;go_loopw [18] (fun i wz=>∃r:Nat,r<=k∧i= .int .i64 r∧∃X lz Bz vv m,Trn wM labM s B6 nb X wz lz Bz∧Bn s X d 1 false m vv∧m<=1+6*j+r∧(k≠0->Row wz nb 37 k (fun r=> .int .u32 (vv r)))) (fun i _=>k - (intOf i).toNat);case atStart=>exact⟨0,by omega,rfl,X,lz,Bz,vv,m,TZ.out,HZ.out,by omega,RW.out⟩
       case round=>
        obtain⟨r,hr,rfl,X2,l2,B2,v2,m2,T2,H2,hm2,row2⟩:=hrel;have T2:=Ae T2;have H2:=Ae H2;have R2:=Ae row2;have F2:=Ae (STZ.out _ _ _ _ T2.out);have b4':=F2.out.2.2.1.z 4;have B2W:AG (B2.W=B.W):=⟨T2.out.b.W.trans BW.out⟩;clear row2;by_cases hcv:r<k∧r<nv
        . have hlt2:=hcv.1;have hlv:=hcv.2;clear hcv;have hc3:(r:Int)<k:=by omega
          have hc4:(r:Int)<nv:=by omega
          obtain⟨vb,vo,rfl,_,vc⟩:=F2.out.2.2.2.1.c (by omega);have vc0:=vc r hlv;have wf0:=F2.out.2.2.2.1.wf r hlv;obtain⟨z,hz⟩:=ex (zv r);rw [hz] at vc0 wf0;clear vc;obtain⟨rfl,ltb,l20, -⟩:=NB.out (by omega);have L20:=Ae (And.intro ltb l20);obtain⟨vl,hvl⟩:=ex ((z+(j:Int)) % 4294967296);obtain⟨X3,g3,h3⟩:=Um HS.out hd H2.out (by omega) r (by rw [HQ.out, <-HG.out.1];exact hlt2) vl;have CA:AG (Calls prog 8 #[.pointer B.W, .int .i64 2, .agg #[.int .u8 119, .int .i64 d, .int .i64 r, .int .u32 vl]] wr (WP wr l2 s B2 X3 (.bool true))):=⟨by rw [<-B2W.out];exact g3 wr l2 B2 T2.out.h⟩;have H3:=Ae h3;have HVL:=Ae hvl;clear g3 h3 ltb l20;go_wp2_with fail;refine CA.out.mono ?_;rintro e w8 ⟨rfl,l3,B3,T3⟩;have T3':=Ae (T2.out.turn T3);have R3:=Ae ((R2.out (by omega)).keep T3.k fun c=>by have c:(l2 nb).mut=true:=c;rw [T2.out.e nb L20.out.1,L20.out.2] at c;cases c);have F3:=Ae (STZ.out _ _ _ _ T3'.out);have vc8:w8.cell? (vb (vo+r))=some (.int .u32 z):=by
           obtain⟨b,o,e,_,c⟩:=F3.out.2.2.2.1.c (by omega);injection e with e;injection e with e1 e2;subst e1;subst e2;rw [<-hz];exact c r hlv
          have nb8:=R3.out.cell (i:=r) hlt2;have nf8:=R3.out.frozen r;have nl8:=R3.out.lt;have b48:=F3.out.2.2.1.z 4;clear T3 vc0 b4';go_wp2;go_roundw;case rel=>exact⟨r+1,by omega,by go_num,X3,l3,B3,_,m2+1,T3'.out.store L20.out.2 L20.out.1 _ _,H3.out,by omega,fun _=>(R3.out.set r (.int .u32 vl)).congr fun x hx=>by by_cases e:x=r <;> simp [e]⟩
          case measure=>simp [intOf];omega
        . have hh:¬(r:Int)<k∨((r:Int)<k∧¬(r:Int)<nv):=by omega
          clear hcv;rcases hh with hc3 | ⟨hc3,hc4⟩
          all_goals
           obtain⟨hb,ho,rfl,_,hcc⟩:=F2.out.2.2.2.2.c (by omega);have hcj:=hcc j hlt;have wfj:=F2.out.2.2.2.2.wf j hlt;obtain⟨zj,hzj⟩:∃z,zh j=z:=⟨_,rfl⟩;rw [hzj] at hcj wfj;have BD:AG (-9223372036854775808<=zj∧zj<=9223372036854775807):=⟨i64_of wfj⟩;clear hcc wfj hzj;go_wp2_with fail;refine(Kl wr zj 3 BD.out ⟨by omega,by omega⟩).mono ?_;rintro e w8 ⟨⟨c3,hc3',rfl⟩,rfl⟩;have hcs:c3=0∨c3=1∨c3=2:=by omega
           rcases hcs with rfl | rfl | rfl;case' inl=>
            obtain⟨X3,g3,h3⟩:=Te (c:=0) HS.out hd H2.out (by omega) (by omega);obtain⟨X4,g4,h4'⟩:=Nw (c:=0) HS.out hd h3 (by omega) (by omega)
           case' inr.inl=>
            obtain⟨X3,g3,h3⟩:=P9 HS.out hd H2.out (by omega);obtain⟨X4,g4,h4'⟩:=Ri HS.out hd h3 (by omega)
           case' inr.inr=>
            obtain⟨X3,g3,h3⟩:=Nw (c:=1) HS.out hd H2.out (by omega) (by omega);obtain⟨X4,g4,h4'⟩:=Te (c:=1) HS.out hd h3 (by omega) (by omega)
           all_goals
            have G4:=Ae g4;have H4:=Ae h4';have g:=g3 w8 l2 B2 T2.out.h;simp only [B2W.out] at g;have CA3:=Ae g;have H3:=Ae h3;clear g g3 h3 g4 h4';go_wp2_with fail;refine CA3.out.mono ?_;rintro e w9 ⟨rfl,l3,B3,T3⟩;have T3':=Ae (T2.out.turn T3);have R3:AG (k≠0->Row w9 nb 37 k (fun r=> .int .u32 (v2 r))):=⟨fun h=>(R2.out h).keep T3.k fun c=>by have c:(l2 nb).mut=true:=c;rw [T2.out.e nb (NB.out h).2.1,(NB.out h).2.2.1] at c;cases c⟩;have B3W:AG (B3.W=B.W):=⟨T3'.out.b.W.trans BW.out⟩;clear T3;have g:=G4.out w9 l3 B3 T3'.out.h;simp only [B3W.out] at g;have CA4:=Ae g;clear g;go_wp2_with fail;refine CA4.out.mono ?_;rintro e w13 ⟨rfl,l4,B4,T4⟩;have T4':=Ae (T3'.out.turn T4);have R4:AG (k≠0->Row w13 nb 37 k (fun r=> .int .u32 (v2 r))):=⟨fun h=>(R3.out h).keep T4.k fun c=>by have c:(l3 nb).mut=true:=c;rw [T3'.out.e nb (NB.out h).2.1,(NB.out h).2.2.1] at c;cases c⟩;have B4W:AG (B4.W=B.W):=⟨T4'.out.b.W.trans BW.out⟩;clear T4
           . go_wp2;go_roundw;case rel=>exact⟨j+1,by omega,by go_num,X4,l4,B4,_,_,T4'.out,H4.out,by omega,fun h=>(R4.out h).congr fun x hx=>by rw [if_neg (by omega)]⟩
             case measure=>simp [intOf];omega
           all_goals
            have F9:=Ae (STZ.out _ _ _ _ T4'.out);have b49:=F9.out.2.2.1.z 4;go_wp2_with fail;obtain⟨w10,hw10⟩:∃w10,w10=w13:=⟨_,rfl⟩;subst hw10;clear b49;go_loopw [20] (fun i wz=>∃r:Nat,r<=k∧i= .int .i64 r∧∃lz Bz,Trn wM labM s B6 nb X4 wz lz Bz∧(k≠0->Row wz nb 37 k (fun x=> .int .u32 (if x<r then Ds s d x (v2 x) else v2 x)))) (fun i _=>k - (intOf i).toNat);case atStart=>exact⟨0,by omega,rfl,l4,B4,T4'.out,fun h=>(R4.out h).congr fun x hx=>by rw [if_neg (Nat.not_lt_zero x)]⟩
            case round=>
             obtain⟨r',hr',rfl,l11,B11,T11,row11⟩:=hrel;have T11:=Ae T11;have R11:=Ae row11;have F11:=Ae (STZ.out _ _ _ _ T11.out);have b411:=F11.out.2.2.1.z 4;clear row11;by_cases hlt5:r'<k
             . have hc5:(r':Int)<k:=by omega
               obtain⟨rfl,ltb,l20, -⟩:=NB.out (by omega);have L20:=Ae (And.intro ltb l20);obtain rfl:ga=some (v.gb d 0):=HG.out.2 (by rw [<-HG.out.1];omega);have rg:=F11.out.1.reg d hd (by rw [HQ.out, <-HG.out.1];omega);rw [HQ.out] at rg;have rg0:wr.cell? (v.gb d (r'*2))=some (.int .u32 (q.reg r').reset):=rg.cell r' 0 (by rw [<-HG.out.1];exact hlt5) (by omega);have rg1:wr.cell? (v.gb d (r'*2+1))=some (.bool (q.reg r').ret):=rg.cell r' 1 (by rw [<-HG.out.1];exact hlt5) (by omega);have sc1:=F11.out.2.1.z 1;have xb1:=F11.out.2.2.1.z 1;have hdd:q.dom<s.nd:=by rw [<-HQ.out];exact HS.out.dom d hd
               have dm2:wr.cell? (v.db (q.dom*3+2))=some (.bool (s.dm q.dom).ret):=F11.out.1.dm.cell q.dom 2 hdd (by omega);have hcd:(q.dom:Int)<s.nd:=by omega
               have nd4:=HS.out.d2;have NR:=Ae (R11.out (by omega));have nf11:=NR.out.frozen r';have nl11:=NR.out.lt;have nb11:=NR.out.cell (i:=r') hlt5;obtain⟨rs,hrs⟩:=ex ((q.reg r').reset);obtain⟨dr,hdr⟩:=ex ((s.dm q.dom).ret);obtain⟨rr,hrr⟩:=ex ((q.reg r').ret);rw [hrs] at rg0;rw [hrr] at rg1;rw [hdr] at dm2;have SL':AG (Ds s d r' (v2 r')=if dr=true∧rr=true then v2 r' else rs):=⟨by unfold Ds;rw [HQ.out,hdr,hrr,hrs]⟩;obtain⟨sl,hsl⟩:=ex (Ds s d r' (v2 r'));rw [hsl] at SL';have HSL:=Ae hsl;clear rg ltb l20 hrs hdr hrr hsl;cases rr
               . obtain rfl:sl=rs:=by have:=SL'.out;simpa using this
                 go_wp2;go_roundw;case rel=>exact⟨r'+1,by omega,by go_num,l11,B11,T11.out.store L20.out.2 L20.out.1 _ _,fun _=>(NR.out.set r' (.int .u32 sl)).congr fun x hx=>by
                  by_cases e:x=r'
                  . rw [if_pos e,if_pos (by omega),e,HSL.out]
                  . rw [if_neg e];by_cases l:x<r'
                    . rw [if_pos l,if_pos (by omega)]
                    . rw [if_neg l,if_neg (by omega)]⟩
                 case measure=>simp [intOf];omega
               . cases dr
                 . obtain rfl:sl=rs:=by have:=SL'.out;simpa using this
                   go_wp2;go_roundw;case rel=>exact⟨r'+1,by omega,by go_num,l11,B11,T11.out.store L20.out.2 L20.out.1 _ _,fun _=>(NR.out.set r' (.int .u32 sl)).congr fun x hx=>by
                    by_cases e:x=r'
                    . rw [if_pos e,if_pos (by omega),e,HSL.out]
                    . rw [if_neg e];by_cases l:x<r'
                      . rw [if_pos l,if_pos (by omega)]
                      . rw [if_neg l,if_neg (by omega)]⟩
                   case measure=>simp [intOf];omega
                 . obtain rfl:sl=v2 r':=by have:=SL'.out;simpa using this
                   go_wp2;go_roundw;case rel=>exact⟨r'+1,by omega,by go_num,l11,B11,T11.out,fun _=>NR.out.congr fun x hx=>by
                    by_cases l:x<r'
                    . rw [if_pos l,if_pos (by omega)]
                    . rw [if_neg l];by_cases e:x=r'
                      . rw [if_pos (by omega),e,HSL.out]
                      . rw [if_neg (by omega)]⟩
                   case measure=>simp [intOf];omega
             . have hc5:¬(r':Int)<k:=by omega
               obtain rfl:r'=k:=by omega
               go_wp2;go_roundw;case rel=>exact⟨j+1,by omega,by go_num,X4,l11,B11,_,_,T11.out,H4.out,by omega,fun h=>(R11.out h).congr fun x hx=>by simp [hx]⟩
               case measure=>simp [intOf];omega
     . have hc2:¬(j:Int)<nh:=by omega
       obtain rfl:j=nh:=by omega
       go_wp2_with fail;obtain⟨w20,hw20⟩:∃w20,w20=wr:=⟨_,rfl⟩;subst hw20;clear b4;go_loopw [21] (fun i wz=>∃r:Nat,r<=k∧i= .int .i64 r∧∃X lz Bz m,Trn wM labM s B6 nb X wz lz Bz∧Bn s X d 1 false m vv∧m<=25+r∧(k≠0->Row wz nb 37 k (fun r=> .int .u32 (vv r)))) (fun i _=>k - (intOf i).toNat);case atStart=>exact⟨0,by omega,rfl,X,lz,Bz,m,TZ.out,HZ.out,by omega,RW.out⟩
       case round=>
        obtain⟨r,hr,rfl,X2,l2,B2,m2,T2,H2,hm2,row2⟩:=hrel;have T2:=Ae T2;have H2:=Ae H2;have R2:=Ae row2;have F2:=Ae (STZ.out _ _ _ _ T2.out);have b4':=F2.out.2.2.1.z 4;have B2W:AG (B2.W=B.W):=⟨T2.out.b.W.trans BW.out⟩;clear row2;by_cases hlt2:r<k
        . have hc3:(r:Int)<k:=by omega
          obtain⟨rfl,ltb,l20, -⟩:=NB.out (by omega);obtain⟨X3,E,g3,h3,hev⟩:=XI (c:=0) HS.out hd H2.out (by omega) r (by rw [HQ.out, <-HG.out.1];exact hlt2);have CA:AG (Calls prog 8 #[.pointer B.W, .int .i64 2, .agg #[.int .u8 114, .int .i64 d, .int .i64 r, .int .u32 0]] wr (WP wr l2 s B2 X3 (.bool true))):=⟨by rw [<-B2W.out];exact g3 wr l2 B2 T2.out.h⟩;have H3:=Ae h3;obtain⟨n,hN⟩:=ex E.length;have HL:AG (X3.ev.length=n+1):=⟨by rw [hev,CX,hN];rfl⟩;have HE:AG (X3.ev[n]?=some (Bm 2 ⟨114,d,r,0⟩ 0 (vv r))):=⟨by rw [hev,ME (by omega),hN,Nat.sub_self];rfl⟩;have hn9:n<=900:=by have:=h3.ev;have:=HL.out;omega
          have L20:=Ae (And.intro ltb l20);clear g3 h3 hev hN ltb l20;go_wp2_with fail;refine CA.out.mono ?_;rintro e w8 ⟨rfl,l3,B3,T3⟩;have T3':=Ae (T2.out.turn T3);have R3:=Ae ((R2.out (by omega)).keep T3.k fun c=>by have c:(l2 nb).mut=true:=c;rw [T2.out.e nb L20.out.1,L20.out.2] at c;cases c);have EV:AG (Calls prog 9 #[.pointer B.W] w8 (UK w8 l3 s B3 X3)):=⟨by rw [<-BW.out, <-T3'.out.b.W];exact GM T3'.out.h (by rw [HL.out];omega)⟩;clear T3 b4';go_wp2_with fail;refine EV.out.mono ?_;rintro e w9 ⟨k9,a9,c9,rfl,row9⟩;obtain⟨g,rfl,hg,row9⟩:=row9 (by intro e;have:=HL.out;rw [e] at this;simp at this);have T9:=Ae (T3'.out.new k9);have R9:=Ae (R3.out.keep k9 id);have r7:w9.cell? (g (n*14+6+1))=some (.int .u32 (vv r)):=by rw [row9.cell (i:=n*14+7) (by rw [HL.out];omega)];exact Oc HE.out 7 (by omega)
          have nb9:=R9.out.cell (i:=r) hlt2;have F9:=Ae (STZ.out _ _ _ _ T9.out);have b49:=F9.out.2.2.1.z 4;rw [HL.out];clear row9 k9 hg;go_wp2_with fail;go_quiet (skip);go_wp2;go_roundw;case rel=>exact⟨r+1,by omega,by go_num,X3,l3,B3,m2+1,T9.out.new ((nr _).drewN _),H3.out,by omega,fun _=>R9.out.keep ((nr _).drewN _) id⟩
          case measure=>simp [intOf];omega
        . have hc3:¬(r:Int)<k:=by omega
          go_wp2;go_ret;exact⟨rfl,FIN.out _ _ _ _ T2.out⟩
end
end Go.Proofs.YtpekoejdnhaohaaGreatDoor
