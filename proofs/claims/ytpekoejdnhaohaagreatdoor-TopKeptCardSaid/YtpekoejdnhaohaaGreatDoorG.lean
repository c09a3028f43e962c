/- What conf.Check, conf.Copy, power.New and the chip's three graphs compute for a chip in which nothing is wrong. For every such chip. -/
import Derived.Deep.RegionLawGrows
import Derived.Deep.DeepCutAuto
import Derived.Test.YtpekoejdnhaohaaGreatDoorD
namespace Go.Proofs.YtpekoejdnhaohaaGreatDoor
open Go.RowKit Tryz
set_option maxRecDepth 100000
set_option maxHeartbeats 40000000
set_option linter.all false
variable {s:AE} {v:Bx} {xs:List Value} {B K b base c c1 c2 c3 c4 cap e g m n ob p size t t':Nat} {f:Nat->Nat->Value} {ao:Option Addr} {w wr:World}
section
attribute [local go_sem] BI Fx
theorem J4 (e:Aa b m cap= .slice ao m c):ao=none->m=0∧c=0:=by
 intro h;unfold Aa at e;split at e
 . rename_i h0;injection e with e1 e2 e3;exact⟨h0,e3.symm⟩
 . injection e with e1;rw [h] at e1;cases e1
def Lj (m:Nat) (f:Nat->Int):List Value:=(List.range m).map fun j=> .int .i64 (f j)
theorem YH {f:Nat->Int} {j:Nat} {u:Value} (h:(Lj m f)[j]?=some u):j<m∧u= .int .i64 (f j):=by
 rw [Lj,List.getElem?_map] at h;by_cases hj:j<m
 . rw [List.getElem?_range hj] at h;exact⟨hj,(Option.some.inj h).symm⟩
 . rw [List.getElem?_eq_none (by simp;omega)] at h;cases h
theorem J3 {f:Nat->Int} (h:CH w ao m f) (h0:ao=none->m=0∧c=0):Src w ao m c 1 (Lj m f):=by
 refine⟨h0,by simp [Lj],fun ad e hm=>?_,fun ad e j u hj=>?_,fun u hu=>?_⟩
 . rcases h with h | ⟨b,e1,r⟩
   . omega
   . rw [e] at e1;injection e1 with e1;subst e1;exact r.lt
 . obtain⟨hjm,rfl⟩:=YH hj;rcases h with h | ⟨b,e1,r⟩
   . omega
   . rw [e] at e1;injection e1 with e1;subst e1;rw [Af];have:=r.cell j 0 hjm (by omega);simpa using this
 . simp [Lj] at hu;obtain⟨x,_,rfl⟩:=hu;rfl
theorem Lh {f:Nat->Int} (h:w.ownsRow base 3 1 (.slice ao m c) m (Lj m f)):CH w ao m f:=by
 by_cases hm:m=0
 . exact .inl hm
 have e:Lj m f=Av m 1 (fun j _=> .int .i64 (f j)):=by
  clear h hm
  induction m with
  | zero=>rfl
  | succ n ih=>rw [BM, <-ih,Lj,List.range_succ];simp [Lj]
 rw [e] at h;obtain⟨g,e1,r,_⟩:=A5 h hm;exact .inr ⟨g,e1,r⟩
def TS (w:World) (n:Nat) (m:Nat->Nat) (e:Nat->Nat->Nat) (en:Ending) (w':World):Prop:=
 ∃gb ao cp,en= .returned (.slice (some ⟨gb,0,none⟩) n n)∧AJ w w'∧Bt w' gb n ao cp m e∧w.heap.size<=gb∧∀i b,i<n->0<m i->ao i=some ⟨b,0,none⟩->w.heap.size<=b
theorem Ik (h:w.ownsRow base e K (.slice ao m c) m xs) (hb:ao=some (b 0)):base<=b:=(h.lt b (by rw [hb];rfl)).1
theorem Jf (hs:s.Ok) (ha:A6 w v s):Calls prog 57 #[.agg #[.slice v.cb s.nc v.cc, .slice v.db s.nd v.dc, .slice v.rb s.nr v.rc, .slice v.vb s.nv v.vc]] w (TS w s.nc (fun i=>(s.ck i).m) (fun i j=>(s.ck i).src j)):=by
 have hm22:=fun(W:World)=>run_make_row' (P:=prog) 158 22 (.slice none 0 0) 24 underlying158 IV rfl .i64 .i64 s.nc (by have:=hs.c2;omega) (by have:=hs.c2;omega) W;have hn:=hs.c2;have HS:=Ae hs;have HA:=Ae ha;clear hs ha;go_enter func57,ntmps57;go_wp2_with fail;have R1:=CV (w.alloc (.cells #[.slice v.cb s.nc v.cc, .slice v.db s.nd v.dc, .slice v.rb s.nr v.rc, .slice v.vb s.nv v.vc] 30)) (.slice none 0 0) s.nc 22;rw [Ay] at R1;have K0:AJ w ((w.alloc (.cells (BI v s) 30)).alloc (.cells (madeCells #[.slice none 0 0] s.nc) 22)):=((AD.refl _ w).alloc _).alloc _;obtain⟨gb,hgb⟩:∃gb,w.heap.size+1=gb:=⟨_,rfl⟩;obtain⟨W0,hW0⟩:∃W0,(w.alloc (.cells #[.slice v.cb s.nc v.cc, .slice v.db s.nd v.dc, .slice v.rb s.nr v.rc, .slice v.vb s.nv v.vc] 30)).alloc (.cells (madeCells #[.slice none 0 0] s.nc) 22)=W0:=⟨_,rfl⟩;rw [hW0] at K0 R1;rw [hgb] at R1;rw [hW0,hgb];have KW0:=Ae K0;have KR1:=Ae R1;clear R1 K0 hW0 hm22;go_loopw [13] (fun i wr=>∃k:Nat,k<=s.nc∧i= .int .i64 k∧AJ w wr∧∃ (aq:Nat->Option Addr) (cq:Nat->Nat),wr.rowIs gb 22 s.nc (fun i=>if i<k then .slice (aq i) ((fun i=>(s.ck i).m) i) (cq i) else .slice none 0 0)∧(∀i,i<k->CH wr (aq i) ((fun i=>(s.ck i).m) i) (fun j=>(((fun i j=>(s.ck i).src j) i j:Nat):Int)))∧(∀i b,i<k->aq i=some ⟨b,0,none⟩->w.heap.size<=b∧b≠gb∧b<wr.heap.size)) (fun i _=>s.nc - (intOf i).toNat);case atStart=>exact⟨0,by omega,rfl,KW0.out,fun _=>none,fun _=>0,KR1.out.congr fun i hi=>by simp,fun i hi=>by omega,fun i b hi=>by omega⟩
 case round=>
  obtain⟨k,hk,rfl,kp,aq,cq,rq,iq,bq⟩:=hrel;have KP:=Ae kp;have RQ:=Ae rq;have IQ:=Ae iq;have BQ:=Ae bq;clear rq iq bq;by_cases hlt:k<s.nc
  . have R:=HA.out.new kp;obtain⟨ao,c,es⟩:=AO (v.fb k) (s.ck k).m (v.fc k)
    skip
    have c0:wr.cell? (v.cb (k*6))=some (.int .u8 (s.ck k).kind):=by have:=R.ck.cell k 0 hlt (by omega);exact this
    have c1:wr.cell? (v.cb (k*6+1))=some (.slice ao (s.ck k).m c):=by have:=R.ck.cell k 1 hlt (by omega);rw [show Cf (s.ck k) (v.fb k) (v.fc k) 1= .slice ao (s.ck k).m c from es] at this;exact this
    have c2:wr.cell? (v.cb (k*6+2))=some (.int .u64 (s.ck k).rate):=by have:=R.ck.cell k 2 hlt (by omega);exact this
    have c3:wr.cell? (v.cb (k*6+3))=some (.int .i64 (s.ck k).mul):=by have:=R.ck.cell k 3 hlt (by omega);exact this
    have c4:wr.cell? (v.cb (k*6+4))=some (.int .i64 (s.ck k).div):=by have:=R.ck.cell k 4 hlt (by omega);exact this
    have c5:wr.cell? (v.cb (k*6+5))=some (.int .i64 (s.ck k).lock):=by have:=R.ck.cell k 5 hlt (by omega);exact this
    have SR:=Ae (J3 (R.srcs k hlt es) (J4 es));have hd:(s.ck k).m<=4:=(HS.out.ck k hlt).few;clear kp es R;obtain⟨mk,hmk⟩:∃mk,(s.ck k).m=mk:=⟨_,rfl⟩;have HM:=Ae hmk;rw [hmk] at c1 hd;clear hmk;go_wp2_with fail;refine(OI ao mk c (Lj mk (fun j=>(((fun i j=>(s.ck i).src j) k j:Nat):Int))) _ (by rw [<-HM.out];exact SR.out.new ((AD.refl _ wr).alloc _)) (by omega)).mono ?_;rintro z' w2 ⟨a2,c2,rfl,k2,o2,_⟩;have KA:AJ wr w2:=((AD.refl _ wr).alloc _).then_ k2;have KP2:=Ae (KP.out.then_ KA);have RQ2:=Ae (rowIs_keep RQ.out KA id);have IQ2:=Ae (fun i hi=>(IQ.out i hi).new KA);have q:=RQ2.out.cell hlt;rw [if_neg (by omega)] at q;have qf:=RQ2.out.frozen k;have hgw:gb<wr.heap.size:=RQ.out.lt;have O2:=Ae o2;have hsz2:wr.heap.size+1<=w2.heap.size:=by have:=k2.size;simpa using this
    clear k2 o2 KA;go_wp2_with fail;have hlo:wr.heap.size+1<=wr.heap.size+1:=al11_ _;have KG:AD (· =gb) w2 (w2.setCell (gb k) (.slice a2 mk c2)):=keeps_set _;go_roundw;case rel=>
     refine⟨k+1,by omega,by go_num,KP2.out.trans KG (fun i hi e=>by omega),upd aq k a2,upd cq k c2,(RQ2.out.set k (.slice a2 mk c2)).congr (fun i hi=>?_),fun i hi=>?_,fun i b hi hb=>?_⟩
     . by_cases e:i=k
       . subst e;simp [upd_same,HM.out]
       . by_cases e2:i<k
         . simp [e,e2,show i<k+1 by omega,upd]
         . simp [e,e2,show¬i<k+1 by omega]
     . have kb:∀b,upd aq k a2 i=some ⟨b,0,none⟩->b≠gb:=fun b hb=>by
        by_cases e:i=k
        . subst e;rw [upd_same] at hb;have:=Ik O2.out hb;simp at this;omega
        . rw [uo_ e] at hb;exact(BQ.out i b (by omega) hb).2.1
       have ki:CH w2 (upd aq k a2 i) ((fun i=>(s.ck i).m) i) (fun j=>(((fun i j=>(s.ck i).src j) i j:Nat):Int)):=by
        by_cases e:i=k
        . subst e;rw [upd_same];have:=Lh O2.out;rw [<-HM.out] at this;exact this
        . rw [uo_ e];exact IQ2.out i (by omega)
       rcases ki with h | ⟨b,hb,r⟩
       . exact .inl h
       . exact .inr ⟨b,hb,r.keep KG (kb b hb)⟩
     . rw [Fg];by_cases e:i=k
       . subst e;rw [upd_same] at hb;have h1:=Ik O2.out hb;have h2:=(O2.out.lt b (by rw [hb];rfl)).2;have h3:=KP.out.size;simp at h1;omega
       . rw [uo_ e] at hb;have:=BQ.out i b (by omega) hb;omega
    case measure=>simp [intOf];omega
  . have hkn:s.nc=k:=by omega
    have HK:=Ae hkn;clear kp hkn;go_wp2;go_ret;refine⟨gb,aq,cq,by rfl,KP.out,⟨RQ.out.congr (fun i hi=>by rw [if_pos (by have:=HK.out;omega)]),fun i hi=>IQ.out i (by have:=HK.out;omega),by omega,fun i hi=>?_,fun i hi j hj=>?_⟩,by omega,fun i b hi _ hb=>(BQ.out i b (by have:=HK.out;omega) hb).1⟩
    . have:=(HS.out.ck i hi).few;show(s.ck i).m<=6;omega
    . exact(HS.out.ck i hi).less j hj
theorem Ly (hs:s.Ok) (ha:A6 w v s):Calls prog 72 #[.agg #[.slice v.cb s.nc v.cc, .slice v.db s.nd v.dc, .slice v.rb s.nr v.rc, .slice v.vb s.nv v.vc]] w (TS w s.nv (fun i=>(s.dv i).nneed) (fun i j=>(s.dv i).need j)):=by
 have hm22:=fun(W:World)=>run_make_row' (P:=prog) 158 22 (.slice none 0 0) 24 underlying158 IV rfl .i64 .i64 s.nv (by have:=hs.v2;omega) (by have:=hs.v2;omega) W;have hn:=hs.v2;have HS:=Ae hs;have HA:=Ae ha;clear hs ha;go_enter func72,ntmps72;go_wp2_with fail;have R1:=CV (w.alloc (.cells #[.slice v.cb s.nc v.cc, .slice v.db s.nd v.dc, .slice v.rb s.nr v.rc, .slice v.vb s.nv v.vc] 30)) (.slice none 0 0) s.nv 22;rw [Ay] at R1;have K0:AJ w ((w.alloc (.cells (BI v s) 30)).alloc (.cells (madeCells #[.slice none 0 0] s.nv) 22)):=((AD.refl _ w).alloc _).alloc _;obtain⟨gb,hgb⟩:∃gb,w.heap.size+1=gb:=⟨_,rfl⟩;obtain⟨W0,hW0⟩:∃W0,(w.alloc (.cells #[.slice v.cb s.nc v.cc, .slice v.db s.nd v.dc, .slice v.rb s.nr v.rc, .slice v.vb s.nv v.vc] 30)).alloc (.cells (madeCells #[.slice none 0 0] s.nv) 22)=W0:=⟨_,rfl⟩;rw [hW0] at K0 R1;rw [hgb] at R1;rw [hW0,hgb];have KW0:=Ae K0;have KR1:=Ae R1;clear R1 K0 hW0 hm22;go_loopw [13] (fun i wr=>∃k:Nat,k<=s.nv∧i= .int .i64 k∧AJ w wr∧∃ (aq:Nat->Option Addr) (cq:Nat->Nat),wr.rowIs gb 22 s.nv (fun i=>if i<k then .slice (aq i) ((fun i=>(s.dv i).nneed) i) (cq i) else .slice none 0 0)∧(∀i,i<k->CH wr (aq i) ((fun i=>(s.dv i).nneed) i) (fun j=>(((fun i j=>(s.dv i).need j) i j:Nat):Int)))∧(∀i b,i<k->aq i=some ⟨b,0,none⟩->w.heap.size<=b∧b≠gb∧b<wr.heap.size)) (fun i _=>s.nv - (intOf i).toNat);case atStart=>exact⟨0,by omega,rfl,KW0.out,fun _=>none,fun _=>0,KR1.out.congr fun i hi=>by simp,fun i hi=>by omega,fun i b hi=>by omega⟩
 case round=>
  obtain⟨k,hk,rfl,kp,aq,cq,rq,iq,bq⟩:=hrel;have KP:=Ae kp;have RQ:=Ae rq;have IQ:=Ae iq;have BQ:=Ae bq;clear rq iq bq;by_cases hlt:k<s.nv
  . have R:=HA.out.new kp;obtain⟨ao,c,es⟩:=AO (v.qb k) (s.dv k).nneed (v.qc k);obtain⟨ag,cg,eg⟩:=AO (v.gb k) (s.dv k).nreg (v.gc k);have c0:wr.cell? (v.vb (k*6))=some (.int .i64 ((s.dv k).clock:Int)):=by have:=R.dv.cell k 0 hlt (by omega);exact this
    have c1:wr.cell? (v.vb (k*6+1))=some (.int .i64 ((s.dv k).dom:Int)):=by have:=R.dv.cell k 1 hlt (by omega);exact this
    have c2:wr.cell? (v.vb (k*6+2))=some (.int .i64 ((s.dv k).line:Int)):=by have:=R.dv.cell k 2 hlt (by omega);exact this
    have c3:wr.cell? (v.vb (k*6+3))=some (.int .u32 (s.dv k).clamp):=by have:=R.dv.cell k 3 hlt (by omega);exact this
    have c4:wr.cell? (v.vb (k*6+4))=some (.slice ag (s.dv k).nreg cg):=by have:=R.dv.cell k 4 hlt (by omega);rw [show CR (s.dv k) (v.gb k) (v.gc k) (v.qb k) (v.qc k) 4= .slice ag (s.dv k).nreg cg from eg] at this;exact this
    have c5:wr.cell? (v.vb (k*6+5))=some (.slice ao (s.dv k).nneed c):=by have:=R.dv.cell k 5 hlt (by omega);rw [show CR (s.dv k) (v.gb k) (v.gc k) (v.qb k) (v.qc k) 5= .slice ao (s.dv k).nneed c from es] at this;exact this
    have SR:=Ae (J3 (R.needs k hlt es) (J4 es));have hd:(s.dv k).nneed<=4:=by have:=HS.out.needs k hlt;omega
    clear kp es R eg;obtain⟨mk,hmk⟩:∃mk,(s.dv k).nneed=mk:=⟨_,rfl⟩;have HM:=Ae hmk;rw [hmk] at c5 hd;clear hmk;go_wp2_with fail;refine(OI ao mk c (Lj mk (fun j=>(((fun i j=>(s.dv i).need j) k j:Nat):Int))) _ (by rw [<-HM.out];exact SR.out.new ((AD.refl _ wr).alloc _)) (by omega)).mono ?_;rintro z' w2 ⟨a2,c2,rfl,k2,o2,_⟩;have KA:AJ wr w2:=((AD.refl _ wr).alloc _).then_ k2;have KP2:=Ae (KP.out.then_ KA);have RQ2:=Ae (rowIs_keep RQ.out KA id);have IQ2:=Ae (fun i hi=>(IQ.out i hi).new KA);have q:=RQ2.out.cell hlt;rw [if_neg (by omega)] at q;have qf:=RQ2.out.frozen k;have hgw:gb<wr.heap.size:=RQ.out.lt;have O2:=Ae o2;have hsz2:wr.heap.size+1<=w2.heap.size:=by have:=k2.size;simpa using this
    clear k2 o2 KA;go_wp2_with fail;have hlo:wr.heap.size+1<=wr.heap.size+1:=al11_ _;have KG:AD (· =gb) w2 (w2.setCell (gb k) (.slice a2 mk c2)):=keeps_set _;go_roundw;case rel=>
     refine⟨k+1,by omega,by go_num,KP2.out.trans KG (fun i hi e=>by omega),upd aq k a2,upd cq k c2,(RQ2.out.set k (.slice a2 mk c2)).congr (fun i hi=>?_),fun i hi=>?_,fun i b hi hb=>?_⟩
     . by_cases e:i=k
       . subst e;simp [upd_same,HM.out]
       . by_cases e2:i<k
         . simp [e,e2,show i<k+1 by omega,upd]
         . simp [e,e2,show¬i<k+1 by omega]
     . have kb:∀b,upd aq k a2 i=some ⟨b,0,none⟩->b≠gb:=fun b hb=>by
        by_cases e:i=k
        . subst e;rw [upd_same] at hb;have:=Ik O2.out hb;simp at this;omega
        . rw [uo_ e] at hb;exact(BQ.out i b (by omega) hb).2.1
       have ki:CH w2 (upd aq k a2 i) ((fun i=>(s.dv i).nneed) i) (fun j=>(((fun i j=>(s.dv i).need j) i j:Nat):Int)):=by
        by_cases e:i=k
        . subst e;rw [upd_same];have:=Lh O2.out;rw [<-HM.out] at this;exact this
        . rw [uo_ e];exact IQ2.out i (by omega)
       rcases ki with h | ⟨b,hb,r⟩
       . exact .inl h
       . exact .inr ⟨b,hb,r.keep KG (kb b hb)⟩
     . rw [Fg];by_cases e:i=k
       . subst e;rw [upd_same] at hb;have h1:=Ik O2.out hb;have h2:=(O2.out.lt b (by rw [hb];rfl)).2;have h3:=KP.out.size;simp at h1;omega
       . rw [uo_ e] at hb;have:=BQ.out i b (by omega) hb;omega
    case measure=>simp [intOf];omega
  . have hkn:s.nv=k:=by omega
    have HK:=Ae hkn;clear kp hkn;go_wp2;go_ret;refine⟨gb,aq,cq,by rfl,KP.out,⟨RQ.out.congr (fun i hi=>by rw [if_pos (by have:=HK.out;omega)]),fun i hi=>IQ.out i (by have:=HK.out;omega),by omega,fun i hi=>?_,fun i hi j hj=>?_⟩,by omega,fun i b hi _ hb=>(BQ.out i b (by have:=HK.out;omega) hb).1⟩
    . have:=HS.out.needs i hi;show(s.dv i).nneed<=6;omega
    . exact HS.out.need i hi j hj
end
section
attribute [local go_sem] BI Fx
def Od (s:AE) (i:Nat):Nat:=if(s.dm i).above= -1 then 0 else 1
def domE (s:AE) (i _j:Nat):Nat:=(s.dm i).above.toNat
theorem Sa {x:Int} {f:Nat->Int} (h:AF w b 3 [.int .i64 x]) (hf:f 0=x):CH w (some (b 0)) 1 f:=
 .inr ⟨b,rfl, #[.int .i64 x],h,by simp,fun i j hi hj=>by
  have:i=0:=by omega
  have:j=0:=by omega
  subst i j;simp [hf]⟩
theorem Iw (hs:s.Ok) (ha:A6 w v s):Calls prog 63 #[.agg (BI v s)] w (TS w s.nd (Od s) (domE s)):=by
 have hm22:=fun(W:World)=>run_make_row' (P:=prog) 158 22 (.slice none 0 0) 24 underlying158 IV rfl .i64 .i64 s.nd (by have:=hs.d2;omega) (by have:=hs.d2;omega) W;have hn:=hs.d2;have HS:=Ae hs;have HA:=Ae ha;clear hs ha;go_in;go_wp2_with fail;have R1:=CV (w.alloc (.cells (BI v s) 30)) (.slice none 0 0) s.nd 22;rw [Ay] at R1;have K0:AJ w ((w.alloc (.cells (BI v s) 30)).alloc (.cells (madeCells #[.slice none 0 0] s.nd) 22)):=((AD.refl _ w).alloc _).alloc _;obtain⟨gb,hgb⟩:=ex (w.heap.size+1);obtain⟨W0,hW0⟩:=ex ((w.alloc (.cells (BI v s) 30)).alloc (.cells (madeCells #[.slice none 0 0] s.nd) 22));rw [hW0] at K0 R1;rw [hgb] at R1;rw [hW0,hgb];have KW0:=Ae K0;have KR1:=Ae R1;clear R1 K0 hW0 hm22;go_loopw [13] (fun i wr=>∃k:Nat,k<=s.nd∧i= .int .i64 k∧AJ w wr∧∃ (aq:Nat->Option Addr) (cq:Nat->Nat),wr.rowIs gb 22 s.nd (fun i=>if i<k then .slice (aq i) (Od s i) (cq i) else .slice none 0 0)∧(∀i,i<k->CH wr (aq i) (Od s i) (fun j=>(domE s i j:Int)))∧(∀i b,i<k->aq i=some ⟨b,0,none⟩->w.heap.size<=b∧b≠gb∧b<wr.heap.size)) (fun i _=>s.nd - (intOf i).toNat);case atStart=>exact⟨0,by omega,rfl,KW0.out,fun _=>none,fun _=>0,KR1.out.congr fun i hi=>by simp,fun i hi=>by omega,fun i b hi=>by omega⟩
 case round=>
  obtain⟨k,hk,rfl,kp,aq,cq,rq,iq,bq⟩:=hrel;have KP:=Ae kp;have RQ:=Ae rq;have IQ:=Ae iq;have BQ:=Ae bq;clear rq iq bq;by_cases hlt:k<s.nd
  . have R:=HA.out.new kp;have c0:wr.cell? (v.db (k*3))=some (.int .i64 (s.dm k).above):=R.dm.cell k 0 hlt (by omega);have c1:wr.cell? (v.db (k*3+1))=some (.int .i64 (s.dm k).delay):=R.dm.cell k 1 hlt (by omega);have c2:wr.cell? (v.db (k*3+2))=some (.bool (s.dm k).ret):=R.dm.cell k 2 hlt (by omega);clear kp R;have hgw:gb<wr.heap.size:=RQ.out.lt;have hab:=(HS.out.dm k hlt).above;obtain⟨a,hae⟩:∃a,(s.dm k).above=a:=⟨_,rfl⟩;have HAE:=Ae hae;rw [hae] at c0 hab;clear hae;by_cases hx:a= -1
    . subst hx;have HM:AG (Od s k=0):=⟨by unfold Od;rw [if_pos HAE.out]⟩;have N1:=(nr wr).alloc (.cells #[.int .i64 (-1), .int .i64 (s.dm k).delay, .bool (s.dm k).ret] 47);have KN:=Ae N1;clear N1;go_wp2;go_roundw;case rel=>
       refine⟨k+1,by omega,by go_num,KP.out.then_ KN.out,upd aq k none,upd cq k 0,(rowIs_keep RQ.out KN.out id).congr (fun i hi=>?_),fun i hi=>?_,fun i b hi hb=>?_⟩
       . by_cases e:i=k
         . subst e;simp [upd_same,HM.out]
         . by_cases e2:i<k
           . simp [e2,show i<k+1 by omega,upd,e]
           . simp [e2,show¬i<k+1 by omega]
       . by_cases e:i=k
         . subst e;exact .inl HM.out
         . rw [uo_ e];exact(IQ.out i (by omega)).new KN.out
       . by_cases e:i=k
         . subst e;rw [upd_same] at hb;cases hb
         . rw [uo_ e] at hb;have:=BQ.out i b (by omega) hb;have:=KN.out.size;omega
      case measure=>simp [intOf];omega
    . have hx1:(a != -1)=true:=by rw [bne_iff_ne];exact hx
      have HM:AG (Od s k=1):=⟨by unfold Od;rw [if_neg (by rw [HAE.out];exact hx)]⟩;have HE:AG ((domE s k 0:Int)=a):=⟨by unfold domE;rw [HAE.out];omega⟩;have KF:=Ae (((keeps_set (w:=wr) (b:=gb) (o:=k) (.slice (some ((wr.heap.size+1) 0)) 1 1)).alloc (.cells #[.int .i64 a, .int .i64 (s.dm k).delay, .bool (s.dm k).ret] 47)).alloc (.cells #[.int .i64 a] 3));have B1:=AF.new ((wr.setCell (gb k) (.slice (some ((wr.heap.size+1) 0)) 1 1)).alloc (.cells #[.int .i64 a, .int .i64 (s.dm k).delay, .bool (s.dm k).ret] 47)) [.int .i64 a] 3;rw [Ay,Fg] at B1;have KRN:=Ae (((RQ.out.set k (.slice (some ((wr.heap.size+1) 0)) 1 1)).alloc (.cells #[.int .i64 a, .int .i64 (s.dm k).delay, .bool (s.dm k).ret] 47)).alloc (.cells #[.int .i64 a] 3));have q:=RQ.out.cell hlt;rw [if_neg (by omega)] at q;have qf:=RQ.out.frozen k;have KB:=Ae B1;clear B1 hx hab;go_wp2_with fail;have hsz:=KP.out.size;go_roundw;case rel=>
       refine⟨k+1,by omega,by go_num,KP.out.trans KF.out (fun i hi e=>by omega),upd aq k (some ((wr.heap.size+1) 0)),upd cq k 1,KRN.out.congr (fun i hi=>?_),fun i hi=>?_,fun i b hi hb=>?_⟩
       . by_cases e:i=k
         . subst e;simp [upd_same,HM.out]
         . by_cases e2:i<k
           . simp [e,e2,show i<k+1 by omega,upd]
           . simp [e,e2,show¬i<k+1 by omega]
       . by_cases e:i=k
         . subst e;rw [upd_same,HM.out];exact Sa KB.out HE.out
         . rw [uo_ e];rcases IQ.out i (by omega) with h | ⟨b,hb,r⟩
           . exact .inl h
           . exact .inr ⟨b,hb,r.keep KF.out (BQ.out i b (by omega) hb).2.1⟩
       . simp only [Fg,Ay];by_cases e:i=k
         . subst e;rw [upd_same] at hb;injection hb with hb;injection hb with hb;omega
         . rw [uo_ e] at hb;have:=BQ.out i b (by omega) hb;omega
      case measure=>simp [intOf];omega
  . have HK:=Ae (show s.nd=k by omega);clear kp;go_wp2;go_ret;refine⟨gb,aq,cq,by rfl,KP.out,⟨RQ.out.congr (fun i hi=>by rw [if_pos (by have:=HK.out;omega)]),fun i hi=>IQ.out i (by have:=HK.out;omega),by omega,fun i hi=>?_,fun i hi j hj=>?_⟩,by omega,fun i b hi _ hb=>(BQ.out i b (by have:=HK.out;omega) hb).1⟩
    . unfold Od;split <;> omega
    . have:=(HS.out.dm i hi).above;unfold Od at hj;unfold domE;split at hj
      . omega
      . omega
theorem I0 {gb:Nat} {ao:Nat->Option Addr} {cp:Nat->Nat} {m:Nat->Nat} {e:Nat->Nat->Nat} (h:Bt w gb n ao cp m e):
 Calls prog 56 #[.slice gb n cap] w (Az w):=by
 have H:=Ae h;clear h;go_in;go_wp2_with fail;refine(QF H.out).mono ?_;rintro z' w1 ⟨rfl,k1⟩;go_wp2_with (go_at_call 115;refine mn_ (DK _ _) ?_);go_ret;exact⟨rfl,k1⟩
end
section
attribute [local go_sem] BI Fx
theorem yQ (hs:s.Ok) (ha:A6 w v s) (hb:BJ w B s v):
 Calls prog 55 #[.pointer B] w (Az w):=by
 have s0:=hb.z 0;have s1:=hb.z 1;have s2:=hb.z 2;have s3:=hb.z 3;have HS:=Ae hs;have HA:=Ae ha;clear hs ha hb;go_in;go_wp2_with fail;refine(Jf HS.out HA.out).mono ?_;rintro e w2 ⟨gb,ao,cp,rfl,k2,g2,_⟩;have G2:=Ae g2;have K2:=Ae k2;clear k2 g2;go_wp2_with fail;refine(I0 G2.out).mono ?_;rintro e w3 ⟨rfl,k3⟩;go_wp2;go_ret;exact⟨rfl,K2.out.then_ k3⟩
theorem yO (hs:s.Ok) (ha:A6 w v s) (hb:BJ w B s v):
 Calls prog 62 #[.pointer B] w (Az w):=by
 have s0:=hb.z 0;have s1:=hb.z 1;have s2:=hb.z 2;have s3:=hb.z 3;have HS:=Ae hs;have HA:=Ae ha;clear hs ha hb;go_in;go_wp2_with fail;refine(Iw HS.out HA.out).mono ?_;rintro e w2 ⟨gb,ao,cp,rfl,k2,g2,_⟩;have G2:=Ae g2;have K2:=Ae k2;clear k2 g2;go_wp2_with fail;refine(I0 G2.out).mono ?_;rintro e w3 ⟨rfl,k3⟩;go_wp2;go_ret;exact⟨rfl,K2.out.then_ k3⟩
theorem yL (hs:s.Ok) (ha:A6 w v s) (hb:BJ w B s v):
 Calls prog 71 #[.pointer B] w (Az w):=by
 have s0:=hb.z 0;have s1:=hb.z 1;have s2:=hb.z 2;have s3:=hb.z 3;have HS:=Ae hs;have HA:=Ae ha;clear hs ha hb;go_in;go_wp2_with fail;refine(Ly HS.out HA.out).mono ?_;rintro e w2 ⟨gb,ao,cp,rfl,k2,g2,_⟩;have G2:=Ae g2;have K2:=Ae k2;clear k2 g2;go_wp2_with fail;refine(I0 G2.out).mono ?_;rintro e w3 ⟨rfl,k3⟩;go_wp2;go_ret;exact⟨rfl,K2.out.then_ k3⟩
theorem ent49:Fu 49:=fun _ _=>by kernel_rfl
theorem ent51:Fu 51:=fun _ _=>by kernel_rfl
theorem ent55:Fu 55:=fun _ _=>by kernel_rfl
theorem ent58:Fu 58:=fun _ _=>by kernel_rfl
theorem ent62:Fu 62:=fun _ _=>by kernel_rfl
theorem ent64:Fu 64:=fun _ _=>by kernel_rfl
theorem ent67:Fu 67:=fun _ _=>by kernel_rfl
theorem ent71:Fu 71:=fun _ _=>by kernel_rfl
theorem CP (hs:s.Ok) (ha:A6 w v s):Calls prog 22 #[.agg (BI v s)] w (Az w):=by
 have hmf:=mf (P:=prog);have FB:AF ((w.alloc (.cells (BI v s) 30)).alloc (.cells #[.func (.func 49) #[] #[.pointer w.heap.size], .func (.func 51) #[] #[.pointer w.heap.size], .func (.func 55) #[] #[.pointer w.heap.size], .func (.func 58) #[] #[.pointer w.heap.size], .func (.func 62) #[] #[.pointer w.heap.size], .func (.func 64) #[] #[.pointer w.heap.size], .func (.func 67) #[] #[.pointer w.heap.size], .func (.func 71) #[] #[.pointer w.heap.size]] 153)) (w.heap.size+1) 153 [.func (.func 49) #[] #[.pointer w.heap.size], .func (.func 51) #[] #[.pointer w.heap.size], .func (.func 55) #[] #[.pointer w.heap.size], .func (.func 58) #[] #[.pointer w.heap.size], .func (.func 62) #[] #[.pointer w.heap.size], .func (.func 64) #[] #[.pointer w.heap.size], .func (.func 67) #[] #[.pointer w.heap.size], .func (.func 71) #[] #[.pointer w.heap.size]]:=by
  have h:=AF.new (w.alloc (.cells (BI v s) 30)) [.func (.func 49) #[] #[.pointer w.heap.size], .func (.func 51) #[] #[.pointer w.heap.size], .func (.func 55) #[] #[.pointer w.heap.size], .func (.func 58) #[] #[.pointer w.heap.size], .func (.func 62) #[] #[.pointer w.heap.size], .func (.func 64) #[] #[.pointer w.heap.size], .func (.func 67) #[] #[.pointer w.heap.size], .func (.func 71) #[] #[.pointer w.heap.size]] 153;rw [show(w.alloc (.cells (BI v s) 30)).heap.size=w.heap.size+1 by simp] at h;exact h
 have B0:AF ((w.alloc (.cells (BI v s) 30)).alloc (.cells #[.func (.func 49) #[] #[.pointer w.heap.size], .func (.func 51) #[] #[.pointer w.heap.size], .func (.func 55) #[] #[.pointer w.heap.size], .func (.func 58) #[] #[.pointer w.heap.size], .func (.func 62) #[] #[.pointer w.heap.size], .func (.func 64) #[] #[.pointer w.heap.size], .func (.func 67) #[] #[.pointer w.heap.size], .func (.func 71) #[] #[.pointer w.heap.size]] 153)) (w.heap.size) 30 (Fx v s):=by
  have h:=AF.new w (Fx v s) 30;exact(h.alloc _)
 have KW:AJ w ((w.alloc (.cells #[.slice (some (v.cb 0)) s.nc v.cc, .slice (some (v.db 0)) s.nd v.dc, .slice (some (v.rb 0)) s.nr v.rc, .slice (some (v.vb 0)) s.nv v.vc] 30)).alloc (.cells #[.func (.func 49) #[] #[.pointer (some (w.heap.size 0))], .func (.func 51) #[] #[.pointer (some (w.heap.size 0))], .func (.func 55) #[] #[.pointer (some (w.heap.size 0))], .func (.func 58) #[] #[.pointer (some (w.heap.size 0))], .func (.func 62) #[] #[.pointer (some (w.heap.size 0))], .func (.func 64) #[] #[.pointer (some (w.heap.size 0))], .func (.func 67) #[] #[.pointer (some (w.heap.size 0))], .func (.func 71) #[] #[.pointer (some (w.heap.size 0))]] 153)):=(((AD.refl _ w).alloc _).alloc _);have FO:=Ae (It (w:=((w.alloc (.cells (BI v s) 30)).alloc (.cells #[.func (.func 49) #[] #[.pointer w.heap.size], .func (.func 51) #[] #[.pointer w.heap.size], .func (.func 55) #[] #[.pointer w.heap.size], .func (.func 58) #[] #[.pointer w.heap.size], .func (.func 62) #[] #[.pointer w.heap.size], .func (.func 64) #[] #[.pointer w.heap.size], .func (.func 67) #[] #[.pointer w.heap.size], .func (.func 71) #[] #[.pointer w.heap.size]] 153))) (w.heap.size+1) 8 8 (fun i=>match i with | 0=>49 | 1=>51 | 2=>55 | 3=>58 | 4=>62 | 5=>64 | 6=>67 | _=>71) (fun i=>match i with | 0=> #[.pointer w.heap.size] | 1=> #[.pointer w.heap.size] | 2=> #[.pointer w.heap.size] | 3=> #[.pointer w.heap.size] | 4=> #[.pointer w.heap.size] | 5=> #[.pointer w.heap.size] | 6=> #[.pointer w.heap.size] | _=> #[.pointer w.heap.size]) (by omega) (fun i hi=>by
  match i,hi with
  | 0,_=>exact FB.cell 0
  | 1,_=>exact FB.cell 1
  | 2,_=>exact FB.cell 2
  | 3,_=>exact FB.cell 3
  | 4,_=>exact FB.cell 4
  | 5,_=>exact FB.cell 5
  | 6,_=>exact FB.cell 6
  | 7,_=>exact FB.cell 7) FB.lt (fun i hi=>by
  match i,hi with
  | 0,_=>exact ent49
  | 1,_=>exact ent51
  | 2,_=>exact ent55
  | 3,_=>exact ent58
  | 4,_=>exact ent62
  | 5,_=>exact ent64
  | 6,_=>exact ent67
  | 7,_=>exact ent71) (fun i hi W kW=>by
  match i,hi with
  | 0,_=>exact yS hs (ha.new (KW.then_ kW)) (B0.keep kW id)
  | 1,_=>exact yR hs (ha.new (KW.then_ kW)) (B0.keep kW id)
  | 2,_=>exact yQ hs (ha.new (KW.then_ kW)) (B0.keep kW id)
  | 3,_=>exact yP hs (ha.new (KW.then_ kW)) (B0.keep kW id)
  | 4,_=>exact yO hs (ha.new (KW.then_ kW)) (B0.keep kW id)
  | 5,_=>exact yN hs (ha.new (KW.then_ kW)) (B0.keep kW id)
  | 6,_=>exact yM hs (ha.new (KW.then_ kW)) (B0.keep kW id)
  | 7,_=>exact yL hs (ha.new (KW.then_ kW)) (B0.keep kW id)))
 have KW2:=Ae KW;clear FB KW B0 hs ha;go_in;go_wp2_with fail
 with_reducible refine FO.out.mono ?_
 rintro e w2 ⟨rfl,k2⟩;go_wp2;go_ret;exact⟨rfl,KW2.out.then_ k2⟩
end
section
attribute [local go_sem] BI Fx
theorem Gt (w:World) (xs:List Value) (t:TypeId) (s:Nat) (hs:w.heap.size=s):∀j u,xs[j]?=some u->(w.alloc (.cells xs.toArray t)).cell? (((s 0):Addr).add j)=some u:=by
 subst hs;intro j u h;rw [Af,Ag,(AF.new w xs t).cell j];exact h
theorem Gq {o:Nat} {x:Value} (h:w.ownsRow base e size (.slice g n c) m xs) (hne:g≠b):(w.setCell (b o) x).ownsRow base e size (.slice g n c) m xs:=
 AW h (keeps_set x) fun j hj e=>hne (by injection hj with hj;exact hj.trans e)
theorem Ij (h:w.ownsRow base e size (.slice g n c) m xs):base<=g:=(h.lt g rfl).1
def Dm.new (d:Do):Dm:=⟨d.above,d.delay,d.ret,48,0,false,false⟩
theorem xE:inf_ prog 177=some (some (.agg #[.int .i64 0, .int .i64 0, .bool false, .int .u8 0, .int .i64 0, .bool false, .bool false]),7,48):=by kernel_rfl
def GridNew (w:World) (s:AE) (e:Ending) (w':World):Prop:=
 ∃G gd cap,e= .returned (.tuple #[.pointer (some ⟨G,0,none⟩), .int .i64 0])∧AJ w w'∧Ah w' G gd s.nd cap (fun i=>Dm.new (s.dm i))∧w.heap.size<=G∧w.heap.size<=gd
theorem Us (hs:s.Ok) (ha:A6 w v s):Calls prog 24 #[.agg (BI v s)] w (GridNew w s):=by
 obtain⟨i0,KI,KZ0,KZ1,KZ2⟩:=ik_ xE;have hn:=hs.d2;have hn1:=hs.d1;have HS:=Ae hs;have HA:=Ae ha;have HB:=Ae (Aj (w:=w) s v);have KB:=Ae ((nr w).alloc (.cells (BI v s) 30));clear hs ha;go_in;go_wp2_with fail;refine(CP HS.out (HA.out.new KB.out)).mono ?_;rintro z' w1 ⟨rfl,k1⟩;have s1:w1.cell? (w.heap.size 1)=some (.slice (some (v.db 0)) s.nd v.dc):=by have:=(HB.out.keep k1 id).cell 1;simpa using this
 have l1:w.heap.size<w1.heap.size:=by have:=k1.size;simp at this;omega
 have K1:=Ae (KB.out.then_ k1);clear k1;go_wp2_with fail;obtain⟨G,hG⟩:=ex w1.heap.size;obtain⟨W0,hW0⟩:=ex (w1.alloc (.cells #[.slice none 0 0] 175));have B0:=AF.new w1 [.slice none 0 0] 175;have K0:=K1.out.alloc (.cells #[.slice none 0 0] 175);have hlow:w.heap.size<=G:=by omega
 rw [hG] at B0;rw [hW0] at B0 K0;rw [hW0,hG];have KB0:=Ae B0;have KW0:=Ae K0;clear B0 K0 hW0 hG s1;go_loopw [18] (fun i wr=>∃k:Nat,k<=s.nd∧i= .int .i64 k∧AJ w wr∧∃a c,AF wr G 175 [.slice a k c]∧wr.ownsRow (G+1) 177 7 (.slice a k c) k (Av k 7 (fun i j=>(Dm.new (s.dm i)).cells j))) (fun i _=>s.nd - (intOf i).toNat);case atStart=>exact⟨0,by omega,rfl,KW0.out,none,0,KB0.out,Gs⟩
 case round=>
  obtain⟨k,hk,rfl,kp,a,c,bp,op⟩:=hrel;have KP:=Ae kp;have BP:=Ae bp;have OP:=Ae op;clear bp op;by_cases hlt:k<s.nd
  . have R:=HA.out.new kp;have c0:wr.cell? (v.db (k*3))=some (.int .i64 (s.dm k).above):=R.dm.cell k 0 hlt (by omega);have c1:wr.cell? (v.db (k*3+1))=some (.int .i64 (s.dm k).delay):=R.dm.cell k 1 hlt (by omega);have c2:wr.cell? (v.db (k*3+2))=some (.bool (s.dm k).ret):=R.dm.cell k 2 hlt (by omega);clear kp R;obtain⟨d,hd⟩:=ex (s.dm k);have HD:=Ae hd;rw [hd] at c0 c1 c2;clear hd;go_wp2_with fail;obtain⟨B,hB⟩:=ex wr.heap.size;obtain⟨W,hW⟩:=ex (wr.alloc (.cells #[.int .i64 d.above, .int .i64 d.delay, .bool d.ret] 47));have BB:=AF.new wr [.int .i64 d.above, .int .i64 d.delay, .bool d.ret] 47;have KA:=(nr wr).alloc (.cells #[.int .i64 d.above, .int .i64 d.delay, .bool d.ret] 47);have hW':wr.alloc (.cells [.int .i64 d.above, .int .i64 d.delay, .bool d.ret].toArray 47)=W:=hW;have hGB:G<B:=by rw [<-hB];exact BP.out.lt
    rw [hW',hB] at BB;rw [hW] at KA;rw [hW,hB];have KA:=Ae KA;have hBW:=BB.lt;have hGW:G<W.heap.size:=by omega
    have x0:=BB.z 0;have x1:=BB.z 1;have x2:=BB.z 2;have BG:=Ae (BP.out.keep KA.out id);have cg:=BG.out.z 0;have fg:=BG.out.frozen 0;have OW:=Ae (BN OP.out KA.out (fun _ _=>id));have BBK:=Ae BB;clear hW hW' hB BB c0 c1 c2;go_region_law (refine step_append_lies _ rfl (.tmp 26) (.tmp 29) 173 rfl (G+1) 177 i0 _ 7 48 underlying173 KI.out KZ0.out KZ1.out KZ2.out rfl (by decide) (.slice a k c) k (Av k 7 (fun i j=>(Dm.new (s.dm i)).cells j)) (by simp [Act.eval]) (OW.out.alloc _).drew (W.heap.size 0) 1 1 [.int .i64 d.above, .int .i64 d.delay, .bool d.ret, .int .u8 48, .int .i64 0, .bool false, .bool false] (by simp [Act.eval]) rfl (Gt W _ _ _ rfl) (by simp [Value.oneCell']) (by omega) (by unfold maxLen;omega) (by omega) (by simp;omega) _ rfl ?_;intro g cp w5 own5 grow5 hat5 hlt5;have hk5:=(((AD.refl (fun j=>G+1<=j) W).alloc (.cells #[.int .i64 d.above, .int .i64 d.delay, .bool d.ret, .int .u8 48, .int .i64 0, .bool false, .bool false] 177)).drew).grown grow5 (fun j e _=>(OW.out.lt j e).1);have BG5:=BG.out.keep hk5 (by omega);have cg5:w5.cell? (G 0)=some (.slice a k c):=(by have:=BG5.cell 0;simpa using this);have fg5:w5.frozen? (G 0)=false:=BG5.frozen 0;have K5:=Ae hk5;have B5:=Ae BG5;have O5:=Ae own5;have hg5:G+1<=g:=Ij own5;clear own5 grow5 hat5 hk5 BG5)
    all_goals go_wp2_with fail
    all_goals go_roundw
    all_goals first | (simp [intOf];omega;done) | skip
    all_goals refine⟨k+1,by omega,by go_num,?_,some (g 0),cp,?_,?_⟩
    all_goals have hsz:=KP.out.size
    all_goals have hgG:g≠G:=by omega
    all_goals first
     | exact((KP.out.then_ KA.out).trans K5.out (fun i hi e=>absurd hi (by omega))).trans (keeps_set _) (fun i hi e=>absurd hi (by omega))
     | exact B5.out.set 0 _
     | (rw [BM,HD.out];exact Gq O5.out hgG)
  . have HK:=Ae (show s.nd=k by omega);clear kp;go_wp2;go_ret2;have hk':=HK.out;obtain⟨gd,e1,r,hb⟩:=A5 OP.out (by omega);rw [e1] at BP;rw [<-hk'] at r BP;exact⟨G,gd,c,rfl,KP.out,⟨BP.out,r,by omega,by omega⟩,hlow,by omega⟩
end
section
attribute [local go_sem] BI Fx
theorem Pe:∀ {j:Nat} {u:Value},(Av n K f)[j]?=some u->∃i k,i<n∧k<K∧j=i*K+k∧u=f i k:=by
 induction n with
 | zero=>intro j u h;simp [Av] at h
 | succ n ih=>
  intro j u h;rw [BM] at h;by_cases hj:j<n*K
  . rw [List.getElem?_append_left (by rw [recL_len];exact hj)] at h;obtain⟨i,k,h1,h2,h3,h4⟩:=ih h;exact⟨i,k,by omega,h2,h3,h4⟩
  . rw [ME (by rw [recL_len];omega),recL_len,List.getElem?_map] at h;by_cases hk:j - n*K<K
    . rw [List.getElem?_range hk] at h;exact⟨n,j - n*K,by omega,hk,by omega,(Option.some.inj h).symm⟩
    . rw [List.getElem?_eq_none (by simp;omega)] at h;cases h
theorem recL_one (h:∀i k,i<n->k<K->(f i k).oneCell'=true):∀u ∈ Av n K f,u.oneCell'=true:=by
 intro u hu;obtain⟨j,hj,rfl⟩:=List.mem_iff_getElem.1 hu;obtain⟨i,k,h1,h2,_,h4⟩:=Pe (List.getElem?_eq_getElem hj);rw [h4];exact h i k h1 h2
theorem Gj (h:Al w b t K n f) (h1:∀i k,i<n->k<K->(f i k).oneCell'=true):Src w (some (b 0)) n c K (Av n K f):=by
 refine⟨fun e=>(by cases e),recL_len n K f,fun ad e _=>?_,fun ad e j u hj=>?_,recL_one h1⟩
 . injection e with e;subst e;exact h.lt
 . injection e with e;subst e;obtain⟨i,k,hi,hk,rfl,rfl⟩:=Pe hj;rw [Af,Ag];exact h.cell i k hi hk
theorem J5 (b n c:Nat):(Aa b n c).oneCell'=true:=by
 obtain⟨ao,c',e⟩:=AO b n c;rw [e];rfl
theorem Qc (d:Ck) (fb fc k:Nat) (hk:k<6):(Cf d fb fc k).oneCell'=true:=by
 match k,hk with
 | 0,_ | 2,_ | 3,_ | 4,_ | 5,_=>rfl
 | 1,_=>exact J5 _ _ _
theorem QZ (d:Do) (k:Nat) (hk:k<3):(D8 d k).oneCell'=true:=by
 match k,hk with
 | 0,_ | 1,_ | 2,_=>rfl
theorem QW (d:Dv) (gb gc qb qc k:Nat) (hk:k<6):(CR d gb gc qb qc k).oneCell'=true:=by
 match k,hk with
 | 0,_ | 1,_ | 2,_ | 3,_=>rfl
 | 4,_ | 5,_=>exact J5 _ _ _
theorem J7 (d:Rg) (k:Nat) (hk:k<2):(Ed d k).oneCell'=true:=by
 match k,hk with
 | 0,_ | 1,_=>rfl
theorem xN (h:xs.length=4):∃a b c d,xs=[a,b,c,d]:=by
 match xs,h with
 | [a,b,c,d],_=>exact⟨a,b,c,d,rfl⟩
theorem Bw {base':Nat} {v:Value} (h:w.ownsRow base e size v n xs) (hb:base'<=base):w.ownsRow base' e size v n xs:=
 ⟨h.1,h.2.imp id fun⟨g,c,cur,h1,h2,r⟩=>⟨g,c,cur,h1,Nat.le_trans hb h2,r⟩⟩
theorem Bj (h:AF w b t xs) (r:Al w c t' K n f) (hne:t≠t'):b≠c:=by
 intro e;subst e;obtain⟨cs,hb,_⟩:=r;unfold AF at h;rw [h] at hb;injection hb with hb;injection hb with _ hb;exact hne hb
theorem Ba {K' n':Nat} {f':Nat->Nat->Value} (h:Al w b t K n f) (r:Al w c t' K' n' f') (hne:t≠t'):b≠c:=by
 intro e;subst e;obtain⟨cs,hb,_⟩:=r;obtain⟨ds,hc,_⟩:=h;rw [hc] at hb;injection hb with hb;injection hb with _ hb;exact hne hb
def ZT (w:World) (s:AE) (e:Ending) (w':World):Prop:=
 ∃v,e= .returned (.agg #[.slice v.cb s.nc v.cc, .slice v.db s.nd v.dc, .slice v.rb s.nr v.rc, .slice v.vb s.nv v.vc])∧AJ w w'∧A6 w' v s∧∀b,v.In s b->w.heap.size<=b
def Qy (w:World) (v:Bx) (s:AE) (s3:Value) (W:World):Prop:=
 ∃ob g1 c1 g2 c2 g3 c3 g4 c4,s3= .pointer (some ⟨ob,0,none⟩)∧AJ w W∧w.heap.size+2<=ob∧AF W ob 30 [.slice (some ⟨g1,0,none⟩) s.nc c1, .slice (some ⟨g2,0,none⟩) s.nd c2, .slice (some ⟨g3,0,none⟩) s.nr c3, .slice (some ⟨g4,0,none⟩) s.nv c4]∧
  Al W g1 62 6 s.nc (fun i=>Cf (s.ck i) (v.fb i) (v.fc i))∧Al W g2 47 3 s.nd (fun i=>D8 (s.dm i))∧Al W g3 64 1 s.nr (fun i _=> .int .i64 (s.rs i))∧Al W g4 40 6 s.nv (fun i=>CR (s.dv i) (v.gb i) (v.gc i) (v.qb i) (v.qc i))∧
  w.heap.size+2<=g1∧w.heap.size+2<=g2∧w.heap.size+2<=g3∧w.heap.size+2<=g4∧AF W (w.heap.size+1) 30 [.slice none 0 0, .slice none 0 0, .slice none 0 0, .slice none 0 0]
theorem Q6 {W:World} (hs:s.Ok) {a1 a2 a3 a4:Option Addr} (k:AJ w W) (hob:w.heap.size+2<=ob) (hb:AF W ob 30 [.slice a1 s.nc c1, .slice a2 s.nd c2, .slice a3 s.nr c3, .slice a4 s.nv c4])
 (b1:w.heap.size+2<=m) {m2 m3 m4:Nat} (b2:w.heap.size+2<=m2) (b3:w.heap.size+2<=m3) (b4:w.heap.size+2<=m4)
 (o1:W.ownsRow m 62 6 (.slice a1 s.nc c1) s.nc (Av s.nc 6 (fun i=>Cf (s.ck i) (v.fb i) (v.fc i)))) (o2:W.ownsRow m2 47 3 (.slice a2 s.nd c2) s.nd (Av s.nd 3 (fun i=>D8 (s.dm i)))) (o3:W.ownsRow m3 64 1 (.slice a3 s.nr c3) s.nr (Av s.nr 1 (fun i _=> .int .i64 (s.rs i)))) (o4:W.ownsRow m4 40 6 (.slice a4 s.nv c4) s.nv (Av s.nv 6 (fun i=>CR (s.dv i) (v.gb i) (v.gc i) (v.qb i) (v.qc i))))
 (z:AF W (w.heap.size+1) 30 [.slice none 0 0, .slice none 0 0, .slice none 0 0, .slice none 0 0]):Qy w v s (.pointer ob) W:=by
 obtain⟨g1,rfl,r1,q1⟩:=A5 o1 (by have:=hs.c1;omega);obtain⟨g2,rfl,r2,q2⟩:=A5 o2 (by have:=hs.d1;omega);obtain⟨g3,rfl,r3,q3⟩:=A5 o3 (by have:=hs.r1;omega);obtain⟨g4,rfl,r4,q4⟩:=A5 o4 (by have:=hs.v1;omega);exact⟨ob,g1,c1,g2,c2,g3,c3,g4,c4,rfl,k,hob,hb,r1,r2,r3,r4,by omega,by omega,by omega,by omega,z⟩
theorem F6 (e:Aa b m cap= .slice ao m c) (h:0<m->Al w b t K m f) (h1:∀i k,i<m->k<K->(f i k).oneCell'=true):Src w ao m c K (Av m K f):=by
 by_cases hm:m=0
 . subst hm;injection e with e1 e2 e3;subst e1 e3;exact⟨fun _=>⟨rfl,rfl⟩,recL_len _ _ _,fun ad e=>(by cases e),fun ad e=>(by cases e),recL_one h1⟩
 . rw [Dj (by omega)] at e;injection e with e1 e2 e3;subst e1;exact Gj (h (by omega)) h1
theorem GS (e:Aa b m cap= .slice ao m c) (h:m=0):ao=none:=by
 subst h;injection e with e1;exact e1.symm
theorem Fa {a:Option Addr} (h:w.ownsRow base e K (.slice a m c) m (Av m K f)) (hn:m=0->a=none):∃b,Value.slice a m c=Aa b m c∧(0<m->Al w b e K m f∧base<=b):=by
 by_cases hm:m=0
 . subst hm;rw [hn rfl] at h ⊢;rcases h.2 with⟨hv,_⟩ | ⟨g,c',cur,hv,_⟩
   . exact⟨0,by rw [hv];rfl,fun h=>by omega⟩
   . injection hv with hv;cases hv
 . obtain⟨g,rfl,r,hb⟩:=A5 h hm;exact⟨g,by rw [Dj (by omega)],fun _=>⟨r,hb⟩⟩
def TU (w:World) (s:AE) (ob g1 c1 g2 c2 g3 c3 g4 c4 k j:Nat) (W:World):Prop:=
 AJ w W∧AF W ob 30 [.slice g1 s.nc c1, .slice g2 s.nd c2, .slice g3 s.nr c3, .slice g4 s.nv c4]∧AF W (w.heap.size+1) 30 [.slice none 0 0, .slice none 0 0, .slice none 0 0, .slice none 0 0]∧
  ∃v',A6 W v' s∧v'.cb=g1∧v'.cc=c1∧v'.db=g2∧v'.dc=c2∧v'.rb=g3∧v'.rc=c3∧v'.vb=g4∧v'.vc=c4∧(∀i,i<k->0<(s.ck i).m->w.heap.size<=v'.fb i)∧(∀i,i<j->(0<(s.dv i).nreg->w.heap.size<=v'.gb i)∧(0<(s.dv i).nneed->w.heap.size<=v'.qb i))
theorem P6 (h:A6 w v s) (k:Nat) (hk:k<s.nc) (hb:0<(s.ck k).m->Al w b 3 1 (s.ck k).m (fun j _=> .int .i64 ((s.ck k).src j:Int))):
 A6 (w.setCell (v.cb (k*6+1)) (Aa b (s.ck k).m c)) { v with fb:=upd v.fb k b,fc:=upd v.fc k c } s:=by
 refine⟨(h.ck.set k 1 hk (by omega) _).congr fun i j hi hj=>?_,h.dm.far (fun e=>Ba h.ck h.dm (by omega) e) _,h.rs.far (fun e=>Ba h.ck h.rs (by omega) e) _,h.dv.far (fun e=>Ba h.ck h.dv (by omega) e) _,fun i hi hm=>?_,fun i hi hm=>?_,fun i hi hm=>?_⟩
 . by_cases e:i=k
   . subst e;simp only [upd_same]
     match j,hj with
     | 0,_ | 2,_ | 3,_ | 4,_ | 5,_=>rfl
     | 1,_=>simp [Cf]
   . simp only [uo_ e];simp [e]
 . by_cases e:i=k
   . subst e;simp only [upd_same];exact(hb hm).far (fun e=>Ba h.ck (hb hm) (by omega) e) _
   . simp only [uo_ e];exact(h.src i hi hm).far (fun e=>Ba h.ck (h.src i hi hm) (by omega) e) _
 . exact(h.reg i hi hm).far (fun e=>Ba h.ck (h.reg i hi hm) (by omega) e) _
 . exact(h.need i hi hm).far (fun e=>Ba h.ck (h.need i hi hm) (by omega) e) _
theorem P4 (h:A6 w v s) (k:Nat) (hk:k<s.nv) {b2:Nat} (hb:0<(s.dv k).nreg->Al w b 45 2 (s.dv k).nreg (fun j=>Ed ((s.dv k).reg j))) (hb2:0<(s.dv k).nneed->Al w b2 3 1 (s.dv k).nneed (fun j _=> .int .i64 ((s.dv k).need j:Int))):
 A6 ((w.setCell (v.vb (k*6+4)) (Aa b (s.dv k).nreg c)).setCell (v.vb (k*6+5)) (Aa b2 (s.dv k).nneed c2)) { v with gb:=upd v.gb k b,gc:=upd v.gc k c,qb:=upd v.qb k b2,qc:=upd v.qc k c2 } s:=by
 refine⟨(h.ck.far (fun e=>Ba h.dv h.ck (by omega) e) _).far (fun e=>Ba h.dv h.ck (by omega) e) _,(h.dm.far (fun e=>Ba h.dv h.dm (by omega) e) _).far (fun e=>Ba h.dv h.dm (by omega) e) _,(h.rs.far (fun e=>Ba h.dv h.rs (by omega) e) _).far (fun e=>Ba h.dv h.rs (by omega) e) _,((h.dv.set k 4 hk (by omega) _).set k 5 hk (by omega) _).congr fun i j hi hj=>?_,fun i hi hm=>?_,fun i hi hm=>?_,fun i hi hm=>?_⟩
 . by_cases e:i=k
   . subst e;simp only [upd_same]
     match j,hj with
     | 0,_ | 1,_ | 2,_ | 3,_=>rfl
     | 4,_=>simp [CR]
     | 5,_=>simp [CR]
   . simp only [uo_ e];simp [e]
 . exact((h.src i hi hm).far (fun e=>Ba h.dv (h.src i hi hm) (by omega) e) _).far (fun e=>Ba h.dv (h.src i hi hm) (by omega) e) _
 . by_cases e:i=k
   . subst e;simp only [upd_same];exact((hb hm).far (fun e=>Ba h.dv (hb hm) (by omega) e) _).far (fun e=>Ba h.dv (hb hm) (by omega) e) _
   . simp only [uo_ e];exact((h.reg i hi hm).far (fun e=>Ba h.dv (h.reg i hi hm) (by omega) e) _).far (fun e=>Ba h.dv (h.reg i hi hm) (by omega) e) _
 . by_cases e:i=k
   . subst e;simp only [upd_same];exact((hb2 hm).far (fun e=>Ba h.dv (hb2 hm) (by omega) e) _).far (fun e=>Ba h.dv (hb2 hm) (by omega) e) _
   . simp only [uo_ e];exact((h.need i hi hm).far (fun e=>Ba h.dv (h.need i hi hm) (by omega) e) _).far (fun e=>Ba h.dv (h.need i hi hm) (by omega) e) _
theorem FK (h:A6 w v s) (z:AF w p t xs) (ht:t≠62∧t≠47∧t≠64∧t≠40∧t≠3∧t≠45):∀b,v.In s b->¬b=p:=by
 intro b hb e;subst e;rcases hb with rfl | rfl | rfl | rfl | ⟨i,hi,hm,rfl⟩ | ⟨i,hi,hm,rfl⟩ | ⟨i,hi,hm,rfl⟩
 . exact Bj z h.ck (by omega) rfl
 . exact Bj z h.dm (by omega) rfl
 . exact Bj z h.rs (by omega) rfl
 . exact Bj z h.dv (by omega) rfl
 . exact Bj z (h.src i hi hm) (by omega) rfl
 . exact Bj z (h.reg i hi hm) (by omega) rfl
 . exact Bj z (h.need i hi hm) (by omega) rfl
theorem Ul (h:A6 w v s) (z:AF w p 30 xs):∀b,v.In s b->¬b=p:=FK h z (by omega)
theorem S7 (x0 x1 x2 x3:Value):AD (fun b=>b=w.heap.size+1) wr ((((wr.setCell ((w.heap.size+1) 0) x0).setCell ((w.heap.size+1) 1) x1).setCell ((w.heap.size+1) 2) x2).setCell ((w.heap.size+1) 3) x3):=
 (((keeps_set x0).trans (keeps_set x1) (fun i _ e=>e)).trans (keeps_set x2) (fun i _ e=>e)).trans (keeps_set x3) (fun i _ e=>e)
theorem Yd {g1 g2 g3 g4:Nat} (h:TU w s ob g1 c1 g2 c2 g3 c3 g4 c4 s.nc s.nv wr) (h1:w.heap.size+2<=g1) (h2:w.heap.size+2<=g2) (h3:w.heap.size+2<=g3) (h4:w.heap.size+2<=g4) (x0 x1 x2 x3:Value):
 ZT w s (.returned (.agg #[.slice g1 s.nc c1, .slice g2 s.nd c2, .slice g3 s.nr c3, .slice g4 s.nv c4])) ((((wr.setCell ((w.heap.size+1) 0) x0).setCell ((w.heap.size+1) 1) x1).setCell ((w.heap.size+1) 2) x2).setCell ((w.heap.size+1) 3) x3):=by
 obtain⟨kw,bo,zo,v',va,e1,e2,e3,e4,e5,e6,e7,e8,l1,l2⟩:=h;have k4:=S7 (w:=w) (wr:=wr) x0 x1 x2 x3;refine⟨v',by rw [e1,e2,e3,e4,e5,e6,e7,e8],kw.trans k4 (fun i hi e=>by omega),va.keep k4 (Ul va zo),fun b hb=>?_⟩;rcases hb with rfl | rfl | rfl | rfl | ⟨i,hi,hm,rfl⟩ | ⟨i,hi,hm,rfl⟩ | ⟨i,hi,hm,rfl⟩
 . omega
 . omega
 . omega
 . omega
 . exact l1 i hi hm
 . exact(l2 i hi).1 hm
 . exact(l2 i hi).2 hm
theorem JT (hs:s.Ok) (ha:A6 w v s):Calls prog 30 #[.agg #[.slice v.cb s.nc v.cc, .slice v.db s.nd v.dc, .slice v.rb s.nr v.rc, .slice v.vb s.nv v.vc]] w (ZT w s):=by
 have HS:=Ae hs;have HA:=Ae ha;have n1:=hs.c2;have n2:=hs.d2;have n3:=hs.r2;have n4:=hs.v2;have HB:=Ae ((Aj (w:=w) s v).alloc (.cells #[.slice none 0 0, .slice none 0 0, .slice none 0 0, .slice none 0 0] 30));clear hs ha;go_in;go_upto_region 1 with fail;obtain⟨W0,hW0⟩:=ex ((w.alloc (.cells (BI v s) 30)).alloc (.cells #[.slice none 0 0, .slice none 0 0, .slice none 0 0, .slice none 0 0] 30));have K0:=((nr w).alloc (.cells (BI v s) 30)).alloc (.cells #[.slice none 0 0, .slice none 0 0, .slice none 0 0, .slice none 0 0] 30);have Z0:=AF.new (w.alloc (.cells (BI v s) 30)) [.slice none 0 0, .slice none 0 0, .slice none 0 0, .slice none 0 0] 30;rw [Ay] at Z0;have hz0:W0.heap.size=w.heap.size+2:=by rw [<-hW0];simp
 rw [hW0] at HB K0;have hW0':(w.alloc (.cells (BI v s) 30)).alloc (.cells [.slice none 0 0, .slice none 0 0, .slice none 0 0, .slice none 0 0].toArray 30)=W0:=hW0;rw [hW0'] at Z0;rw [hW0];have A0:=Ae (HA.out.new K0);have K0:=Ae K0;have Z0:=Ae Z0;have hl0:w.heap.size<W0.heap.size:=by omega
 have HZ0:=Ae hz0;have q0:¬W0.heap.size=w.heap.size:=by omega
 have r0:¬w.heap.size=W0.heap.size:=by omega
 clear hz0;have KN:AG (AJ W0 W0):=⟨kx_⟩;have S0:W0.cell? (w.heap.size 0)=some (.slice v.cb s.nc v.cc)∧W0.cell? (w.heap.size 1)=some (.slice v.db s.nd v.dc)∧W0.cell? (w.heap.size 2)=some (.slice v.rb s.nr v.rc)∧W0.cell? (w.heap.size 3)=some (.slice v.vb s.nv v.vc):=⟨HB.out.cell 0,HB.out.cell 1,HB.out.cell 2,HB.out.cell 3⟩;have C75:AG (∀W,AJ W0 W->Calls prog 75 #[.slice v.cb s.nc v.cc] W fun e w'=>∃a c,e= .returned (.slice a s.nc c)∧AJ W w'∧w'.ownsRow W.heap.size 62 6 (.slice a s.nc c) s.nc (Av s.nc 6 (fun i=>Cf (s.ck i) (v.fb i) (v.fc i)))):=⟨fun W kW=>(Uz _ _ _ _ W (Gj (A0.out.new kW).ck (fun i k _ hk=>Qc _ _ _ k hk)) (by omega)).mono fun e w' ⟨a,c,h1,h2,h3,_⟩=>⟨a,c,h1,h2,h3⟩⟩;have C76:AG (∀W,AJ W0 W->Calls prog 76 #[.slice v.db s.nd v.dc] W fun e w'=>∃a c,e= .returned (.slice a s.nd c)∧AJ W w'∧w'.ownsRow W.heap.size 47 3 (.slice a s.nd c) s.nd (Av s.nd 3 (fun i=>D8 (s.dm i)))):=⟨fun W kW=>(zK _ _ _ _ W (Gj (A0.out.new kW).dm (fun i k _ hk=>QZ _ k hk)) (by omega)).mono fun e w' ⟨a,c,h1,h2,h3,_⟩=>⟨a,c,h1,h2,h3⟩⟩;have C77:AG (∀W,AJ W0 W->Calls prog 77 #[.slice v.rb s.nr v.rc] W fun e w'=>∃a c,e= .returned (.slice a s.nr c)∧AJ W w'∧w'.ownsRow W.heap.size 64 1 (.slice a s.nr c) s.nr (Av s.nr 1 (fun i _=> .int .i64 (s.rs i)))):=⟨fun W kW=>(Xg _ _ _ _ W (Gj (A0.out.new kW).rs (fun i k _ hk=>rfl)) (by omega)).mono fun e w' ⟨a,c,h1,h2,h3,_⟩=>⟨a,c,h1,h2,h3⟩⟩;have C78:AG (∀W,AJ W0 W->Calls prog 78 #[.slice v.vb s.nv v.vc] W fun e w'=>∃a c,e= .returned (.slice a s.nv c)∧AJ W w'∧w'.ownsRow W.heap.size 40 6 (.slice a s.nv c) s.nv (Av s.nv 6 (fun i=>CR (s.dv i) (v.gb i) (v.gc i) (v.qb i) (v.qc i)))):=⟨fun W kW=>(zL _ _ _ _ W (Gj (A0.out.new kW).dv (fun i k _ hk=>QW _ _ _ _ _ k hk)) (by omega)).mono fun e w' ⟨a,c,h1,h2,h3,_⟩=>⟨a,c,h1,h2,h3⟩⟩;clear hW0 hW0';go_cut [3] (fun s3 wx=>Qy w v s s3 wx);case first=>
  refine rh_ ((fun w'=>w'.cell? (w.heap.size 0)=some (.slice v.cb s.nc v.cc)∧w'.cell? (w.heap.size 1)=some (.slice v.db s.nd v.dc)∧w'.cell? (w.heap.size 2)=some (.slice v.rb s.nr v.rc)∧w'.cell? (w.heap.size 3)=some (.slice v.vb s.nv v.vc))) S0 (fun hE=>?_);refine tk 0 hE ?_;refine tk 1 hE ?_;refine tk 3 hE ?_;refine tk 4 hE ?_;refine tk 6 hE ?_;refine tk 7 hE ?_;refine tk 9 hE ?_;refine tk 10 hE ?_
  refine wl_ (fuel:=0) [2,5,8,11,12,13,14] (fun i vals W=>match i with
   | 2=>∃a c,vals 2= .slice a s.nc c∧W.ownsRow (w.heap.size+2) 62 6 (.slice a s.nc c) s.nc (Av s.nc 6 (fun i=>Cf (s.ck i) (v.fb i) (v.fc i)))
   | 5=>∃a c,vals 5= .slice a s.nd c∧W.ownsRow (w.heap.size+2) 47 3 (.slice a s.nd c) s.nd (Av s.nd 3 (fun i=>D8 (s.dm i)))
   | 8=>∃a c,vals 8= .slice a s.nr c∧W.ownsRow (w.heap.size+2) 64 1 (.slice a s.nr c) s.nr (Av s.nr 1 (fun i _=> .int .i64 (s.rs i)))
   | 11=>∃a c,vals 11= .slice a s.nv c∧W.ownsRow (w.heap.size+2) 40 6 (.slice a s.nv c) s.nv (Av s.nv 6 (fun i=>CR (s.dv i) (v.gb i) (v.gc i) (v.qb i) (v.qc i)))
   | 12=>∃a1 c1 a2 c2 a3 c3 a4 c4,vals 2= .slice a1 s.nc c1∧vals 5= .slice a2 s.nd c2∧vals 8= .slice a3 s.nr c3∧vals 11= .slice a4 s.nv c4∧vals 12= .agg #[.slice a1 s.nc c1, .slice a2 s.nd c2, .slice a3 s.nr c3, .slice a4 s.nv c4]
   | 13=>∃b xs,vals 13= .pointer (some ⟨b,0,none⟩)∧(w.heap.size+2)<=b∧xs.length=4∧AF W b 30 xs
   | _=>∃b a1 c1 a2 c2 a3 c3 a4 c4,vals 13= .pointer (some ⟨b,0,none⟩)∧vals 12= .agg #[.slice a1 s.nc c1, .slice a2 s.nd c2, .slice a3 s.nr c3, .slice a4 s.nv c4]∧AF W b 30 [.slice a1 s.nc c1, .slice a2 s.nd c2, .slice a3 s.nr c3, .slice a4 s.nv c4]) (AJ W0) (fun i W W'=>match i with | 14=>BU 30 W0.heap.size W W' | _=>AJ W W') ?j ?step ?fin (stab:=?stab) (cong:=?cong)
  case j=>exact(AD.refl _ W0).drew
  case step=>
   intro i hi o ho vals ρ W hJ hd ev;simp only [m1,m0,or_false] at hi;rcases hi with rfl | rfl | rfl | rfl | rfl | rfl | rfl
   . cases ho;intro a K Q ha hK;subst ha;have e1:=tv (ev (.tmp 8) rfl);go_simp;refine(C75.out W hJ).mono ?_;rintro e w2 ⟨a2,c2,rfl,k2,o2⟩;have KN:AJ W0 w2:=hJ.then_ k2;exact hK _ _ ⟨k2,KN,⟨(HB.out.keep KN id).cell 0,(HB.out.keep KN id).cell 1,(HB.out.keep KN id).cell 2,(HB.out.keep KN id).cell 3⟩,a2,c2,by rw [AQ],Bw o2 (by have:=hJ.size;have:=HZ0.out;omega)⟩
   . cases ho;intro a K Q ha hK;subst ha;have e1:=tv (ev (.tmp 11) rfl);go_simp;refine(C76.out W hJ).mono ?_;rintro e w2 ⟨a2,c2,rfl,k2,o2⟩;have KN:AJ W0 w2:=hJ.then_ k2;exact hK _ _ ⟨k2,KN,⟨(HB.out.keep KN id).cell 0,(HB.out.keep KN id).cell 1,(HB.out.keep KN id).cell 2,(HB.out.keep KN id).cell 3⟩,a2,c2,by rw [AQ],Bw o2 (by have:=hJ.size;have:=HZ0.out;omega)⟩
   . cases ho;intro a K Q ha hK;subst ha;have e1:=tv (ev (.tmp 14) rfl);go_simp;refine(C77.out W hJ).mono ?_;rintro e w2 ⟨a2,c2,rfl,k2,o2⟩;have KN:AJ W0 w2:=hJ.then_ k2;exact hK _ _ ⟨k2,KN,⟨(HB.out.keep KN id).cell 0,(HB.out.keep KN id).cell 1,(HB.out.keep KN id).cell 2,(HB.out.keep KN id).cell 3⟩,a2,c2,by rw [AQ],Bw o2 (by have:=hJ.size;have:=HZ0.out;omega)⟩
   . cases ho;intro a K Q ha hK;subst ha;have e1:=tv (ev (.tmp 17) rfl);go_simp;refine(C78.out W hJ).mono ?_;rintro e w2 ⟨a2,c2,rfl,k2,o2⟩;have KN:AJ W0 w2:=hJ.then_ k2;exact hK _ _ ⟨k2,KN,⟨(HB.out.keep KN id).cell 0,(HB.out.keep KN id).cell 1,(HB.out.keep KN id).cell 2,(HB.out.keep KN id).cell 3⟩,a2,c2,by rw [AQ],Bw o2 (by have:=hJ.size;have:=HZ0.out;omega)⟩
   . cases ho;obtain⟨⟨a1,c1,v1,_⟩,d1⟩:=he_ hd 2;obtain⟨⟨a2,c2,v2,_⟩,d2⟩:=he_ hd 5;obtain⟨⟨a3,c3,v3,_⟩,d3⟩:=he_ hd 8;obtain⟨⟨a4,c4,v4,_⟩,d4⟩:=he_ hd 11;intro a K Q ha hK;subst ha;have e1:=et ((d1 9 rfl).trans v1);have e2:=et ((d2 12 rfl).trans v2);have e3:=et ((d3 15 rfl).trans v3);have e4:=et ((d4 18 rfl).trans v4);go_simp;have KN:AJ W0 W:=hJ;exact hK _ _ ⟨kx_,KN,⟨(HB.out.keep KN id).cell 0,(HB.out.keep KN id).cell 1,(HB.out.keep KN id).cell 2,(HB.out.keep KN id).cell 3⟩,a1,c1,a2,c2,a3,c3,a4,c4,v1,v2,v3,v4,by rw [AQ]⟩
   . cases ho;intro a K Q ha hK;subst ha;go_simp;have KN:AJ W0 (W.alloc (.cells #[.slice none 0 0, .slice none 0 0, .slice none 0 0, .slice none 0 0] 30)):=hJ.alloc _;exact hK _ _ ⟨(kx_).alloc _,KN,⟨(HB.out.keep KN id).cell 0,(HB.out.keep KN id).cell 1,(HB.out.keep KN id).cell 2,(HB.out.keep KN id).cell 3⟩,W.heap.size,_,by rw [AQ],by have:=hJ.size;have:=HZ0.out;omega,rfl,AF.new W [.slice none 0 0, .slice none 0 0, .slice none 0 0, .slice none 0 0] 30⟩
   . cases ho;obtain⟨⟨a1,c1,a2,c2,a3,c3,a4,c4,_,_,_,_,v5⟩,d5⟩:=he_ hd 12;obtain⟨⟨b,xs,v6,hb,hl,bb⟩,d6⟩:=he_ hd 13;obtain⟨x0,x1,x2,x3,rfl⟩:=xN hl;intro a K Q ha hK;subst ha;have e1:=et ((d5 19 rfl).trans v5);have e2:=et ((d6 3 rfl).trans v6);have q0:=bb.z 0;have q1:=bb.z 1;have q2:=bb.z 2;have q3:=bb.z 3;have f0:=bb.frozen 0;have f1:=bb.frozen 1;have f2:=bb.frozen 2;have f3:=bb.frozen 3;have HJ:=Ae hJ;have BB:=Ae bb;have V5:=Ae v5;have V6:=Ae v6;clear bb hJ v5 v6;go_simp;have T1:=BU.set (B:=W0.heap.size) BB.out (by have:=HZ0.out;omega) 0 (.slice a1 s.nc c1);have T2:=T1.trans (BU.set (BB.out.set 0 _) (by have:=HZ0.out;omega) 1 (.slice a2 s.nd c2));have T3:=T2.trans (BU.set ((BB.out.set 0 _).set 1 _) (by have:=HZ0.out;omega) 2 (.slice a3 s.nr c3));have T4:=T3.trans (BU.set (((BB.out.set 0 _).set 1 _).set 2 _) (by have:=HZ0.out;omega) 3 (.slice a4 s.nv c4));have KN:AJ W0 ((((W.setCell (b 0) (.slice a1 s.nc c1)).setCell (b 1) (.slice a2 s.nd c2)).setCell (b 2) (.slice a3 s.nr c3)).setCell (b 3) (.slice a4 s.nv c4)):=HJ.out.trans T4.k (fun i hi c=>by omega);exact hK undef _ ⟨T4,KN,⟨(HB.out.keep KN id).cell 0,(HB.out.keep KN id).cell 1,(HB.out.keep KN id).cell 2,(HB.out.keep KN id).cell 3⟩,b,a1,c1,a2,c2,a3,c3,a4,c4,(turn_other vals _ (by decide:(13:Nat)≠14)).trans V6.out,(turn_other vals _ (by decide:(12:Nat)≠14)).trans V5.out,(((BB.out.set 0 _).set 1 _).set 2 _).set 3 _⟩
  case stab=>
   intro k hk i hi hne hw vals W W' hR;simp only [m1,m0,or_false] at hi;have hT:BU 30 W0.heap.size W W':=by
    rcases hi with rfl | rfl | rfl | rfl | rfl | rfl | rfl
    all_goals first | exact BU.of_new hR | exact hR
   simp only [m1,m0,or_false] at hk;rcases hk with rfl | rfl | rfl | rfl | rfl | rfl | rfl
   . exact fun⟨a,c,h1,h2⟩=>⟨a,c,h1,hT.owns h2 (by omega)⟩
   . exact fun⟨a,c,h1,h2⟩=>⟨a,c,h1,hT.owns h2 (by omega)⟩
   . exact fun⟨a,c,h1,h2⟩=>⟨a,c,h1,hT.owns h2 (by omega)⟩
   . exact fun⟨a,c,h1,h2⟩=>⟨a,c,h1,hT.owns h2 (by omega)⟩
   . exact id
   . exact fun⟨b,xs,h1,h2,h3,h4⟩=>(let ⟨ys,h5,h6⟩:=hT.t b xs (by have:=HZ0.out;omega) h4;⟨b,ys,h1,h2,h5.trans h3,h6⟩)
   . have hN:AJ W W':=by
      rcases hi with rfl | rfl | rfl | rfl | rfl | rfl | rfl
      all_goals first | exact hR | exact absurd rfl hne
     exact fun⟨b,a1,c1,a2,c2,a3,c3,a4,c4,v1,v2,v3⟩=>⟨b,a1,c1,a2,c2,a3,c3,a4,c4,v1,v2,v3.keep hN id⟩
  case cong=>
   intro k hk vals vals' W he hd;simp only [m1,m0,or_false] at hk;rcases hk with rfl | rfl | rfl | rfl | rfl | rfl | rfl
   . exact fun⟨a,c,h1,h2⟩=>⟨a,c,he.symm.trans h1,h2⟩
   . exact fun⟨a,c,h1,h2⟩=>⟨a,c,he.symm.trans h1,h2⟩
   . exact fun⟨a,c,h1,h2⟩=>⟨a,c,he.symm.trans h1,h2⟩
   . exact fun⟨a,c,h1,h2⟩=>⟨a,c,he.symm.trans h1,h2⟩
   . have h2:=he_ hd 2;have h5:=he_ hd 5;have h8:=he_ hd 8;have h11:=he_ hd 11;exact fun⟨a1,c1,a2,c2,a3,c3,a4,c4,v1,v2,v3,v4,v5⟩=>⟨a1,c1,a2,c2,a3,c3,a4,c4,h2.symm.trans v1,h5.symm.trans v2,h8.symm.trans v3,h11.symm.trans v4,he.symm.trans v5⟩
   . exact fun⟨b,xs,h1,h2⟩=>⟨b,xs,he.symm.trans h1,h2⟩
   . have h12:=he_ hd 12;have h13:=he_ hd 13;exact fun⟨b,a1,c1,a2,c2,a3,c3,a4,c4,v1,v2,v3⟩=>⟨b,a1,c1,a2,c2,a3,c3,a4,c4,h13.symm.trans v1,h12.symm.trans v2,v3⟩
  case fin=>
   intro vals W hJ hV;obtain⟨a1,c1,v1,o1⟩:=Jh hV 2;obtain⟨a2,c2,v2,o2⟩:=Jh hV 5;obtain⟨a3,c3,v3,o3⟩:=Jh hV 8;obtain⟨a4,c4,v4,o4⟩:=Jh hV 11;obtain⟨b1,d1,b2,d2,b3,d3,b4,d4,w1,w2,w3,w4,w5⟩:=Jh hV 12;obtain⟨b,xs,v6,hb,hl,bb⟩:=Jh hV 13;obtain⟨b',e1,f1,e2,f2,e3,f3,e4,f4,x1,x2,bf⟩:=Jh hV 14;refine⟨by kernel_rfl,?_⟩;simp only [Am,AR,dstOf,De,Bl,Bk,CM,pu,s0,s1,if_true];rw [v6] at x1;injection x1 with x1;injection x1 with x1;injection x1 with x1;subst x1;rw [v1] at w1;rw [v2] at w2;rw [v3] at w3;rw [v4] at w4;rw [w5] at x2;simp only [Value.slice.injEq,true_and] at w1 w2 w3 w4;obtain⟨rfl,rfl⟩:=w1;obtain⟨rfl,rfl⟩:=w2;obtain⟨rfl,rfl⟩:=w3;obtain⟨rfl,rfl⟩:=w4;have x3:[Value.slice a1 s.nc c1, .slice a2 s.nd c2, .slice a3 s.nr c3, .slice a4 s.nv c4]=[.slice e1 s.nc f1, .slice e2 s.nd f2, .slice e3 s.nr f3, .slice e4 s.nv f4]:=by injection x2 with x2;exact congrArg Array.toList x2
   rw [<-x3] at bf;have FIN:=Ae (Q6 HS.out (K0.out.then_ hJ) hb bf (al11_ _) (al11_ _) (al11_ _) (al11_ _) o1 o2 o3 o4 (Z0.out.keep hJ id));clear o1 o2 o3 o4 bb bf x2 x3 w5 hV hJ;rw [v1,v2,v3,v4,v6];clear v1 v2 v3 v4 v6;go_wp2;go_meet;exact FIN.out
 case rest=>
  clear C75 C76 C77 C78 KN S0 HB Z0 HZ0 q0 r0 hl0;obtain⟨ob,g1,c1,g2,c2,g3,c3,g4,c4,rfl,k1,hob,b1,r1,r2,r3,r4,h1,h2,h3,h4,z1⟩:=hcut;have A1:=HA.out.new k1;have V1:=Ae (show A6 wc ⟨g1,c1,g2,c2,g3,c3,g4,c4,v.fb,v.fc,v.gb,v.gc,v.qb,v.qc⟩ s from⟨r1,r2,r3,r4,A1.src,A1.reg,A1.need⟩);have K1:=Ae k1;have B1:=Ae b1;have Z1:=Ae z1;have co0:=b1.z 0;clear A1 k1 b1 r1 r2 r3 r4 z1;go_wp2_with fail;clear co0;go_loopw [23] (fun i wr=>∃k:Nat,k<=s.nc∧i= .int .i64 k∧TU w s ob g1 c1 g2 c2 g3 c3 g4 c4 k 0 wr) (fun i _=>s.nc - (intOf i).toNat);case atStart=>exact⟨0,by omega,rfl,K1.out,B1.out,Z1.out,_,V1.out,rfl,rfl,rfl,rfl,rfl,rfl,rfl,rfl,fun i hi=>by omega,fun i hi=>by omega⟩
  case round=>
   obtain⟨k,hk,rfl,st⟩:=hrel;have ST:=Ae st;clear st;by_cases hlt:k<s.nc
   . obtain⟨kw,bo,zo,v',va,e1,e2,e3,e4,e5,e6,e7,e8,lo1,lo2⟩:=ST.out;have S0:=bo.z 0;obtain⟨ao,c,es⟩:=AO (v'.fb k) (s.ck k).m (v'.fc k);have cf:wr.cell? (g1 (k*6+1))=some (.slice ao (s.ck k).m c):=by
      have:=va.ck.cell k 1 hlt (by omega);rw [e1] at this;exact this.trans (congrArg some es)
     have SR:=Ae (F6 es (va.src k hlt) (fun _ _ _ _=>rfl));have ES:=Ae (GS es);have EE:=Ae (And.intro e2 (And.intro e3 (And.intro e4 (And.intro e5 (And.intro e6 (And.intro e7 e8))))));have LO:=Ae (And.intro lo1 lo2);have ZO:=Ae zo;have hgo:¬g1=ob:=fun e=>Bj bo va.ck (by omega) (e1.symm ▸ e.symm);have hdm:=(HS.out.ck k hlt).few;have VA:=Ae va;have E1:=Ae e1;have BO:=Ae bo;have KW:=Ae kw;have lw:=kw.size;clear kw bo zo va e1 e2 e3 e4 e5 e6 e7 e8 lo1 lo2 es;obtain⟨mk,hmk⟩:=ex ((s.ck k).m);rw [hmk] at cf SR ES hdm;have HM:=Ae hmk;clear hmk;go_wp2_with fail;go_region_with (go_at_call 79;refine(OI ao mk c _ _ (SR.out.new ((AD.refl _ wr).drew)) (by omega)).mono ?_;rintro e w2 ⟨a2,c2',rfl,k2,o2,n2⟩;have KN:=Ae (((nr wr).drew).then_ k2);have S2:w2.cell? (ob 0)=some (.slice g1 s.nc c1):=(BO.out.keep KN.out id).cell 0;have S3:=fun(x:Value)=>(IA w2 (g1 (k*6+1)) (ob 0) x (Aq hgo)).trans S2;have V2:=VA.out.new KN.out;have cf2:w2.cell? (g1 (k*6+1))=some (Cf (s.ck k) (v'.fb k) (v'.fc k) 1):=(by have:=V2.ck.cell k 1 hlt (by omega);rw [E1.out] at this;exact this);have ff2:w2.frozen? (g1 (k*6+1))=false:=(by have:=V2.ck.frozen (k*6+1);rw [E1.out] at this;exact this);have V2:=Ae V2;have O2:=Ae o2;have N2:=Ae n2;clear k2 o2 n2)
     all_goals go_wp2_with fail
     all_goals go_roundw
     all_goals first | (simp [intOf];omega;done) | skip
     all_goals obtain⟨b,hb,hr⟩:=Fa O2.out (fun h0=>N2.out (ES.out h0))
     all_goals have hm:=HM.out
     all_goals subst hm
     all_goals have hz:=KN.out.size
     all_goals have SF:=P6 V2.out k hlt (b:=b) (c:=c2') (fun h=>(hr h).1)
     all_goals rw [E1.out, <-hb] at SF
     all_goals obtain⟨e2,e3,e4,e5,e6,e7,e8⟩:=EE.out
     all_goals refine⟨k+1,by omega,by go_num,(KW.out.then_ KN.out).trans (keeps_set _) (fun i hi e=>by omega),(BO.out.keep KN.out id).far hgo _,(ZO.out.keep KN.out id).far (show g1≠w.heap.size+1 by omega) _,_,SF,rfl,e2,e3,e4,e5,e6,e7,e8,fun i hi hm=>?_,fun i hi=>by omega⟩
     all_goals by_cases e:i=k
     all_goals first
      | (subst e;simp only [upd_same];have:=(hr hm).2;simp at this;omega)
      | (simp only [uo_ e];exact LO.out.1 i (by omega) hm)
   . have HK:=Ae (show k=s.nc by omega);obtain⟨kw,bo,zo,v',va,e⟩:=ST.out;have co3:=bo.z 3;clear kw bo zo va e;go_wp2_with fail;clear co3;obtain⟨W2,rfl⟩:∃W2,W2=wr:=⟨_,rfl⟩;go_loopw [42] (fun i wr=>∃j:Nat,j<=s.nv∧i= .int .i64 j∧TU w s ob g1 c1 g2 c2 g3 c3 g4 c4 k j wr) (fun i _=>s.nv - (intOf i).toNat);case atStart=>exact⟨0,by omega,rfl,ST.out⟩
     case round=>
      obtain⟨j,hj,rfl,st⟩:=hrel;have SU:=Ae st;clear st;by_cases hlt2:j<s.nv
      . obtain⟨kw,bo,zo,v',va,e1,e2,e3,e4,e5,e6,e7,e8,lo1,lo2⟩:=SU.out;have S0:=bo.z 3;obtain⟨ao,c,es⟩:=AO (v'.gb j) (s.dv j).nreg (v'.gc j);obtain⟨aq,cq,et⟩:=AO (v'.qb j) (s.dv j).nneed (v'.qc j);have cf:wr.cell? (g4 (j*6+4))=some (.slice ao (s.dv j).nreg c):=by
         have:=va.dv.cell j 4 hlt2 (by omega);rw [e7] at this;exact this.trans (congrArg some es)
        have cq':wr.cell? (g4 (j*6+5))=some (.slice aq (s.dv j).nneed cq):=by
         have:=va.dv.cell j 5 hlt2 (by omega);rw [e7] at this;exact this.trans (congrArg some et)
        have f4:wr.frozen? (g4 (j*6+4))=false:=by have:=va.dv.frozen (j*6+4);rw [e7] at this;exact this
        have SR:=Ae (F6 es (va.reg j hlt2) (fun i k _ hk=>J7 _ k hk));have SQ:=Ae (F6 et (va.need j hlt2) (fun _ _ _ _=>rfl));have ES:=Ae (GS es);have ET:=Ae (GS et);have hgo:¬g4=ob:=fun e=>Bj bo va.dv (by omega) (e7.symm ▸ e.symm);have hrg:=HS.out.regs j hlt2;have hnd:=HS.out.needs j hlt2;have VA:=Ae va;have E7:=Ae e7;have BO:=Ae bo;have ZO:=Ae zo;have KW:=Ae kw;have EE:=Ae (And.intro e1 (And.intro e2 (And.intro e3 (And.intro e4 (And.intro e5 (And.intro e6 e8))))));have LO:=Ae (And.intro lo1 lo2);have lw:=kw.size;clear kw bo zo va e1 e2 e3 e4 e5 e6 e7 e8 lo1 lo2 es et;obtain⟨mr,hmr⟩:=ex ((s.dv j).nreg);obtain⟨mq,hmq⟩:=ex ((s.dv j).nneed);rw [hmr] at cf SR ES hrg;rw [hmq] at cq' SQ ET hnd;have HR:=Ae hmr;have HQ:=Ae hmq;clear hmr hmq;go_wp2_with fail;go_region_with (first | (go_at_call 80;refine(zI ao mr c _ _ (SR.out.new ((AD.refl _ wr).drew)) (by omega)).mono ?_;rintro e w2 ⟨a2,c2',rfl,k2,o2,n2⟩;have KN:=Ae (((nr wr).drew).then_ k2);have V2:=VA.out.new KN.out;have cq2:w2.cell? (g4 (j*6+5))=some (.slice aq mq cq):=(KN.out.cell (p:=(g4 (j*6+5))) (E7.out ▸ VA.out.dv.lt) id).trans cq';have O2:=Ae o2;have N2:=Ae n2;have K2:=Ae k2;clear k2 o2 n2 V2) | (go_at_call 79;refine(OI aq mq cq _ _ (SQ.out.new KN.out) (by omega)).mono ?_;rintro e w3 ⟨a3,c3',rfl,k3,o3,n3⟩;have KM:=Ae (KN.out.then_ k3);have V3:=VA.out.new KM.out;have cf3:w3.cell? (g4 (j*6+4))=some (.slice ao mr c):=(KM.out.cell (p:=(g4 (j*6+4))) (E7.out ▸ VA.out.dv.lt) id).trans cf;have cq3:w3.cell? (g4 (j*6+5))=some (.slice aq mq cq):=(KM.out.cell (p:=(g4 (j*6+5))) (E7.out ▸ VA.out.dv.lt) id).trans cq';have ff3:w3.frozen? (g4 (j*6+4))=false:=(by have:=V3.dv.frozen (j*6+4);rw [E7.out] at this;exact this);have fg3:w3.frozen? (g4 (j*6+5))=false:=(by have:=V3.dv.frozen (j*6+5);rw [E7.out] at this;exact this);have V3:=Ae V3;have O3:=Ae o3;have N3:=Ae n3;have O2':=Ae (BN O2.out k3 (fun _ _=>id));clear k3 o3 n3))
        all_goals go_wp2_with fail
        all_goals go_roundw
        all_goals first | (simp [intOf];omega;done) | skip
        all_goals obtain⟨b,hb,hr⟩:=Fa O2'.out (fun h0=>N2.out (ES.out h0))
        all_goals obtain⟨b2,hb2,hr2⟩:=Fa O3.out (fun h0=>N3.out (ET.out h0))
        all_goals have hm:=HR.out
        all_goals subst hm
        all_goals have hm:=HQ.out
        all_goals subst hm
        all_goals have hz:=KM.out.size
        all_goals have hzn:=KN.out.size
        all_goals have SF:=P4 V3.out j hlt2 (b:=b) (c:=c2') (b2:=b2) (c2:=c3') (fun h=>(hr h).1) (fun h=>(hr2 h).1)
        all_goals rw [E7.out, <-hb, <-hb2] at SF
        all_goals obtain⟨e1,e2,e3,e4,e5,e6,e8⟩:=EE.out
        all_goals refine⟨j+1,by omega,by go_num,((KW.out.then_ KM.out).trans (keeps_set _) (fun i hi e=>by omega)).trans (keeps_set _) (fun i hi e=>by omega),((BO.out.keep KM.out id).far hgo _).far hgo _,((ZO.out.keep KM.out id).far (show g4≠w.heap.size+1 by omega) _).far (show g4≠w.heap.size+1 by omega) _,_,SF,e1,e2,e3,e4,e5,e6,rfl,e8,fun i hi hm=>LO.out.1 i hi hm,fun i hi=>?_⟩
        all_goals by_cases e:i=j
        all_goals first
         | (subst e;simp only [upd_same];refine⟨fun hm=>?_,fun hm=>?_⟩;(have:=(hr hm).2;simp at this;omega);(have:=(hr2 hm).2;omega))
         | (simp only [uo_ e];exact LO.out.2 i (by omega))
      . have HJ:=Ae (show j=s.nv by omega);obtain⟨kw,bo,zo,v',va,e⟩:=SU.out;have co0:=bo.z 0;have co1:=bo.z 1;have co2:=bo.z 2;have co3:=bo.z 3;have z0:=zo.z 0;have z1:=zo.z 1;have z2:=zo.z 2;have z3:=zo.z 3;have q0:=zo.frozen 0;have q1:=zo.frozen 1;have q2:=zo.frozen 2;have q3:=zo.frozen 3;have KW:=Ae kw;have VA:=Ae va;have EE:=Ae e;have ZO:=Ae zo;clear kw bo zo va e;go_wp2_with fail;refine bodyPost_ret (v:= .agg #[.slice g1 s.nc c1, .slice g2 s.nd c2, .slice g3 s.nr c3, .slice g4 s.nv c4]) (by simp [results,results30,go_sem,z0,z1,z2,z3]) rfl ?_;have hk:=HK.out;subst hk;have hj:=HJ.out;subst hj;exact Yd SU.out h1 h2 h3 h4 _ _ _ _
end
end Go.Proofs.YtpekoejdnhaohaaGreatDoor
