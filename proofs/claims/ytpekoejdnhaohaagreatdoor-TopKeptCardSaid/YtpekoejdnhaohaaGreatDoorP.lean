/- What each act of the firmware, its step and its making leave; what the counts hold, and who is active. For every firmware and counts in memory. -/
import Derived.Defers
import Derived.Recover
import Derived.Test.YtpekoejdnhaohaaGreatDoorJ
import Derived.Test.YtpekoejdnhaohaaGreatDoorN
namespace Go.Proofs.YtpekoejdnhaohaaGreatDoor
open Go.RowKit Tryz
set_option maxRecDepth 100000
set_option maxHeartbeats 40000000
set_option linter.all false
variable {s:AE} {r:Bool} {v:Bx} {hx':Hw} {t:Int} {d i k n p tok x:Nat} {lab:Nat->Lb} {ca:Nat->Nat} {e:Nat->Nat->Nat} {S:Nat->Prop} {w w':World}
def IE (w:World) (lab:Nat->Lb) (s:AE) (hb:Hb) (r:Bool) (x:Hw) (e:Ending) (w':World):Prop:=e= .returned (.bool r)∧AD (BH lab) w w'∧AH w' lab s hb x
def Nd.gate (n:Nd) (q:Bool):Nd:=if n.kind=112∧q=false then { n with on:=false,left:=n.lock } else { n with on:=q }
theorem Nd.gate_fb (n:Nd) (q:Bool):(n.gate q).fb=n.fb∧(n.gate q).m=n.m∧(n.gate q).kind=n.kind:=by unfold Nd.gate;split <;> exact⟨rfl,rfl,rfl⟩
theorem U7 {T gn cap:Nat} {ns:Nat->Nd} (h:AX w T gn n cap ns) (i:Nat) (hi:i<n) (hk:(ns i).kind=112∨(ns i).kind=103) (q:Bool):
 Calls prog 261 #[.pointer T, .int .i64 i, .bool q] w fun e w'=>e= .returned (.int .i64 0)∧AD (· =gn) w w'∧AX w' T gn n cap (upd ns i ((ns i).gate q)):=by
 rcases hk with hk | hk
 . cases q
   . have e:(ns i).gate false={ ns i with on:=false,left:=(ns i).lock }:=by unfold Nd.gate;rw [if_pos ⟨hk,rfl⟩]
     rw [e];exact zD h i hi hk
   . have e:(ns i).gate true={ ns i with on:=true }:=by unfold Nd.gate;rw [if_neg (by simp)]
     rw [e];exact pll_on h i hi hk
 . have e:(ns i).gate q={ ns i with on:=q }:=by unfold Nd.gate;rw [if_neg (by omega)]
   rw [e];exact xL h i hi hk q
section
variable {w:World} {lab:Nat->Lb} {s:AE} {hb:Hb} {hx:Hw} {b:Fb} {y:Fm}
theorem AP.c0 (h:AP w lab s hb.H b y):w.cell? (b.F 0)=some (.pointer hb.H):=h.f.cell 0
theorem IW (hh:AH w lab s hb hx) (i:Nat) (hi:i<s.nc) (hk:(hx.ns i).kind=112∨(hx.ns i).kind=103) (q:Bool):
 Calls prog 208 #[.pointer hb.H, .int .i64 i, .bool q] w (ML w lab s hb { hx with ns:=upd hx.ns i ((hx.ns i).gate q) }):=
 VU hh i hi q (fun w' t=>U7 t i hi hk q) fun j hj=>by
  by_cases e:j=i
  . subst e;rw [upd_same];exact⟨(Nd.gate_fb _ _).1,(Nd.gate_fb _ _).2.1⟩
  . rw [uo_ e];exact⟨rfl,rfl⟩
theorem Iu (h:AP w lab s hb.H b y) (hh:AH w lab s hb hx) (i:Nat) (hi:i<s.nr) (hr:(hx.ls i).held=false):
 Calls prog 146 #[.pointer b.F, .int .i64 i] w (IE w lab s hb true hx):=by
 have c0:=h.c0;have HH:=Ae hh;have HR:=Ae hr;clear h hh hr;go_in;go_wp2_with fail;refine(NL HH.out i hi HR.out).mono ?_;rintro e w' ⟨rfl,k⟩;have K:=Ae k;clear k;go_wp2;go_ret;exact⟨rfl,K.out.mono fun j e=>e.elim,HH.out.new K.out⟩
theorem O7 (h:AP w lab s hb.H b y) (hh:AH w lab s hb hx) (i:Nat) (hi:i<s.nr) (hr:(hx.ls i).held=true):
 Calls prog 146 #[.pointer b.F, .int .i64 i] w (IE w lab s hb false { hx with ls:=upd hx.ls i { hx.ls i with wanted:=true } }):=by
 have c0:=h.c0;have HF:=Ae h;have HH:=Ae hh;have HR:=Ae hr;clear h hh hr;go_in;go_wp2_with fail;refine(NL HH.out i hi HR.out).mono ?_;rintro e w1 ⟨rfl,k⟩;have c0':=(HF.out.new k).c0;have K:=Ae k;clear k c0;go_wp2_with fail;refine(OT (HH.out.new K.out) i hi HR.out).mono ?_;rintro e w2 ⟨rfl,k2,h2⟩;have K2:=Ae k2;have H2:=Ae h2;clear k2 h2;go_wp2;go_ret;exact⟨rfl,(K.out.mono fun j e=>e.elim).trans K2.out fun j _ e=>e,H2.out⟩
theorem M9 (h:AP w lab s hb.H b y) (hh:AH w lab s hb hx) (i:Nat) (hi:i<s.nc) (hk:(hx.ns i).kind=112∨(hx.ns i).kind=103):
 Calls prog 145 #[.pointer b.F, .int .i64 i] w (IE w lab s hb true { hx with ns:=upd hx.ns i ((hx.ns i).gate false) }):=by
 have c0:=h.c0;have HH:=Ae hh;have HK:=Ae hk;clear h hh hk;go_in;go_wp2_with fail;refine(IW HH.out i hi HK.out false).mono ?_;rintro e w2 ⟨rfl,k2,h2⟩;have K2:=Ae k2;have H2:=Ae h2;clear k2 h2;go_wp2;go_ret;exact⟨rfl,K2.out,H2.out⟩
def Au (s:AE) (d:Nat) (ca:Nat->Nat) (k:Nat):Nat->Nat:=fun j=>if j<k∧(s.dv j).dom=d∧ca j=0 then 1 else ca j
def Cw (s:AE) (d:Nat) (ca:Nat->Nat) (k:Nat):Nat->Nat:=fun j=>if j<k∧(s.dv j).dom=d∧ca j=2 then 0 else ca j
def Ak (s:AE) (d:Nat) (ca:Nat->Nat):Nat->Bool
 | 0=>true
 | k+1=>Ak s d ca k&&(decide ((s.dv k).dom≠d)||decide (ca k=2))
theorem NK (h:(s.dv k).dom=d) (h2:ca k=0):upd (Au s d ca k) k 1=Au s d ca (k+1):=by
 funext j;unfold Au;by_cases e:j=k
 . subst e;rw [upd_same,if_pos ⟨by omega,h,h2⟩]
 . rw [uo_ e];by_cases c:j<k
   . simp [c,show j<k+1 by omega]
   . simp [c,show¬j<k+1 by omega]
theorem FV (h:¬((s.dv k).dom=d∧ca k=0)):Au s d ca k=Au s d ca (k+1):=by
 funext j;unfold Au;by_cases e:j=k
 . subst e;rw [if_neg (fun c=>by omega),if_neg (fun c=>h c.2)]
 . by_cases c:j<k
   . simp [c,show j<k+1 by omega]
   . simp [c,show¬j<k+1 by omega]
theorem UV (h:(s.dv k).dom=d) (h2:ca k=2):upd (Cw s d ca k) k 0=Cw s d ca (k+1):=by
 funext j;unfold Cw;by_cases e:j=k
 . subst e;rw [upd_same,if_pos ⟨by omega,h,h2⟩]
 . rw [uo_ e];by_cases c:j<k
   . simp [c,show j<k+1 by omega]
   . simp [c,show¬j<k+1 by omega]
theorem IR (h:¬((s.dv k).dom=d∧ca k=2)):Cw s d ca k=Cw s d ca (k+1):=by
 funext j;unfold Cw;by_cases e:j=k
 . subst e;rw [if_neg (fun c=>by omega),if_neg (fun c=>h c.2)]
 . by_cases c:j<k
   . simp [c,show j<k+1 by omega]
   . simp [c,show¬j<k+1 by omega]
theorem Fz:Au s d ca k k=ca k:=if_neg fun c=>by omega
theorem Ki:Cw s d ca k k=ca k:=if_neg fun c=>by omega
theorem Ai.hard (L:Ai w) (l1:lab 1= .obj 0) (k:AD (BH lab) w w'):Ai w':=L.keep k fun c=>by
 have c:(lab 1).isHard=true:=c;rw [l1] at c;cases c
theorem JP (h:AP w lab s hb.H b y) (hh:AH w lab s hb hx) (hs:s.Ok) (L:Ai w) (l1:lab 1= .obj 0) (d:Nat) (hca:∀j,j<s.nv->hx.ca j<=2):
 Calls prog 206 #[.pointer b.F, .int .i64 d] w (IE w lab s hb (Ak s d hx.ca s.nv) { hx with ca:=Au s d hx.ca s.nv }):=by
 have n1:=hs.v2;have c4:=cv_ (.slice (some (b.v.vb 0)) s.nv b.v.vc) (h.f.cell 4);have HF:=Ae h;have HH:=Ae hh;have KL:=Ae L;have KL1:=Ae l1;have HCA:=Ae hca;clear h hh hs L l1 hca;go_in;go_wp2_with fail;clear c4;go_loopw [5,15] (fun a j wr=>∃k:Nat,k<=s.nv∧j= .int .i64 k∧a= .bool (Ak s d hx.ca k)∧AD (BH lab) w wr∧AH wr lab s hb { hx with ca:=Au s d hx.ca k }) (fun a j _=>s.nv - (intOf j).toNat);case atStart=>exact⟨0,by omega,rfl,rfl,kx_,by
  have e:Au s d hx.ca 0=hx.ca:=by funext j;exact if_neg fun c=>by omega
  rw [e];exact HH.out⟩
 case round=>
  obtain⟨k,hk,rfl,rfl,kw,hw⟩:=hrel;have KW:=Ae kw;have HW:=Ae hw;have LW:=Ae (KL.out.hard KL1.out kw);have FW:=Ae (HF.out.hard kw);clear kw hw;by_cases hlt:k<s.nv
  . have cF:=FW.out.c0;have lF:b.F<wr.heap.size:=FW.out.f.lt;have R:=FW.out.soc;have c0:wr.cell? (b.v.vb (k*6))=some (.int .i64 ((s.dv k).clock:Int)):=R.dv.cell k 0 hlt (by omega);have c1:wr.cell? (b.v.vb (k*6+1))=some (.int .i64 ((s.dv k).dom:Int)):=R.dv.cell k 1 hlt (by omega);have c2:wr.cell? (b.v.vb (k*6+2))=some (.int .i64 ((s.dv k).line:Int)):=R.dv.cell k 2 hlt (by omega);have c3:wr.cell? (b.v.vb (k*6+3))=some (.int .u32 (s.dv k).clamp):=R.dv.cell k 3 hlt (by omega);obtain⟨ao,rc,er⟩:=AO (b.v.gb k) (s.dv k).nreg (b.v.gc k);obtain⟨ao2,rc2,er2⟩:=AO (b.v.qb k) (s.dv k).nneed (b.v.qc k);have c4:wr.cell? (b.v.vb (k*6+4))=some (.slice ao (s.dv k).nreg rc):=(R.dv.cell k 4 hlt (by omega)).trans (congrArg some er);have c5:wr.cell? (b.v.vb (k*6+5))=some (.slice ao2 (s.dv k).nneed rc2):=(R.dv.cell k 5 hlt (by omega)).trans (congrArg some er2);clear R er er2;obtain⟨q,hq⟩:∃q,Ak s d hx.ca k=q:=⟨_,rfl⟩;have HQ:=Ae hq;rw [hq];clear hq;by_cases hd:(s.dv k).dom=d
    . rw [hd] at c1;cases q
      . rcases(show hx.ca k=0∨hx.ca k=1∨hx.ca k=2 by have:=HCA.out k hlt;omega) with hck | hck | hck
        . have e1:(Au s d hx.ca k) k=0:=by rw [Fz];exact hck
          have AS:Ak s d hx.ca (k+1)=false:=by simp [Ak,HQ.out,hd,hck]
          go_wp2_with fail;refine mn_ (Cd (HW.out.new ((nr wr).alloc _)) (LW.out.keep ((nr wr).alloc _) id) k hlt (by show Au s d hx.ca k k<=3;omega) (l:=114) (by show Er (Au s d hx.ca k k)=114;rw [e1];rfl)) ?_;go_wp2_with fail;refine(QD (HW.out.new ((nr wr).alloc _)) k hlt e1).mono ?_;rintro e w2 ⟨rfl,k2,h2⟩;have K2:=Ae k2;have H2:=Ae h2;clear k2 h2;go_wp2;go_roundw;case rel=>
           have h3:=H2.out;simp only [I8,NK hd hck] at h3;exact⟨k+1,by omega,by go_num,by rw [AS],KW.out.trans (((nr wr).alloc _).mono fun j e=>e.elim) (fun j _ e=>e) |>.trans K2.out (fun j _ e=>e),h3⟩
          case measure=>simp [intOf];omega
        . have e1:(Au s d hx.ca k) k=1:=by rw [Fz];exact hck
          have AS:Ak s d hx.ca (k+1)=false:=by simp [Ak,HQ.out,hd,hck]
          go_wp2_with fail;refine mn_ (Cd (HW.out.new ((nr wr).alloc _)) (LW.out.keep ((nr wr).alloc _) id) k hlt (by show Au s d hx.ca k k<=3;omega) (l:=97) (by show Er (Au s d hx.ca k k)=97;rw [e1];rfl)) ?_;go_wp2;go_roundw;case rel=>
           have h3:=HW.out.new ((nr wr).alloc (.cells #[.int .i64 ((s.dv k).clock:Int), .int .i64 d, .int .i64 ((s.dv k).line:Int), .int .u32 (s.dv k).clamp, .slice ao (s.dv k).nreg rc, .slice ao2 (s.dv k).nneed rc2] 40));rw [FV (k:=k) (fun c=>by omega)] at h3;exact⟨k+1,by omega,by go_num,by rw [AS],KW.out.trans (((nr wr).alloc _).mono fun j e=>e.elim) (fun j _ e=>e),h3⟩
          case measure=>simp [intOf];omega
        . have e1:(Au s d hx.ca k) k=2:=by rw [Fz];exact hck
          have AS:Ak s d hx.ca (k+1)=false:=by simp [Ak,HQ.out,hd,hck]
          go_wp2_with fail;refine mn_ (Cd (HW.out.new ((nr wr).alloc _)) (LW.out.keep ((nr wr).alloc _) id) k hlt (by show Au s d hx.ca k k<=3;omega) (l:=115) (by show Er (Au s d hx.ca k k)=115;rw [e1];rfl)) ?_;go_wp2;go_roundw;case rel=>
           have h3:=HW.out.new ((nr wr).alloc (.cells #[.int .i64 ((s.dv k).clock:Int), .int .i64 d, .int .i64 ((s.dv k).line:Int), .int .u32 (s.dv k).clamp, .slice ao (s.dv k).nreg rc, .slice ao2 (s.dv k).nneed rc2] 40));rw [FV (k:=k) (fun c=>by omega)] at h3;exact⟨k+1,by omega,by go_num,by rw [AS],KW.out.trans (((nr wr).alloc _).mono fun j e=>e.elim) (fun j _ e=>e),h3⟩
          case measure=>simp [intOf];omega
      . rcases(show hx.ca k=0∨hx.ca k=1∨hx.ca k=2 by have:=HCA.out k hlt;omega) with hck | hck | hck
        . have e1:(Au s d hx.ca k) k=0:=by rw [Fz];exact hck
          have AS:Ak s d hx.ca (k+1)=false:=by simp [Ak,HQ.out,hd,hck]
          go_wp2_with fail;refine mn_ (Cd (HW.out.new ((nr wr).alloc _)) (LW.out.keep ((nr wr).alloc _) id) k hlt (by show Au s d hx.ca k k<=3;omega) (l:=114) (by show Er (Au s d hx.ca k k)=114;rw [e1];rfl)) ?_;go_wp2_with fail;refine(QD (HW.out.new ((nr wr).alloc _)) k hlt e1).mono ?_;rintro e w2 ⟨rfl,k2,h2⟩;have K2:=Ae k2;have H2:=Ae h2;clear k2 h2;go_wp2;go_roundw;case rel=>
           have h3:=H2.out;simp only [I8,NK hd hck] at h3;exact⟨k+1,by omega,by go_num,by rw [AS],KW.out.trans (((nr wr).alloc _).mono fun j e=>e.elim) (fun j _ e=>e) |>.trans K2.out (fun j _ e=>e),h3⟩
          case measure=>simp [intOf];omega
        . have e1:(Au s d hx.ca k) k=1:=by rw [Fz];exact hck
          have AS:Ak s d hx.ca (k+1)=false:=by simp [Ak,HQ.out,hd,hck]
          go_wp2_with fail;refine mn_ (Cd (HW.out.new ((nr wr).alloc _)) (LW.out.keep ((nr wr).alloc _) id) k hlt (by show Au s d hx.ca k k<=3;omega) (l:=97) (by show Er (Au s d hx.ca k k)=97;rw [e1];rfl)) ?_;go_wp2;go_roundw;case rel=>
           have h3:=HW.out.new ((nr wr).alloc (.cells #[.int .i64 ((s.dv k).clock:Int), .int .i64 d, .int .i64 ((s.dv k).line:Int), .int .u32 (s.dv k).clamp, .slice ao (s.dv k).nreg rc, .slice ao2 (s.dv k).nneed rc2] 40));rw [FV (k:=k) (fun c=>by omega)] at h3;exact⟨k+1,by omega,by go_num,by rw [AS],KW.out.trans (((nr wr).alloc _).mono fun j e=>e.elim) (fun j _ e=>e),h3⟩
          case measure=>simp [intOf];omega
        . have e1:(Au s d hx.ca k) k=2:=by rw [Fz];exact hck
          have AS:Ak s d hx.ca (k+1)=true:=by simp [Ak,HQ.out,hd,hck]
          go_wp2_with fail;refine mn_ (Cd (HW.out.new ((nr wr).alloc _)) (LW.out.keep ((nr wr).alloc _) id) k hlt (by show Au s d hx.ca k k<=3;omega) (l:=115) (by show Er (Au s d hx.ca k k)=115;rw [e1];rfl)) ?_;go_wp2;go_roundw;case rel=>
           have h3:=HW.out.new ((nr wr).alloc (.cells #[.int .i64 ((s.dv k).clock:Int), .int .i64 d, .int .i64 ((s.dv k).line:Int), .int .u32 (s.dv k).clamp, .slice ao (s.dv k).nreg rc, .slice ao2 (s.dv k).nneed rc2] 40));rw [FV (k:=k) (fun c=>by omega)] at h3;exact⟨k+1,by omega,by go_num,by rw [AS],KW.out.trans (((nr wr).alloc _).mono fun j e=>e.elim) (fun j _ e=>e),h3⟩
          case measure=>simp [intOf];omega
    . have hdi:¬((s.dv k).dom:Int)=(d:Int):=by omega
      have AS:Ak s d hx.ca (k+1)=q:=by simp [Ak,HQ.out,hd]
      go_wp2;go_roundw;case rel=>
       have h3:=HW.out.new ((nr wr).alloc (.cells #[.int .i64 ((s.dv k).clock:Int), .int .i64 ((s.dv k).dom:Int), .int .i64 ((s.dv k).line:Int), .int .u32 (s.dv k).clamp, .slice ao (s.dv k).nreg rc, .slice ao2 (s.dv k).nneed rc2] 40));rw [FV (k:=k) (fun c=>hd c.1)] at h3;exact⟨k+1,by omega,by go_num,by rw [AS],KW.out.trans (((nr wr).alloc _).mono fun j e=>e.elim) (fun j _ e=>e),h3⟩
      case measure=>simp [intOf];omega
  . have ek:k=s.nv:=by omega
    subst ek;go_wp2;go_ret;exact⟨rfl,KW.out,HW.out⟩
theorem M8 (h:AP w lab s hb.H b y) (hh:AH w lab s hb hx) (d:Nat) (hd:d<s.nd) (hdn:(hx.ds d).isDown=true) (ab:(hx.ds d).above= -1∨∃a:Nat,(hx.ds d).above=(a:Int)∧a<s.nd∧(hx.ds a).phase=49):
 Calls prog 142 #[.pointer b.F, .int .i64 d] w (IE w lab s hb false { hx with ds:=upd hx.ds d (hx.ds d).up }):=by
 have c0:=h.c0;have HH:=Ae hh;have HD:=Ae hdn;have AB:=Ae ab;have hp:(hx.ds d).phase=48∨(hx.ds d).phase=116:=by simpa [Dm.isDown] using hdn
 clear h hh hdn ab;go_in;go_wp2_with fail;refine mn_ (Dd HH.out d hd rfl) ?_;rcases hp with hp | hp
 . rw [hp];clear hp;go_wp2_with fail;refine(Tt HH.out d hd HD.out AB.out).mono ?_;rintro e w2 ⟨rfl,k2,h2⟩;have K2:=Ae k2;have H2:=Ae h2;clear k2 h2;go_wp2;go_ret;exact⟨rfl,K2.out,H2.out⟩
 . rw [hp];clear hp;go_wp2_with fail;refine(Tt HH.out d hd HD.out AB.out).mono ?_;rintro e w2 ⟨rfl,k2,h2⟩;have K2:=Ae k2;have H2:=Ae h2;clear k2 h2;go_wp2;go_ret;exact⟨rfl,K2.out,H2.out⟩
theorem OZ (h:AP w lab s hb.H b y) (hh:AH w lab s hb hx) (d:Nat) (hd:d<s.nd) {p:Int} (hp:(hx.ds d).phase=p) (h1:p≠48) (h2:p≠116) (h3:p≠49):
 Calls prog 142 #[.pointer b.F, .int .i64 d] w (IE w lab s hb false hx):=by
 have c0:=h.c0;have HH:=Ae hh;have HP:=Ae hp;clear h hh hp;go_in;go_wp2_with fail;refine mn_ (Dd HH.out d hd HP.out) ?_;go_wp2;go_ret;exact⟨rfl,kx_,HH.out⟩
theorem O6 (h:AP w lab s hb.H b y) (hh:AH w lab s hb hx) (hs:s.Ok) (L:Ai w) (l1:lab 1= .obj 0) (d:Nat) (hd0:d<s.nd) (hp:(hx.ds d).phase=49) (hca:∀j,j<s.nv->hx.ca j<=2):
 Calls prog 142 #[.pointer b.F, .int .i64 d] w (IE w lab s hb true { hx with ca:=Cw s d hx.ca s.nv }):=by
 have n1:=hs.v2;have c4:=cv_ (.slice (some (b.v.vb 0)) s.nv b.v.vc) (h.f.cell 4);have c0:=h.c0;have HF:=Ae h;have HH:=Ae hh;have HP:=Ae hp;have KL:=Ae L;have KL1:=Ae l1;have HCA:=Ae hca;clear h hh hs L l1 hca hp;go_in;go_wp2_with fail;refine(Dd HH.out d hd0 HP.out).mono ?_;rintro e w' ⟨rfl,rfl⟩;go_wp2_with fail;obtain⟨w,rfl⟩:∃w,w=w':=⟨_,rfl⟩;clear c4 c0;go_loopw [31] (fun j wr=>∃k:Nat,k<=s.nv∧j= .int .i64 k∧AD (BH lab) w wr∧AH wr lab s hb { hx with ca:=Cw s d hx.ca k }) (fun j _=>s.nv - (intOf j).toNat);case atStart=>exact⟨0,by omega,rfl,kx_,by
  have e:Cw s d hx.ca 0=hx.ca:=by funext j;exact if_neg fun c=>by omega
  rw [e];exact HH.out⟩
 case round=>
  obtain⟨k,hk,rfl,kw,hw⟩:=hrel;have KW:=Ae kw;have HW:=Ae hw;have LW:=Ae (KL.out.hard KL1.out kw);have FW:=Ae (HF.out.hard kw);clear kw hw;by_cases hlt:k<s.nv
  . have cF:=FW.out.c0;have lF:b.F<wr.heap.size:=FW.out.f.lt;have R:=FW.out.soc;have c0:wr.cell? (b.v.vb (k*6))=some (.int .i64 ((s.dv k).clock:Int)):=R.dv.cell k 0 hlt (by omega);have c1:wr.cell? (b.v.vb (k*6+1))=some (.int .i64 ((s.dv k).dom:Int)):=R.dv.cell k 1 hlt (by omega);have c2:wr.cell? (b.v.vb (k*6+2))=some (.int .i64 ((s.dv k).line:Int)):=R.dv.cell k 2 hlt (by omega);have c3:wr.cell? (b.v.vb (k*6+3))=some (.int .u32 (s.dv k).clamp):=R.dv.cell k 3 hlt (by omega);obtain⟨ao,rc,er⟩:=AO (b.v.gb k) (s.dv k).nreg (b.v.gc k);obtain⟨ao2,rc2,er2⟩:=AO (b.v.qb k) (s.dv k).nneed (b.v.qc k);have c4:wr.cell? (b.v.vb (k*6+4))=some (.slice ao (s.dv k).nreg rc):=(R.dv.cell k 4 hlt (by omega)).trans (congrArg some er);have c5:wr.cell? (b.v.vb (k*6+5))=some (.slice ao2 (s.dv k).nneed rc2):=(R.dv.cell k 5 hlt (by omega)).trans (congrArg some er2);clear R er er2;by_cases hd:(s.dv k).dom=d
    . rw [hd] at c1;rcases(show hx.ca k=0∨hx.ca k=1∨hx.ca k=2 by have:=HCA.out k hlt;omega) with hck | hck | hck
      . have e1:(Cw s d hx.ca k) k=0:=by rw [Ki];exact hck
        go_wp2_with fail;refine mn_ (Cd (HW.out.new ((nr wr).alloc _)) (LW.out.keep ((nr wr).alloc _) id) k hlt (by show Cw s d hx.ca k k<=3;omega) (l:=114) (by show Er (Cw s d hx.ca k k)=114;rw [e1];rfl)) ?_;go_wp2;go_roundw;case rel=>
         have h3:=HW.out.new ((nr wr).alloc (.cells #[.int .i64 ((s.dv k).clock:Int), .int .i64 d, .int .i64 ((s.dv k).line:Int), .int .u32 (s.dv k).clamp, .slice ao (s.dv k).nreg rc, .slice ao2 (s.dv k).nneed rc2] 40));rw [IR (k:=k) (fun c=>by omega)] at h3;exact⟨k+1,by omega,by go_num,KW.out.trans (((nr wr).alloc _).mono fun j e=>e.elim) (fun j _ e=>e),h3⟩
        case measure=>simp [intOf];omega
      . have e1:(Cw s d hx.ca k) k=1:=by rw [Ki];exact hck
        go_wp2_with fail;refine mn_ (Cd (HW.out.new ((nr wr).alloc _)) (LW.out.keep ((nr wr).alloc _) id) k hlt (by show Cw s d hx.ca k k<=3;omega) (l:=97) (by show Er (Cw s d hx.ca k k)=97;rw [e1];rfl)) ?_;go_wp2;go_roundw;case rel=>
         have h3:=HW.out.new ((nr wr).alloc (.cells #[.int .i64 ((s.dv k).clock:Int), .int .i64 d, .int .i64 ((s.dv k).line:Int), .int .u32 (s.dv k).clamp, .slice ao (s.dv k).nreg rc, .slice ao2 (s.dv k).nneed rc2] 40));rw [IR (k:=k) (fun c=>by omega)] at h3;exact⟨k+1,by omega,by go_num,KW.out.trans (((nr wr).alloc _).mono fun j e=>e.elim) (fun j _ e=>e),h3⟩
        case measure=>simp [intOf];omega
      . have e1:(Cw s d hx.ca k) k=2:=by rw [Ki];exact hck
        go_wp2_with fail;refine mn_ (Cd (HW.out.new ((nr wr).alloc _)) (LW.out.keep ((nr wr).alloc _) id) k hlt (by show Cw s d hx.ca k k<=3;omega) (l:=115) (by show Er (Cw s d hx.ca k k)=115;rw [e1];rfl)) ?_;go_wp2_with fail;refine(Se (HW.out.new ((nr wr).alloc _)) k hlt (.inl e1)).mono ?_;rintro e w2 ⟨rfl,k2,h2⟩;have K2:=Ae k2;have H2:=Ae h2;clear k2 h2;go_wp2;go_roundw;case rel=>
         have h3:=H2.out;simp only [I8,UV hd hck] at h3;exact⟨k+1,by omega,by go_num,KW.out.trans (((nr wr).alloc _).mono fun j e=>e.elim) (fun j _ e=>e) |>.trans K2.out (fun j _ e=>e),h3⟩
        case measure=>simp [intOf];omega
    . have hdi:¬((s.dv k).dom:Int)=(d:Int):=by omega
      go_wp2;go_roundw;case rel=>
       have h3:=HW.out.new ((nr wr).alloc (.cells #[.int .i64 ((s.dv k).clock:Int), .int .i64 ((s.dv k).dom:Int), .int .i64 ((s.dv k).line:Int), .int .u32 (s.dv k).clamp, .slice ao (s.dv k).nreg rc, .slice ao2 (s.dv k).nneed rc2] 40));rw [IR (k:=k) (fun c=>hd c.1)] at h3;exact⟨k+1,by omega,by go_num,KW.out.trans (((nr wr).alloc _).mono fun j e=>e.elim) (fun j _ e=>e),h3⟩
      case measure=>simp [intOf];omega
  . have ek:k=s.nv:=by omega
    subst ek;go_wp2;go_ret;exact⟨rfl,KW.out,HW.out⟩
end
theorem WE {sc:Nat} (hm:(s.ck i).m=1) (hsc:(s.ck i).src 0=sc) (hi:i<n) (hn:2<=n):2<=(AU s n i).length∧(AU s n i)[1]?=some sc:=by
 match n,hn with
 | n+2,_=>
  have e:AU s (n+2) i=i::sc::(if(s.ck sc).m=0 then [] else AU s n ((s.ck sc).src 0)):=by
   rw [AU,hm,hsc,if_neg (by omega),AU]
  rw [e];exact⟨by simp,rfl⟩
section
variable {w:World} {lab:Nat->Lb} {s:AE} {hb:Hb} {hx:Hw} {b:Fb} {y:Fm}
theorem Hd (h:AP w lab s hb.H b y) (hh:AH w lab s hb hx) (d:Nat) (hd:d<s.nd) (hdn:(hx.ds d).isDown=true):
 Calls prog 143 #[.pointer b.F, .int .i64 d] w (IE w lab s hb true hx):=by
 have c0:=h.c0;have HH:=Ae hh;have hp:(hx.ds d).phase=48∨(hx.ds d).phase=116:=by simpa [Dm.isDown] using hdn
 clear h hh hdn;go_in;go_wp2_with fail;refine mn_ (Dd HH.out d hd rfl) ?_;rcases hp with hp | hp
 all_goals rw [hp]
 all_goals clear hp
 all_goals go_wp2_with fail
 all_goals go_ret
 all_goals exact⟨rfl,kx_,HH.out⟩
theorem Hc (h:AP w lab s hb.H b y) (hh:AH w lab s hb hx) (hs:s.Ok) (L:Ai w) (l1:lab 1= .obj 0) (d:Nat) (hd0:d<s.nd) (hp:(hx.ds d).phase=49) (hca:∀j,j<s.nv->hx.ca j<=2) (hst:Ak s d hx.ca s.nv=false):
 Calls prog 143 #[.pointer b.F, .int .i64 d] w (IE w lab s hb false { hx with ca:=Au s d hx.ca s.nv }):=by
 have c0:=h.c0;have HF:=Ae h;have HH:=Ae hh;have HP:=Ae hp;have HS:=Ae hs;have KL:=Ae L;have KL1:=Ae l1;have HCA:=Ae hca;have HST:=Ae hst;clear h hh hs L l1 hca hp hst;go_in;go_wp2_with fail;refine mn_ (Dd HH.out d hd0 HP.out) ?_;go_wp2_with fail;refine(JP HF.out HH.out HS.out KL.out KL1.out d HCA.out).mono ?_;rintro e w2 ⟨rfl,k2,h2⟩;rw [HST.out];have K2:=Ae k2;have H2:=Ae h2;clear k2 h2;go_wp2;go_ret;exact⟨rfl,K2.out,H2.out⟩
theorem Jo (h:AP w lab s hb.H b y) (hh:AH w lab s hb hx) (hs:s.Ok) (L:Ai w) (l1:lab 1= .obj 0) (d:Nat) (hd0:d<s.nd) (hp:(hx.ds d).phase=49) (hca:∀j,j<s.nv->hx.ca j<=2) (hst:Ak s d hx.ca s.nv=true) (hkd:y.kind=100) (lo:∀j,j<s.nd->(hx.ds j).above=(d:Int)->(hx.ds j).isDown=true):
 Calls prog 143 #[.pointer b.F, .int .i64 d] w (IE w lab s hb false { hx with ca:=Au s d hx.ca s.nv,ds:=upd hx.ds d ((hx.ds d).down false) }):=by
 have c0:=h.c0;have HF:=Ae h;have HH:=Ae hh;have HP:=Ae hp;have HS:=Ae hs;have KL:=Ae L;have KL1:=Ae l1;have HCA:=Ae hca;have HST:=Ae hst;have HKD:=Ae hkd;have LO:=Ae lo;clear h hh hs L l1 hca hp hst hkd lo;go_in;go_wp2_with fail;refine(Dd HH.out d hd0 HP.out).mono ?_;rintro e w' ⟨rfl,rfl⟩;obtain⟨w,rfl⟩:∃w,w=w':=⟨_,rfl⟩;go_wp2_with fail;refine(JP HF.out HH.out HS.out KL.out KL1.out d HCA.out).mono ?_;rintro e W ⟨rfl,k1,h1⟩;rw [HST.out];have F1:=Ae (HF.out.hard k1);have H1:=Ae h1;have K1:=Ae k1;clear k1 h1 c0;go_wp2_with fail;have hHeld0:(W.cell? (b.F 0)=some (.pointer hb.H)∧W.cell? (b.F 17)=some (.int .u8 100)):=⟨F1.out.c0,by have e:W.cell? (b.F 17)=some (.int .u8 y.kind):=F1.out.f.cell 17;rw [HKD.out] at e;exact e⟩;have SK:AG (∀w',AD (BH lab) W w'->(w'.cell? (b.F 0)=some (.pointer hb.H)∧w'.cell? (b.F 17)=some (.int .u8 100))):=⟨fun w' kk=>⟨(F1.out.hard kk).c0,by have e:w'.cell? (b.F 17)=some (.int .u8 y.kind):=(F1.out.hard kk).f.cell 17;rw [HKD.out] at e;exact e⟩⟩;refine rh_ (fun w'=>(w'.cell? (b.F 0)=some (.pointer hb.H)∧w'.cell? (b.F 17)=some (.int .u8 100))) hHeld0 (fun hE=>?_);clear hHeld0;refine tk 0 hE ?_;refine tk 1 hE ?_;refine tk 2 hE ?_;refine tk 3 hE ?_;refine tk 4 hE ?_;refine tk 5 hE ?_;refine tk 6 hE ?_;refine tk 7 hE ?_;refine tk 8 hE ?_;refine tk 9 hE ?_;refine tk 10 (v:= .bool false) hE ?_;refine oA_ 11 27 (fun u w'=>AD (BH lab) W w'∧AH w' lab s hb { hx with ca:=Au s d hx.ca s.nv,ds:=upd hx.ds d ((hx.ds d).down false) }) ?d100_g11 ?d100_n11;case d100_g11=>
  intro a' K Q ha hK;have e0:=te ha 19;have e1:=te ha 20;have e2:=te ha 26;clear ha;go_simp;refine(NM (H1.out.new (nr W).drew) d hd0 false HP.out (fun c=>by cases c) LO.out).mono ?_;rintro e w2 ⟨rfl,k2,h2⟩;exact hK _ _ ⟨(((nr W).drew).mono fun j e=>e.elim).trans k2 fun j _ e=>e,h2⟩
 case d100_n11=>
 rintro u9 W2 ⟨k2,h2⟩;refine⟨SK.out _ k2,?_⟩;simp only [pu,s0,s1];refine⟨by kernel_rfl,?_⟩;have K2:=Ae k2;have H2:=Ae h2;clear k2 h2 hE;go_wp2;go_ret;exact⟨rfl,K1.out.trans K2.out fun j _ e=>e,H2.out⟩
theorem Jn (h:AP w lab s hb.H b y) (hh:AH w lab s hb hx) (hs:s.Ok) (L:Ai w) (l1:lab 1= .obj 0) (d:Nat) (hd0:d<s.nd) (hp:(hx.ds d).phase=49) (hca:∀j,j<s.nv->hx.ca j<=2) (hst:Ak s d hx.ca s.nv=true) (hkd:y.kind=107) (hbb:(hx.ds d).ret=true) (lo:∀j,j<s.nd->(hx.ds j).above=(d:Int)->(hx.ds j).isDown=true):
 Calls prog 143 #[.pointer b.F, .int .i64 d] w (IE w lab s hb false { hx with ca:=Au s d hx.ca s.nv,ds:=upd hx.ds d ((hx.ds d).down true) }):=by
 have c0:=h.c0;have HF:=Ae h;have HH:=Ae hh;have HP:=Ae hp;have HS:=Ae hs;have KL:=Ae L;have KL1:=Ae l1;have HCA:=Ae hca;have HST:=Ae hst;have HKD:=Ae hkd;have HBB:=Ae hbb;have LO:=Ae lo;clear h hh hs L l1 hca hp hst hkd hbb lo;go_in;go_wp2_with fail;refine(Dd HH.out d hd0 HP.out).mono ?_;rintro e w' ⟨rfl,rfl⟩;obtain⟨w,rfl⟩:∃w,w=w':=⟨_,rfl⟩;go_wp2_with fail;refine(JP HF.out HH.out HS.out KL.out KL1.out d HCA.out).mono ?_;rintro e W ⟨rfl,k1,h1⟩;rw [HST.out];have F1:=Ae (HF.out.hard k1);have H1:=Ae h1;have K1:=Ae k1;clear k1 h1 c0;go_wp2_with fail;have hHeld0:(W.cell? (b.F 0)=some (.pointer hb.H)∧W.cell? (b.F 17)=some (.int .u8 107)):=⟨F1.out.c0,by have e:W.cell? (b.F 17)=some (.int .u8 y.kind):=F1.out.f.cell 17;rw [HKD.out] at e;exact e⟩;have SK:AG (∀w',AD (BH lab) W w'->(w'.cell? (b.F 0)=some (.pointer hb.H)∧w'.cell? (b.F 17)=some (.int .u8 107))):=⟨fun w' kk=>⟨(F1.out.hard kk).c0,by have e:w'.cell? (b.F 17)=some (.int .u8 y.kind):=(F1.out.hard kk).f.cell 17;rw [HKD.out] at e;exact e⟩⟩;refine rh_ (fun w'=>(w'.cell? (b.F 0)=some (.pointer hb.H)∧w'.cell? (b.F 17)=some (.int .u8 107))) hHeld0 (fun hE=>?_);clear hHeld0;refine tk 0 hE ?_;refine tk 1 hE ?_;refine tk 2 hE ?_;refine tk 3 hE ?_;refine tk 4 hE ?_;refine tk 5 hE ?_;refine tk 6 hE ?_;refine tk 7 hE ?_;refine tk 8 hE ?_;refine tk 9 hE ?_;refine tk 10 (v:= .bool true) hE ?_;refine oA_ 11 27 (fun u w'=>AD (BH lab) W w'∧AH w' lab s hb { hx with ca:=Au s d hx.ca s.nv,ds:=upd hx.ds d ((hx.ds d).down true) }) ?d107_g11 ?d107_n11;case d107_g11=>
  intro a' K Q ha hK;have e0:=te ha 19;have e1:=te ha 20;have e2:=te ha 26;clear ha;go_simp;refine(NM (H1.out.new (nr W).drew) d hd0 true HP.out (fun _=>HBB.out) LO.out).mono ?_;rintro e w2 ⟨rfl,k2,h2⟩;exact hK _ _ ⟨(((nr W).drew).mono fun j e=>e.elim).trans k2 fun j _ e=>e,h2⟩
 case d107_n11=>
 rintro u9 W2 ⟨k2,h2⟩;refine⟨SK.out _ k2,?_⟩;simp only [pu,s0,s1];refine⟨by kernel_rfl,?_⟩;have K2:=Ae k2;have H2:=Ae h2;clear k2 h2 hE;go_wp2;go_ret;exact⟨rfl,K1.out.trans K2.out fun j _ e=>e,H2.out⟩
theorem JQ (h:AP w lab s hb.H b y) (hh:AH w lab s hb hx) (i:Nat) (hi:i<s.nc) (hk:(hx.ns i).kind=112∨(hx.ns i).kind=103) (hm:∀j,j<s.nc->(hx.ns j).kind≠111->0<(hx.ns j).m)
 (hr:Ar (upd hx.ns i ((hx.ns i).gate true)) s.nc i=true):
 Calls prog 144 #[.pointer b.F, .int .i64 i] w (IE w lab s hb true { hx with ns:=upd hx.ns i ((hx.ns i).gate true) }):=by
 have c0:=h.c0;have hm':∀j,j<s.nc->(upd hx.ns i ((hx.ns i).gate true) j).kind≠111->0<(upd hx.ns i ((hx.ns i).gate true) j).m:=fun j hj hne=>by
  by_cases e:j=i
  . subst e;rw [upd_same] at hne ⊢;rw [(Nd.gate_fb _ _).2.1];exact hm j hj (by rw [<-(Nd.gate_fb (hx.ns j) true).2.2];exact hne)
  . rw [uo_ e] at hne ⊢;exact hm j hj hne
 have HM:=Ae hm';have HF:=Ae h;have HH:=Ae hh;have HK:=Ae hk;have HR:=Ae hr;clear h hh hk hm hm' hr;go_in;go_wp2_with fail;refine(IW HH.out i hi HK.out true).mono ?_;rintro e W1 ⟨rfl,k1,h1⟩;have H1:=Ae h1;have K1:=Ae k1;have c0':=(HF.out.hard k1).c0;clear k1 h1 c0;go_wp2_with fail;refine(GY H1.out i hi HM.out HR.out).mono ?_;rintro e W2 ⟨rfl,k2⟩;have K2:=Ae k2;clear k2;go_wp2;go_ret;exact⟨rfl,K1.out.trans (K2.out.mono fun j e=>e.elim) fun j _ e=>e,H1.out.new K2.out⟩
theorem Iv (h:AP w lab s hb.H b y) (hh:AH w lab s hb hx) (hs:s.Ok) (i:Nat) (hi:i<s.nc) (hk:(hx.ns i).kind=112∨(hx.ns i).kind=103) (hm1:(s.ck i).m=1) (hm:∀j,j<s.nc->(hx.ns j).kind≠111->0<(hx.ns j).m)
 (hr:Ar (upd hx.ns i ((hx.ns i).gate true)) s.nc i=false) {r:Bool} (hr2:Ar (upd hx.ns i ((hx.ns i).gate true)) s.nc ((s.ck i).src 0)=r):
 Calls prog 144 #[.pointer b.F, .int .i64 i] w (IE w lab s hb (!r) { hx with ns:=upd hx.ns i ((hx.ns i).gate true) }):=by
 have c0:=h.c0;have n1:=hs.c2;obtain⟨sc,hsc⟩:=ex ((s.ck i).src 0);have hsi:sc<i:=by rw [<-hsc];exact(hs.ck i hi).less 0 (by omega)
 have CHL:AG (2<=(AU s s.nc i).length∧(AU s s.nc i)[1]?=some sc):=⟨WE hm1 hsc hi (by omega)⟩;rw [hsc] at hr2;have hm':∀j,j<s.nc->(upd hx.ns i ((hx.ns i).gate true) j).kind≠111->0<(upd hx.ns i ((hx.ns i).gate true) j).m:=fun j hj hne=>by
  by_cases e:j=i
  . subst e;rw [upd_same] at hne ⊢;rw [(Nd.gate_fb _ _).2.1];exact hm j hj (by rw [<-(Nd.gate_fb (hx.ns j) true).2.2];exact hne)
  . rw [uo_ e] at hne ⊢;exact hm j hj hne
 have HM:=Ae hm';have HF:=Ae h;have HH:=Ae hh;have HS:=Ae hs;have HK:=Ae hk;have HR:=Ae hr;have HR2:=Ae hr2;clear h hh hs hk hm hm' hr hr2 hsc hm1;go_in;go_wp2_with fail;refine(IW HH.out i hi HK.out true).mono ?_;rintro e W1 ⟨rfl,k1,h1⟩;have F1:=Ae (HF.out.hard k1);have H1:=Ae h1;have K1:=Ae k1;have c0':=(HF.out.hard k1).c0;clear k1 h1 c0;go_wp2_with fail;refine(GY H1.out i hi HM.out HR.out).mono ?_;rintro e W2 ⟨rfl,k2⟩;have F2:=Ae (F1.out.new k2);have H2:=Ae (H1.out.new k2);have K2:=Ae (K1.out.trans (k2.mono fun j e=>e.elim) fun j _ e=>e);have s0:=(F1.out.new k2).f.z 1;have s1:=(F1.out.new k2).f.z 2;have s2:=(F1.out.new k2).f.z 3;have s3:=(F1.out.new k2).f.z 4;clear k2 c0';go_wp2_with fail;refine(Gh HS.out F2.out.soc i hi).mono ?_;rintro e W3 ⟨a,cap,rfl,k3,o3⟩;obtain⟨m,hmm⟩:=ex ((AU s s.nc i).length);have hIL:=ints_chain o3;have hC1:∃g,a=some ⟨g,0,none⟩∧W3.cell? ⟨g,1,none⟩=some (.int .i64 sc)∧g<W3.heap.size:=by
  rcases o3.2 with⟨hv,h0⟩ | ⟨g,c,cur,hv,hb',hg,_⟩
  . have:=CHL.out.1;omega
  . injection hv with e1 e2 e3;subst e1;have:=World.ownsRow.cells o3 (g:=g) rfl 1 (.int .i64 sc) (by simp [Il,CHL.out.2]);rw [Af] at this;exact⟨g,rfl,this,(Ci.1 hg).1⟩
 obtain⟨g,rfl,hc1,hgl⟩:=hC1;have hm2:2<=m:=by rw [<-hmm];exact CHL.out.1
 rw [hmm];have F3:=Ae (F2.out.new k3);have H3:=Ae (H2.out.new k3);have K3:=Ae (K2.out.trans (k3.mono fun j e=>e.elim) fun j _ e=>e);have SNK:AG (∀w',AJ W3 w'->(w'.cell? (b.F 0)=some (.pointer hb.H)∧w'.cell? (g 1)=some (.int .i64 sc))):=⟨fun w' kk=>⟨(F3.out.new kk).c0,(kk.cell hgl id).trans hc1⟩⟩;have hlm:¬(m:Int)<2:=by omega
 have hm1':(1:Int)<(m:Int):=by omega
 clear k3 o3 hIL hmm s0 s1 s2 s3;go_wp2_with fail;refine rh_ (fun w'=>(w'.cell? (b.F 0)=some (.pointer hb.H)∧w'.cell? (g 1)=some (.int .i64 sc))) (SNK.out _ ((AD.refl _ W3).drew)) (fun hE=>?_);refine tk 0 hE ?_;refine tk 1 hE ?_;refine tk 2 (v:= .bool false) hE ?_;refine tk 3 hE ?_;refine tk 4 hE ?_ (hy:=by intro oi ho;cases ho;refine Or.inl ⟨by kernel_rfl,?_⟩;intro w' hS;(try dsimp only at hS);go_simp;try with_reducible rfl);refine tk 5 hE ?_ (hy:=by intro oi ho;cases ho;refine Or.inl ⟨by kernel_rfl,?_⟩;intro w' hS;(try dsimp only at hS);go_simp;try with_reducible rfl);refine tk 6 hE ?_ (hy:=by intro oi ho;cases ho;refine Or.inl ⟨by kernel_rfl,?_⟩;intro w' hS;(try dsimp only at hS);go_simp;try with_reducible rfl);refine tk 7 hE ?_ (hy:=by intro oi ho;cases ho;refine Or.inl ⟨by kernel_rfl,?_⟩;intro w' hS;(try dsimp only at hS);go_simp;try with_reducible rfl);refine tk 8 hE ?_ (hy:=by intro oi ho;cases ho;refine Or.inl ⟨by kernel_rfl,?_⟩;intro w' hS;(try dsimp only at hS);go_simp;try with_reducible rfl);refine tk 9 (v:= .pointer (some (g 1))) hE ?_ (hy:=by intro oi ho;cases ho;refine Or.inl ⟨by kernel_rfl,?_⟩;intro w' hS;(try dsimp only at hS);go_simp;try with_reducible rfl);refine tk 10 hE ?_ (hy:=by intro oi ho;cases ho;refine Or.inl ⟨by kernel_rfl,?_⟩;intro w' hS;(try dsimp only at hS);go_simp;try with_reducible rfl);refine oA_ 11 35 (fun u w'=>u= .bool r∧AJ W3 w') ?c_g11 ?c_n11;case c_g11=>
  intro a' K Q ha hK;have e0:=te ha 31;have e1:=te ha 34;clear ha;go_simp;refine(GY (H3.out.new (nr W3).drew) sc (by omega) HM.out HR2.out).mono ?_;rintro e w2 ⟨rfl,k2⟩;exact hK _ _ ⟨rfl,((nr W3).drew).then_ k2⟩
 case c_n11=>
 rintro u9 W4 ⟨rfl,k4⟩;refine⟨SNK.out _ k4,?_⟩;simp only [pu,s0,s1];have S4:=SNK.out _ k4;refine tk 12 (v:= .bool (!r)) S4 ?_ (hy:=by intro oi ho;cases ho;refine Or.inl ⟨by kernel_rfl,?_⟩;intro w' hS;(try dsimp only at hS);go_simp;try with_reducible rfl);refine tk 13 (v:= .bool (!r)) S4 ?_;refine tk 14 (v:= .bool (!r)) S4 ?_;refine⟨by kernel_rfl,?_⟩;have K4:=Ae k4;clear k4 S4 hE;go_wp2;go_ret;exact⟨rfl,K3.out.trans (K4.out.mono fun j e=>e.elim) fun j _ e=>e,H3.out.new K4.out⟩
def Dl (t:Int):Nat:=if t=117 then 142 else if t=100∨t=107 then 143 else if t=99 then 144 else if t=111 then 145 else 146
theorem Ls (ht:EI t) (w:World):Calls prog 89 #[.int .u8 t] w fun e w'=>e= .returned (.func (.func (Dl t)) #[] #[])∧w'=w:=by
 rcases ht with rfl | rfl | rfl | rfl | rfl | rfl
 all_goals go_in
 all_goals go_wp2_with fail
 all_goals go_ret
 all_goals exact⟨rfl,rfl⟩
end
theorem Fw (w:World):CallsD prog 87 #[] .returning w fun e u' w'=>e= .returned (.tuple #[])∧u'= .returning∧w'=w:=by
 refine callsD_of_wpS func87 rfl fun c₀ cs hu=>?_;apply wpS_region;simp [wpOpsS,go_sem,recoverD,hu,ntmps87,Exit.thenS,bodyPostS,results,results87];cases c₀
 simp_all
theorem N7 (t:Int):Dl t=142∨Dl t=143∨Dl t=144∨Dl t=145∨Dl t=146:=by
 unfold Dl;split
 . exact .inl rfl
 split
 . exact .inr (.inl rfl)
 split
 . exact .inr (.inr (.inl rfl))
 split
 . exact .inr (.inr (.inr (.inl rfl)))
 . exact .inr (.inr (.inr (.inr rfl)))
section
variable {w:World} {lab:Nat->Lb} {s:AE} {hb:Hb} {hx:Hw} {b:Fb} {y:Fm}
theorem Lm (h:AP w lab s hb.H b y) (hbx:y.box≠1) (hb2:y.box<=2) (hl:y.last<=1):Calls prog 88 #[.pointer b.F] w fun e w'=>e= .returned (.bool false)∧w'=w:=by
 have c11:=h.f.z 11;have c13:=h.f.z 13;have c15:=h.f.z 15;have hne:¬(y.box:Int)=1:=by omega
 clear h hbx hb2;rcases(show y.last=0∨y.last=1 by omega) with e | e
 . rw [e] at c15;clear e hl;go_in;go_wp2;go_ret;exact⟨rfl,rfl⟩
 . rw [e] at c15;clear e hl;go_in;go_wp2;go_ret;exact⟨rfl,rfl⟩
theorem Lq (h:AP w lab s hb.H b y) (hat:y.at_= -1) (hbx:y.box≠1) (hb2:y.box<=2) (hl:y.last<=1):Calls prog 36 #[.pointer b.F] w fun e w'=>e= .returned (.tuple #[])∧w'=w:=by
 have c16:w.cell? (b.F 16)=some (.int .i64 (-1)):=by have e:w.cell? (b.F 16)=some (.int .i64 y.at_):=h.f.cell 16;rw [hat] at e;exact e
 have HF:=Ae h;clear h;go_enter_defers func36,ntmps36;go_wp2_with fail;refine mn_ (Lm HF.out hbx hb2 hl) ?_;go_wp2_with fail;refine leaves_cons (f:=87) (args:= #[]) (by simp) (by simp [go_sem]) ?_;refine(Fw _).mono ?_;rintro e u' w'' ⟨rfl,rfl,rfl⟩;exact⟨_,results_none rfl _ _ _,rfl,rfl⟩
def ZH (w:World) (lab:Nat->Lb) (s:AE) (hb:Hb) (b:Fb) (y:Fm) (p tok i x:Nat) (r:Bool) (hx':Hw) (e:Ending) (w':World):Prop:=
 e= .returned (.tuple #[])∧AD (fun j=>j=b.F∨BH lab j) w w'∧AH w' lab s hb hx'∧∃b',b'.F=b.F∧
  (r=false->AP w' lab s hb.H b' y∧b'.qn=3∧An w' b'.q p tok i x∧b'.q=b.q)∧
  (r=true->AP w' lab s hb.H b' { y with box:=2,at_:= -1 }∧b'.qn=2∧w'.cell? (b'.q 1)=some (.int .u32 0)∧b'.q<w'.heap.size∧w.heap.size<=b'.q)
theorem Lo (h:AP w lab s hb.H b y) (hh:AH w lab s hb hx) (hat:y.at_=0) (hbx:y.box=1) (hqn:b.qn=3) (htok:tok<=1023) (hw:An w b.q p tok i x) (lq:lab b.q= .obj 0) (st:DG s p x i t) (L:Ai w) (l1:lab 1= .obj 0)
 (act:∀ (W:World) (b':Fb) (y':Fm),b'.F=b.F->y'.kind=t->AP W lab s hb.H b' y'->AH W lab s hb hx->Ai W->Calls prog (Dl t) #[.pointer b.F, .int .i64 i] W (IE W lab s hb r hx')) (hkd:y.kind=t) (hid:y.ident=i):
 Calls prog 36 #[.pointer b.F] w (ZH w lab s hb b y p tok i x r hx'):=by
 obtain⟨W,hW⟩:∃W,W=w:=⟨_,rfl⟩;have c16:w.cell? (b.F 16)=some (.int .i64 0):=by have e:w.cell? (b.F 16)=some (.int .i64 y.at_):=h.f.cell 16;rw [hat] at e;exact e
 have HT:=Ae st.kind;have PR:=Ae st.proto;have A:=Ae h;have HA:=Ae hh;have LT:=Ae L;have LQ:=Ae lq;have QN:=Ae hqn;have HBX:=Ae hbx;have WD:=Ae hw;have ACT:=Ae act;have AT:=Ae hat
 have KD:=Ae hkd;have ID:=Ae hid;have KW:AG (AD (fun j=>j=b.F∨BH lab j) w W):=⟨by rw [hW];exact kx_⟩;rw [<-hW] at A HA LT WD c16;have nq:∀ {w':World},AD (BH lab) W w'->¬BH lab b.q:=fun _ c=>by
  have c:(lab b.q).isHard=true:=c;rw [LQ.out] at c;cases c
 have c17:W.cell? (b.F 17)=some (.int .u8 t):=by have e:W.cell? (b.F 17)=some (.int .u8 y.kind):=A.out.f.cell 17;rw [hkd] at e;exact e
 have hWK:=Ae hW;clear h hh hat hbx hqn hw lq st L act hkd hid;rw [<-hW] at KW ⊢;clear hW;go_enter_defers func36,ntmps36;go_wp2_with fail;have SK:AG (∀w',AD (BH lab) W w'->(w'.cell? (b.F 17)=some (.int .u8 t)∧w'.cell? (b.F 18)=some (.int .i64 i))):=⟨fun w' kk=>⟨by have e:w'.cell? (b.F 17)=some (.int .u8 (y:Fm).kind):=(A.out.hard kk).f.cell 17;rw [KD.out] at e;exact e,by have e:w'.cell? (b.F 18)=some (.int .i64 (((y:Fm)).ident:Int)):=(A.out.hard kk).f.cell 18;rw [ID.out] at e;exact e⟩⟩;refine wp_region_noPanic ?_;refine rh_ (fun w'=>(w'.cell? (b.F 17)=some (.int .u8 t)∧w'.cell? (b.F 18)=some (.int .i64 i))) (SK.out _ ((AD.refl _ W).drew)) (fun hE=>?_);refine tk 0 hE ?_;refine tk 1 hE ?_;refine tk 2 hE ?_;refine tk 3 hE ?_;refine tk 4 hE ?_;refine tk 6 hE ?_;refine tk 7 hE ?_;refine tk 8 hE ?_;refine tk 9 hE ?_;refine tk 10 hE ?_;refine tk 11 hE ?_;refine oA_ 5 18 (fun u w'=>u= .func (.func (Dl t)) #[] #[]∧w'=W.drew) ?sw_g5 ?sw_n5;case sw_g5=>
  intro a' K Q ha hK;have e0:=te ha 17;clear ha;go_simp;refine(Ls HT.out W.drew).mono ?_;rintro e w' ⟨rfl,rfl⟩;exact hK _ _ ⟨rfl,rfl⟩
 case sw_n5=>
 rintro u5 w5 ⟨rfl,rfl⟩;refine⟨hE,?_⟩;simp only [pu,s0,s1];refine oA_ 12 25 (fun u w'=>u= .bool r∧AD (BH lab) W w'∧AH w' lab s hb hx') ?sw_g12 ?sw_n12;case sw_g12=>
  intro a' K Q ha hK;have e0:=te ha 18;have e1:=te ha 19;have e2:=te ha 24;clear ha;have CA:=Ae (ACT.out W.drew b _ rfl KD.out (A.out.new (nr W).drew) (HA.out.new (nr W).drew) (LT.out.keep (nr W).drew id));rcases N7 t with e | e | e | e | e
  all_goals rw [e] at e0 CA
  all_goals clear e
  all_goals go_simp
  all_goals refine CA.out.mono ?_
  all_goals rintro e w' ⟨rfl,k2,h2⟩
  all_goals exact hK _ _ ⟨rfl,(((nr W).drew).mono fun j e=>e.elim).trans k2 fun j _ e=>e,h2⟩
 case sw_n12=>
 rintro u12 W2 ⟨rfl,k2,h2⟩;refine⟨SK.out _ k2,?_⟩;simp only [pu,s0,s1];refine⟨by kernel_rfl,NoPanic.normal ?_⟩;have A2:=Ae (A.out.hard k2);have H2:=Ae h2;have WD2:=Ae (WD.out.keep k2 (nq k2));have K2:=Ae (KW.out.trans (k2.mono fun j e=> .inr e) fun j _ e=>e);clear k2 h2 hE;cases r
 . go_wp2_with fail;refine leaves_cons (f:=87) (args:= #[]) (by simp) (by simp [go_sem]) ?_;refine(Fw _).mono ?_;rintro e u' w'' ⟨rfl,rfl,rfl⟩;exact⟨_,results_none rfl _ _ _,rfl,K2.out,H2.out,b,rfl,fun _=>⟨A2.out,QN.out,WD2.out,rfl⟩,fun e=>(by cases e)⟩
 . have c16:W2.cell? (b.F 16)=some (.int .i64 0):=by have e:W2.cell? (b.F 16)=some (.int .i64 (y:Fm).at_):=A2.out.f.cell 16;rw [AT.out] at e;exact e
   have f16:=A2.out.f.frozen 16;have kk:AD (fun j=>j=b.F) W2 (W2.setCell (b.F 16) (.int .i64 (-1))):=keeps_set _;have A3:=Ae (A2.out.turn (b':=b) (y':={ (y:Fm) with at_:= -1 }) kk rfl rfl rfl rfl (A2.out.f.set 16 (.int .i64 (-1))));have H3:=Ae (H2.out.keep kk fun j e c=>by
    have c:j=b.F:=c;rw [c,A2.out.lF] at e;cases e)
   have WD3:=Ae (WD2.out.keep kk (fun c=>by
    have h1:=LQ.out;have c:b.q=b.F:=c;rw [c,A2.out.lF] at h1;cases h1))
   have KK:=Ae kk;clear kk;go_wp2_with fail;refine(Lr A3.out HBX.out QN.out PR.out htok WD3.out).mono ?_;rintro e W4 ⟨q,c,rfl,k4,a4,q4,l4,g4⟩;have A4:=Ae a4;have K4:=Ae k4;have Q4:=Ae (And.intro q4 (And.intro l4 g4));have H4:=Ae (H3.out.keep k4 fun j e c=>by
    have c:j=b.F:=c;rw [c,A2.out.lF] at e;cases e)
   clear k4 a4 q4 l4 g4;go_wp2_with fail;refine leaves_cons (f:=87) (args:= #[]) (by simp) (by simp [go_sem]) ?_;refine(Fw _).mono ?_;rintro e u' w'' ⟨rfl,rfl,rfl⟩;have zz:=K2.out.size;have gz:=Q4.out.2.2;simp only [Fg] at gz;exact⟨_,results_none rfl _ _ _,rfl,(K2.out.trans (KK.out.mono fun j e=> .inl e) fun j _ e=>e).trans (K4.out.mono fun j e=> .inl e) fun j _ e=>e,H4.out,{ b with q:=q,qn:=2,qc:=c },rfl,fun e=>(by cases e),fun _=>⟨A4.out,rfl,Q4.out.1,Q4.out.2.1,by show W.heap.size<=q;omega⟩⟩
theorem Lp (h:AP w lab s hb.H b y) (hh:AH w lab s hb hx) (hs:s.Ok) (hfr:∀j,w.heap.size<=j->lab j= .obj 0) (hx0:∀i,i<s.nv->hx.m i=0) (hat:y.at_= -1) (hbx:y.box=1) (hqn:b.qn=3) (hl:y.last<=1) (htok:tok<=1023) (hw:An w b.q p tok i x) (lq:lab b.q= .obj 0) (st:DG s p x i t) (L:Ai w) (l1:lab 1= .obj 0)
 (act:∀ (W:World) (b':Fb) (y':Fm),b'.F=b.F->y'.kind=t->AP W lab s hb.H b' y'->AH W lab s hb hx->Ai W->Calls prog (Dl t) #[.pointer b.F, .int .i64 i] W (IE W lab s hb r hx')) (hc:Qz s y.wish t i):
 Calls prog 36 #[.pointer b.F] w (ZH w lab s hb b { y with wish:=Br y.wish t i,last:=0,at_:=0,kind:=t,ident:=i } p tok i x r hx'):=by
 have c16:w.cell? (b.F 16)=some (.int .i64 (-1)):=by have e:w.cell? (b.F 16)=some (.int .i64 y.at_):=h.f.cell 16;rw [hat] at e;exact e
 have TK:AG (Calls prog 88 #[.pointer b.F] w (TakeP w lab s hb.H b y t i)):=⟨firm_take h hh hs hfr hx0 hbx hqn hl htok hw lq st hc⟩;have HT:=Ae st.kind;have PR:=Ae st.proto;have LQ:=Ae lq;have QN:=Ae hqn;have HBX:=Ae hbx;have ACT:=Ae act;have HH0:=Ae hh;have HF0:=Ae h;have L0:=Ae L;have KL1:=Ae l1;have WD0:=Ae hw;clear h hh hs hfr hx0 hat hbx hqn hl hw lq st L l1 act hc;go_enter_defers func36,ntmps36;go_wp2_with fail;refine TK.out.mono ?_;rintro e W ⟨bb,cp,rfl,k1,a1⟩;have nF:∀j,lab j≠ .obj 6->¬j=b.F:=fun j e c=>e (by rw [c,HF0.out.lF]);have A:=Ae a1;have HA:=Ae (HH0.out.keep k1 fun j e=>nF j (fun c=>by rw [c] at e;cases e));have LT:=Ae (L0.out.keep k1 (nF 1 (by rw [KL1.out];simp)));have WD:=Ae (WD0.out.keep k1 (nF _ (by rw [LQ.out];simp)));have KW:AG (AD (fun j=>j=b.F∨BH lab j) w W):=⟨k1.mono fun j e=> .inl e⟩;have nq:∀ {w':World},AD (BH lab) W w'->¬BH lab b.q:=fun _ c=>by
  have c:(lab b.q).isHard=true:=c;rw [LQ.out] at c;cases c
 have c17:=a1.f.z 17;clear k1 a1 nF c16 TK;go_wp2_with fail;have KD:AG (({ y with wish:=Br y.wish t i,last:=0,at_:=0,kind:=t,ident:=i }:Fm).kind=t):=⟨rfl⟩;have ID:AG (({ y with wish:=Br y.wish t i,last:=0,at_:=0,kind:=t,ident:=i }:Fm).ident=i):=⟨rfl⟩;have AT:AG (({ y with wish:=Br y.wish t i,last:=0,at_:=0,kind:=t,ident:=i }:Fm).at_=0):=⟨rfl⟩;have SK:AG (∀w',AD (BH lab) W w'->(w'.cell? (b.F 17)=some (.int .u8 t)∧w'.cell? (b.F 18)=some (.int .i64 i))):=⟨fun w' kk=>⟨by have e:w'.cell? (b.F 17)=some (.int .u8 ({ y with wish:=Br y.wish t i,last:=0,at_:=0,kind:=t,ident:=i }:Fm).kind):=(A.out.hard kk).f.cell 17;rw [KD.out] at e;exact e,by have e:w'.cell? (b.F 18)=some (.int .i64 ((({ y with wish:=Br y.wish t i,last:=0,at_:=0,kind:=t,ident:=i }:Fm)).ident:Int)):=(A.out.hard kk).f.cell 18;rw [ID.out] at e;exact e⟩⟩;refine wp_region_noPanic ?_;refine rh_ (fun w'=>(w'.cell? (b.F 17)=some (.int .u8 t)∧w'.cell? (b.F 18)=some (.int .i64 i))) (SK.out _ ((AD.refl _ W).drew)) (fun hE=>?_);refine tk 0 hE ?_;refine tk 1 hE ?_;refine tk 2 hE ?_;refine tk 3 hE ?_;refine tk 4 hE ?_;refine tk 6 hE ?_;refine tk 7 hE ?_;refine tk 8 hE ?_;refine tk 9 hE ?_;refine tk 10 hE ?_;refine tk 11 hE ?_;refine oA_ 5 18 (fun u w'=>u= .func (.func (Dl t)) #[] #[]∧w'=W.drew) ?st_g5 ?st_n5;case st_g5=>
  intro a' K Q ha hK;have e0:=te ha 17;clear ha;go_simp;refine(Ls HT.out W.drew).mono ?_;rintro e w' ⟨rfl,rfl⟩;exact hK _ _ ⟨rfl,rfl⟩
 case st_n5=>
 rintro u5 w5 ⟨rfl,rfl⟩;refine⟨hE,?_⟩;simp only [pu,s0,s1];refine oA_ 12 25 (fun u w'=>u= .bool r∧AD (BH lab) W w'∧AH w' lab s hb hx') ?st_g12 ?st_n12;case st_g12=>
  intro a' K Q ha hK;have e0:=te ha 18;have e1:=te ha 19;have e2:=te ha 24;clear ha;have CA:=Ae (ACT.out W.drew ({ b with bb:=bb,cp:=cp }:Fb) _ rfl KD.out (A.out.new (nr W).drew) (HA.out.new (nr W).drew) (LT.out.keep (nr W).drew id));rcases N7 t with e | e | e | e | e
  all_goals rw [e] at e0 CA
  all_goals clear e
  all_goals go_simp
  all_goals refine CA.out.mono ?_
  all_goals rintro e w' ⟨rfl,k2,h2⟩
  all_goals exact hK _ _ ⟨rfl,(((nr W).drew).mono fun j e=>e.elim).trans k2 fun j _ e=>e,h2⟩
 case st_n12=>
 rintro u12 W2 ⟨rfl,k2,h2⟩;refine⟨SK.out _ k2,?_⟩;simp only [pu,s0,s1];refine⟨by kernel_rfl,NoPanic.normal ?_⟩;have A2:=Ae (A.out.hard k2);have H2:=Ae h2;have WD2:=Ae (WD.out.keep k2 (nq k2));have K2:=Ae (KW.out.trans (k2.mono fun j e=> .inr e) fun j _ e=>e);clear k2 h2 hE;cases r
 . go_wp2_with fail;refine leaves_cons (f:=87) (args:= #[]) (by simp) (by simp [go_sem]) ?_;refine(Fw _).mono ?_;rintro e u' w'' ⟨rfl,rfl,rfl⟩;exact⟨_,results_none rfl _ _ _,rfl,K2.out,H2.out,({ b with bb:=bb,cp:=cp }:Fb),rfl,fun _=>⟨A2.out,QN.out,WD2.out,rfl⟩,fun e=>(by cases e)⟩
 . have c16:W2.cell? (b.F 16)=some (.int .i64 0):=by have e:W2.cell? (b.F 16)=some (.int .i64 ({ y with wish:=Br y.wish t i,last:=0,at_:=0,kind:=t,ident:=i }:Fm).at_):=A2.out.f.cell 16;rw [AT.out] at e;exact e
   have f16:=A2.out.f.frozen 16;have kk:AD (fun j=>j=b.F) W2 (W2.setCell (b.F 16) (.int .i64 (-1))):=keeps_set _;have A3:=Ae (A2.out.turn (b':=({ b with bb:=bb,cp:=cp }:Fb)) (y':={ ({ y with wish:=Br y.wish t i,last:=0,at_:=0,kind:=t,ident:=i }:Fm) with at_:= -1 }) kk rfl rfl rfl rfl (A2.out.f.set 16 (.int .i64 (-1))));have H3:=Ae (H2.out.keep kk fun j e c=>by
    have c:j=b.F:=c;rw [c,A2.out.lF] at e;cases e)
   have WD3:=Ae (WD2.out.keep kk (fun c=>by
    have h1:=LQ.out;have c:({ b with bb:=bb,cp:=cp }:Fb).q=b.F:=c;rw [c,A2.out.lF] at h1;cases h1))
   have KK:=Ae kk;clear kk;go_wp2_with fail;refine(Lr A3.out HBX.out QN.out PR.out htok WD3.out).mono ?_;rintro e W4 ⟨q,c,rfl,k4,a4,q4,l4,g4⟩;have A4:=Ae a4;have K4:=Ae k4;have Q4:=Ae (And.intro q4 (And.intro l4 g4));have H4:=Ae (H3.out.keep k4 fun j e c=>by
    have c:j=b.F:=c;rw [c,A2.out.lF] at e;cases e)
   clear k4 a4 q4 l4 g4;go_wp2_with fail;refine leaves_cons (f:=87) (args:= #[]) (by simp) (by simp [go_sem]) ?_;refine(Fw _).mono ?_;rintro e u' w'' ⟨rfl,rfl,rfl⟩;have zz:=K2.out.size;have gz:=Q4.out.2.2;simp only [Fg] at gz;exact⟨_,results_none rfl _ _ _,rfl,(K2.out.trans (KK.out.mono fun j e=> .inl e) fun j _ e=>e).trans (K4.out.mono fun j e=> .inl e) fun j _ e=>e,H4.out,{ ({ b with bb:=bb,cp:=cp }:Fb) with q:=q,qn:=2,qc:=c },rfl,fun e=>(by cases e),fun _=>⟨A4.out,rfl,Q4.out.1,Q4.out.2.1,by show w.heap.size<=q;omega⟩⟩
end
section
attribute [local go_sem] BI Fx
def Fm.new:Fm:=⟨fun _ _ _=>false,0,1, -1,0,0⟩
def ZR (w:World) (lab:Nat->Lb) (s:AE) (H:Nat) (e:Ending) (w':World):Prop:=
 ∃b,e= .returned (.tuple #[.pointer b.F, .int .i64 0])∧AJ w w'∧w.heap.size<=b.F∧AP w' (upd lab b.F (.obj 6)) s H b Fm.new
theorem YU {H:Nat} (hs:s.Ok) (ha:A6 w v s) (hfr:∀j,w.heap.size<=j->lab j= .obj 0):
 Calls prog 12 #[.pointer H, .agg #[.slice v.cb s.nc v.cc, .slice v.db s.nd v.dc, .slice v.rb s.nr v.rc, .slice v.vb s.nv v.vc]] w (ZR w lab s H):=by
 have HS:=Ae hs;have HA:=Ae ha;have HFR:=Ae hfr;have HB:=Ae (Aj (w:=w) s v);clear hs ha hfr;go_in;go_wp2_with fail;have k0:=(nr w).alloc (.cells (BI v s) 30);refine(CP HS.out (HA.out.new k0)).mono ?_;rintro z' W1 ⟨rfl,k1⟩;have K1:=Ae (k0.then_ k1);have B1:=Ae (HB.out.keep k1 id);clear k1 k0 HB;go_wp2_with fail;have SNK:AG (∀w',AJ W1 w'->(w'.cell? (w.heap.size 0)=some (.slice v.cb s.nc v.cc)∧w'.cell? (w.heap.size 1)=some (.slice v.db s.nd v.dc)∧w'.cell? (w.heap.size 2)=some (.slice v.rb s.nr v.rc)∧w'.cell? (w.heap.size 3)=some (.slice v.vb s.nv v.vc))):=⟨fun w' kk=>by
  have bb:=B1.out.keep kk id;exact⟨bb.cell 0,bb.cell 1,bb.cell 2,bb.cell 3⟩⟩
 refine rh_ (fun w'=>(w'.cell? (w.heap.size 0)=some (.slice v.cb s.nc v.cc)∧w'.cell? (w.heap.size 1)=some (.slice v.db s.nd v.dc)∧w'.cell? (w.heap.size 2)=some (.slice v.rb s.nr v.rc)∧w'.cell? (w.heap.size 3)=some (.slice v.vb s.nv v.vc))) (SNK.out _ ((AD.refl _ W1).drew)) (fun hE=>?_);refine tk 0 hE ?_;refine tk 1 hE ?_;refine tk 3 hE ?_;refine oA_ 2 17 (fun u w'=>ZT W1 s (.returned u) w') ?n_g2 ?n_n2;case n_g2=>
  intro a' K Q ha hK;have e0:=te ha 16;clear ha;go_simp;refine(JT HS.out (HA.out.new (K1.out.drew))).mono ?_;rintro e w4 ⟨v2,rfl,k4,a4,b4⟩;exact hK _ _ ⟨v2,rfl,((nr W1).drew).then_ k4,a4,b4⟩
 case n_n2=>
 rintro u2 W2 ⟨v2,hu,k2,a2,b2⟩;refine⟨SNK.out _ k2,?_⟩;simp only [pu,s0,s1];injection hu with hu;subst hu;have S2:=SNK.out _ k2;have K2:=Ae k2;have A2:=Ae a2;have B2:=Ae b2;clear k2 a2 b2;refine oA_ 4 19 (fun u w'=>ZI W2 s (.returned u) w') ?n_g4 ?n_n4;case n_g4=>
  intro a' K Q ha hK;have e0:=te ha 18;clear ha;go_simp;refine(PW HS.out (w:=W2)).mono ?_;rintro e w4 ⟨bb,rfl,k4,h4⟩;exact hK _ _ ⟨bb,rfl,k4,h4⟩
 case n_n4=>
 rintro u4 W3 ⟨bb,hu,k3,h3⟩;refine⟨SNK.out _ (K2.out.then_ k3),?_⟩;simp only [pu,s0,s1];injection hu with hu;subst hu;have S3:=SNK.out _ (K2.out.then_ k3);have K3:=Ae k3;have R3:=Ae h3;clear k3 h3 S2;refine tk 5 (v:= .agg #[.pointer H, .slice v2.cb s.nc v2.cc, .slice v2.db s.nd v2.dc, .slice v2.rb s.nr v2.rc, .slice v2.vb s.nv v2.vc, .slice (bb 0 0) s.nd s.nd, .slice (bb 0 1) s.nc s.nc, .slice (bb 0 2) s.nr s.nr, .slice (bb 1 0) s.nd s.nd, .slice (bb 1 1) s.nc s.nc, .slice (bb 1 2) s.nr s.nr, .int .i64 0, .slice none 0 0, .int .i64 0, .slice none 0 0, .int .i64 1, .int .i64 (-1), .int .u8 0, .int .i64 0]) S3 ?_ (hy:=by intro oi ho;cases ho;refine Or.inl ⟨by rfl,?_⟩;intro w' hS;(try dsimp only at hS);go_simp;exact⟨rfl,rfl,rfl,rfl,rfl,rfl⟩);refine oA_ 6 21 (fun u w'=>u= .pointer W3.heap.size∧w'=W3.alloc (.cells #[.pointer H, .slice v2.cb s.nc v2.cc, .slice v2.db s.nd v2.dc, .slice v2.rb s.nr v2.rc, .slice v2.vb s.nv v2.vc, .slice (bb 0 0) s.nd s.nd, .slice (bb 0 1) s.nc s.nc, .slice (bb 0 2) s.nr s.nr, .slice (bb 1 0) s.nd s.nd, .slice (bb 1 1) s.nc s.nc, .slice (bb 1 2) s.nr s.nr, .int .i64 0, .slice none 0 0, .int .i64 0, .slice none 0 0, .int .i64 1, .int .i64 (-1), .int .u8 0, .int .i64 0] 128)) ?n_g6 ?n_n6;case n_g6=>
  intro a' K Q ha hK;have e0:=te ha 20;clear ha;go_simp;exact hK _ _ ⟨rfl,rfl⟩
 case n_n6=>
 rintro u6 W4 ⟨rfl,rfl⟩;refine⟨SNK.out _ ((K2.out.then_ K3.out).alloc _),?_⟩;simp only [pu,s0,s1];have S4:=SNK.out _ ((K2.out.then_ K3.out).alloc (.cells #[.pointer H, .slice v2.cb s.nc v2.cc, .slice v2.db s.nd v2.dc, .slice v2.rb s.nr v2.rc, .slice v2.vb s.nv v2.vc, .slice (bb 0 0) s.nd s.nd, .slice (bb 0 1) s.nc s.nc, .slice (bb 0 2) s.nr s.nr, .slice (bb 1 0) s.nd s.nd, .slice (bb 1 1) s.nc s.nc, .slice (bb 1 2) s.nr s.nr, .int .i64 0, .slice none 0 0, .int .i64 0, .slice none 0 0, .int .i64 1, .int .i64 (-1), .int .u8 0, .int .i64 0] 128));refine tk 7 S4 ?_;refine⟨by kernel_rfl,?_⟩;clear S3 S4 hE;go_wp2;go_ret2;have z1:=K1.out.size;have z2:=K2.out.size;have z3:=K3.out.size;have bf:=AF.new W3 [.pointer H, .slice v2.cb s.nc v2.cc, .slice v2.db s.nd v2.dc, .slice v2.rb s.nr v2.rc, .slice v2.vb s.nv v2.vc, .slice (bb 0 0) s.nd s.nd, .slice (bb 0 1) s.nc s.nc, .slice (bb 0 2) s.nr s.nr, .slice (bb 1 0) s.nd s.nd, .slice (bb 1 1) s.nc s.nc, .slice (bb 1 2) s.nr s.nr, .int .i64 0, .slice none 0 0, .int .i64 0, .slice none 0 0, .int .i64 1, .int .i64 (-1), .int .u8 0, .int .i64 0] 128;have k4:=(nr W3).alloc (.cells #[.pointer H, .slice v2.cb s.nc v2.cc, .slice v2.db s.nd v2.dc, .slice v2.rb s.nr v2.rc, .slice v2.vb s.nv v2.vc, .slice (bb 0 0) s.nd s.nd, .slice (bb 0 1) s.nc s.nc, .slice (bb 0 2) s.nr s.nr, .slice (bb 1 0) s.nd s.nd, .slice (bb 1 1) s.nc s.nc, .slice (bb 1 2) s.nr s.nr, .int .i64 0, .slice none 0 0, .int .i64 0, .slice none 0 0, .int .i64 1, .int .i64 (-1), .int .u8 0, .int .i64 0] 128);have a4:=(A2.out.new K3.out).new k4;refine⟨⟨W3.heap.size,v2,bb,fun _ j=>Ao s j,0,0,0⟩,rfl,((K1.out.then_ K2.out).then_ K3.out).then_ k4,by show w.heap.size<=W3.heap.size;omega,bf,a4,fun g j hg hj=>⟨(R3.out g j hg hj).1.keep k4 id,Nat.zero_le _⟩,upd_same _ _ _,fun j hj=>?_,fun g j hg hj=>?_⟩
 . rw [uo_ (FK a4 bf (by omega) j hj)];exact HFR.out j (by have:=B2.out j hj;omega)
 . have hl:=(R3.out g j hg hj).1.lt;rw [uo_ (by show bb g j≠W3.heap.size;omega)];have h2:=(R3.out g j hg hj).2;show lab (bb g j)= .obj 0;exact HFR.out _ (by omega)
end
theorem Wi (w:World):(zeroValue 3).run prog w= .ok (.int .i64 0) w:=by kernel_rfl
structure Cb where
 C:Nat
 M:Nat
 gb:Nat
 gc:Nat
 ao:Nat->Option Addr
 cp:Nat->Nat
def Lk (s:AE) (b:Cb) (j:Nat):Prop:=j=b.gb∨∃i,i<s.nv∧0<(s.dv i).nneed∧b.ao i=some (j 0)
theorem Bt.keep' {b:Cb} (h:Bt w b.gb s.nv b.ao b.cp (fun i=>(s.dv i).nneed) e) (k:AD S w w') (n:∀j,Lk s b j->¬S j) (_:True):Bt w' b.gb s.nv b.ao b.cp (fun i=>(s.dv i).nneed) e:=
 ⟨rowIs_keep h.r k (n _ (.inl rfl)),fun i hi=>by
  rcases h.i i hi with h0 | ⟨q,e1,r⟩
  . exact .inl h0
  . by_cases hm:0<(s.dv i).nneed
    . exact .inr ⟨q,e1,r.keep k (n q (.inr ⟨i,hi,hm,e1⟩))⟩
    . exact .inl (by show(s.dv i).nneed=0;omega),h.few,h.deg,h.less⟩
structure A7 (w:World) (lab:Nat->Lb) (s:AE) (b:Cb) (n:Nat) (cnt:Nat->Nat) (asleep:Bool):Prop where
 c:AF w b.C 199 [.slice b.gb s.nv b.gc, .map (some b.M), .bool asleep]
 g:Bt w b.gb s.nv b.ao b.cp (fun i=>(s.dv i).nneed) (fun i j=>(s.dv i).need j)
 m:∃D:DataW Unit,w.ownsMap prog 3 (plainElem prog 3) b.M n D∧∀i,i<s.nv->D.atKey (lk i) (.lit (.int .i64 0))= .lit (.int .i64 (cnt i:Int))
 ne:b.C≠b.M
 lC:lab b.C= .obj 8
 lM:lab b.M= .obj 9
 lg:∀j,Lk s b j->lab j= .obj 0
 gblk:True
section
variable {w:World} {lab:Nat->Lb} {s:AE} {b:Cb} {n:Nat} {cnt:Nat->Nat} {q:Bool}
theorem A7.keep (h:A7 w lab s b n cnt q) (k:AD S w w') (hn:∀j,lab j= .obj 0∨lab j= .obj 8∨lab j= .obj 9->¬S j):A7 w' lab s b n cnt q:=by
 obtain⟨D,⟨es,cl,h1,h2⟩,h3⟩:=h.m;exact⟨h.c.keep k (hn _ (.inr (.inl h.lC))),h.g.keep' k (fun j e=>hn _ (.inl (h.lg j e))) trivial,⟨D,⟨es,cl,(k.block b.M (Ci.1 h1).1 (hn _ (.inr (.inr h.lM)))).trans h1,h2⟩,h3⟩,h.ne,h.lC,h.lM,h.lg,trivial⟩
theorem Je (h:A7 w lab s b n cnt q) (i:Nat) (hi:i<s.nv):Calls prog 299 #[.pointer b.C, .int .i64 i] w fun e w'=>e= .returned (.bool true)∧w'=w:=by
 have c0:=h.c.z 0;clear h;go_in;go_wp2;go_ret;exact⟨rfl,rfl⟩
theorem Og (h:A7 w lab s b n cnt q):Calls prog 285 #[.pointer b.C] w fun e w'=>e= .returned (.bool q)∧w'=w:=by
 have c2:=h.c.z 2;clear h;go_in;go_wp2;go_ret;exact⟨rfl,rfl⟩
theorem A7.turn {q':Bool} (h:A7 w lab s b n cnt q) (k:AD (fun j=>j=b.C) w w') (c:AF w' b.C 199 [.slice b.gb s.nv b.gc, .map (some b.M), .bool q']):A7 w' lab s b n cnt q':=by
 obtain⟨D,⟨es,cl,h1,h2⟩,h3⟩:=h.m;exact⟨c,h.g.keep' k (fun j e c=>by have h4:=h.lg j e;have c:j=b.C:=c;rw [c,h.lC] at h4;cases h4) trivial,⟨D,⟨es,cl,(k.block b.M (Ci.1 h1).1 (fun c=>h.ne (Eq.symm c))).trans h1,h2⟩,h3⟩,h.ne,h.lC,h.lM,h.lg,trivial⟩
theorem Mc (h:A7 w lab s b n cnt false):Calls prog 283 #[.pointer b.C] w fun e w'=>e= .returned (.int .i64 0)∧AD (fun j=>j=b.C) w w'∧A7 w' lab s b n cnt true:=by
 have c2:=h.c.z 2;have f2:=h.c.frozen 2;have H:=Ae h;clear h;go_in;go_wp2;go_ret;exact⟨rfl,keeps_set _,H.out.turn (keeps_set _) (H.out.c.set 2 (.bool true))⟩
theorem Of (h:A7 w lab s b n cnt true):Calls prog 284 #[.pointer b.C] w fun e w'=>e= .returned (.int .i64 0)∧AD (fun j=>j=b.C) w w'∧A7 w' lab s b n cnt false:=by
 have c2:=h.c.z 2;have f2:=h.c.frozen 2;have H:=Ae h;clear h;go_in;go_wp2;go_ret;exact⟨rfl,keeps_set _,H.out.turn (keeps_set _) (H.out.c.set 2 (.bool false))⟩
theorem N5 (h:A7 w lab s b n cnt false) (hn:n<=1000) (i:Nat) (hi:i<s.nv) (hc:cnt i<7):
 Calls prog 281 #[.pointer b.C, .int .i64 i] w fun e w'=>e= .returned (.int .i64 0)∧AD (fun j=>j=b.M) w w'∧A7 w' lab s b (n+1) (upd cnt i (cnt i+1)) false:=by
 have c0:=h.c.z 0;have c1:=h.c.z 1;have c2:=h.c.z 2;obtain⟨D,hD,hat⟩:=h.m;have n1:=h.g.few;obtain⟨c,hrun,hc1,_⟩:=hD.lookup_int (t:=197) (Maps.int_keyed underlying3) underlying197 underlying3 (Wi w) (Ej (i:=i) (by omega));have ec:c=(cnt i:Int):=by
  have h2:=hc1.symm.trans (hat i hi);simp only [DataW.lit.injEq,Lit.int.injEq,true_and] at h2;exact h2
 subst ec;have HD:=Ae hD;have HAT:=Ae hat
 have H:=Ae h;have hle:¬(7:Int)<=(cnt i:Int):=by omega
 have hwf:(Lit.int .i64 ((cnt i:Int)+1)).wf=true:=WalkArith.wf_i64 (by omega);have hz:((cnt i:Int)+1:Int)=((cnt i+1:Nat):Int):=by omega
 have HZ:=Ae hz;have HWF:=Ae hwf;clear hz hwf;clear h hD hat hc1;go_in;go_wp2_with fail;refine(Je H.out i hi).mono ?_;rintro e w' ⟨rfl,rfl⟩;go_wp2_with (at_mapUpdate;refine wpList_mapUpdate_own _ rfl (.tmp 26) (.tmp 27) (.tmp 29) 197 rfl 3 3 (Maps.int_keyed underlying3) underlying197 (plainElem prog 3) b.M n D rfl HD.out (by unfold maxLen;omega) (.int .i64 i) (.int .i64 ((cnt i:Int)+1)) (lk i) rfl rfl (Ej (by omega)) (.lit (.int .i64 ((cnt i:Int)+1))) [] (plainElem_int underlying3 HWF.out) ?_;intro w3 own3 grow3;have K3:=Ae ((AD.refl (fun j=>j=b.M) w').grown grow3 (fun j e _=>by injection e with e;exact e.symm));have O3:=Ae own3;clear own3 grow3);go_ret;refine⟨rfl,K3.out,H.out.c.keep K3.out (fun e=>H.out.ne (by omega)),H.out.g.keep' K3.out (fun j e=>by have h1:=H.out.lg j e;intro c;have c:j=b.M:=c;rw [c,H.out.lM] at h1;cases h1) H.out.gblk,⟨_,O3.out,fun j hj=>?_⟩,H.out.ne,H.out.lC,H.out.lM,H.out.lg,H.out.gblk⟩;have hm:=HD.out.isMap;by_cases e:j=i
 . subst e;rw [Maps.atKey_put_same hm (GV _),upd_same,HZ.out]
 . rw [Maps.atKey_put_other (Ja e),uo_ e];exact HAT.out j hj
theorem Vu (h:A7 w lab s b n cnt false) (hn:n<=1000) (i:Nat) (hi:i<s.nv) (hc:0<cnt i∧cnt i<=7):
 Calls prog 282 #[.pointer b.C, .int .i64 i] w fun e w'=>e= .returned (.int .i64 0)∧AD (fun j=>j=b.M) w w'∧A7 w' lab s b (n+1) (upd cnt i (cnt i - 1)) false:=by
 have c0:=h.c.z 0;have c1:=h.c.z 1;have c2:=h.c.z 2;obtain⟨D,hD,hat⟩:=h.m;have n1:=h.g.few;obtain⟨c,hrun,hc1,_⟩:=hD.lookup_int (t:=197) (Maps.int_keyed underlying3) underlying197 underlying3 (Wi w) (Ej (i:=i) (by omega));have ec:c=(cnt i:Int):=by
  have h2:=hc1.symm.trans (hat i hi);simp only [DataW.lit.injEq,Lit.int.injEq,true_and] at h2;exact h2
 subst ec;have HD:=Ae hD;have HAT:=Ae hat
 have H:=Ae h;have hle:¬(cnt i:Int)<=0:=by omega
 have hwf:(Lit.int .i64 ((cnt i:Int) - 1)).wf=true:=WalkArith.wf_i64 (by omega);have hz:((cnt i:Int) - 1:Int)=((cnt i - 1:Nat):Int):=by omega
 have HZ:=Ae hz;have HWF:=Ae hwf;clear hz hwf;clear h hD hat hc1;go_in;go_wp2_with fail;refine(Je H.out i hi).mono ?_;rintro e w' ⟨rfl,rfl⟩;go_wp2_with (at_mapUpdate;refine wpList_mapUpdate_own _ rfl (.tmp 26) (.tmp 27) (.tmp 29) 197 rfl 3 3 (Maps.int_keyed underlying3) underlying197 (plainElem prog 3) b.M n D rfl HD.out (by unfold maxLen;omega) (.int .i64 i) (.int .i64 ((cnt i:Int) - 1)) (lk i) rfl rfl (Ej (by omega)) (.lit (.int .i64 ((cnt i:Int) - 1))) [] (plainElem_int underlying3 HWF.out) ?_;intro w3 own3 grow3;have K3:=Ae ((AD.refl (fun j=>j=b.M) w').grown grow3 (fun j e _=>by injection e with e;exact e.symm));have O3:=Ae own3;clear own3 grow3);go_ret;refine⟨rfl,K3.out,H.out.c.keep K3.out (fun e=>H.out.ne (by omega)),H.out.g.keep' K3.out (fun j e=>by have h1:=H.out.lg j e;intro c;have c:j=b.M:=c;rw [c,H.out.lM] at h1;cases h1) H.out.gblk,⟨_,O3.out,fun j hj=>?_⟩,H.out.ne,H.out.lC,H.out.lM,H.out.lg,H.out.gblk⟩;have hm:=HD.out.isMap;by_cases e:j=i
 . subst e;rw [Maps.atKey_put_same hm (GV _),upd_same,HZ.out]
 . rw [Maps.atKey_put_other (Ja e),uo_ e];exact HAT.out j hj
end
section
attribute [local go_sem] BI Fx
def Ni (w:World) (lab:Nat->Lb) (s:AE) (e:Ending) (w':World):Prop:=
 ∃b,e= .returned (.tuple #[.pointer b.C, .int .i64 0])∧AJ w w'∧w.heap.size<=b.C∧w.heap.size<=b.M∧A7 w' (upd (upd lab b.C (.obj 8)) b.M (.obj 9)) s b 0 (fun _=>0) false
theorem QE {gb:Nat} {ao:Nat->Option Addr} {cp m:Nat->Nat} (h:Bt w gb n ao cp m e) {j:Nat} (hi:i<n) (hm:0<m i) (ha:ao i=some (j 0)):j<w.heap.size:=by
 obtain⟨b,e1,c⟩:=h.num i hi 0 hm;rw [ha] at e1;injection e1 with e1;injection e1 with e1;subst e1;exact al22_ w _ c
theorem N4 (hs:s.Ok) (ha:A6 w v s) (hfr:∀j,w.heap.size<=j->lab j= .obj 0):
 Calls prog 32 #[.agg #[.slice v.cb s.nc v.cc, .slice v.db s.nd v.dc, .slice v.rb s.nr v.rc, .slice v.vb s.nv v.vc]] w (Ni w lab s):=by
 have HS:=Ae hs;have HA:=Ae ha;have HFR:=Ae hfr;have HB:=Ae (Aj (w:=w) s v);clear hs ha hfr;go_in;go_wp2_with fail;have k0:=(nr w).alloc (.cells (BI v s) 30);refine(CP HS.out (HA.out.new k0)).mono ?_;rintro z' W1 ⟨rfl,k1⟩;have K1:=Ae (k0.then_ k1);have B1:=HB.out.keep k1 id;have s0:=B1.z 0;have s1:=B1.z 1;have s2:=B1.z 2;have s3:=B1.z 3;clear k1 k0 HB B1;go_wp2_with fail;refine(Ly HS.out (HA.out.new K1.out)).mono ?_;rintro z' W2 ⟨gb,ao,cp,rfl,k2,g2,lg,lb⟩;have K2:=Ae (K1.out.then_ k2);have G2:=Ae g2;have LB:=Ae (And.intro lg lb);have z1:=K1.out.size;clear k2 g2 lg lb s0 s1 s2 s3;have hmk:∀W:World,(Instr.makeMap 197 none).run prog W= .ok (.map (some W.heap.size)) (W.alloc (.map #[] 0)):=fun W=>by simp [Instr.makeMap]
 go_wp2;go_ret2;obtain⟨M,hM⟩:=ex W2.heap.size;have z2:=K2.out.size;have hgl:=G2.out.r.lt;have o3:=((World.ownsMap_made W2 prog 3 (plainElem (H:=Unit) prog 3)).alloc (.cells #[.slice gb s.nv s.nv, .map (some W2.heap.size), .bool false] 199));have b3:AF ((W2.alloc (.map #[] 0)).alloc (.cells #[.slice gb s.nv s.nv, .map (some W2.heap.size), .bool false] 199)) (M+1) 199 [.slice gb s.nv s.nv, .map (some W2.heap.size), .bool false]:=by
  have h:=AF.new (W2.alloc (.map #[] 0)) [.slice gb s.nv s.nv, .map (some W2.heap.size), .bool false] 199;rw [Ay,hM] at h;rw [hM];exact h
 have k3:AJ W2 ((W2.alloc (.map #[] 0)).alloc (.cells #[.slice gb s.nv s.nv, .map (some W2.heap.size), .bool false] 199)):=((kx_).alloc _).alloc _;have old:∀j,Lk s ⟨M+1,M,gb,s.nv,ao,cp⟩ j->j<M∧w.heap.size<=j:=fun j h=>by
  rcases h with h | ⟨i,hi,hm,e⟩
  . have h:j=gb:=h;exact⟨by omega,by have:=LB.out.1;omega⟩
  . exact⟨by have:=QE G2.out hi hm e;omega,by have:=LB.out.2 i j hi hm e;omega⟩
 rw [hM] at o3 b3 k3 ⊢;refine⟨⟨M+1,M,gb,s.nv,ao,cp⟩,rfl,K2.out.then_ k3,by show w.heap.size<=M+1;omega,by show w.heap.size<=M;omega,b3,G2.out.new k3,⟨.map [],o3,fun i hi=>rfl⟩,by show M+1≠M;omega,?_,upd_same _ _ _,fun j hj=>?_,trivial⟩
 . show upd (upd lab (M+1) (.obj 8)) M (.obj 9) (M+1)=_;rw [uo_ (by omega),upd_same]
 . obtain⟨h1,h2⟩:=old j hj;show upd (upd lab (M+1) (.obj 8)) M (.obj 9) j=_;rw [uo_ (by omega),uo_ (by omega)];exact HFR.out j h2
end
def ZD (s:AE) (d:Nat):List Nat:=Cr (Ox (fun i=>(s.dv i).nneed) (fun i j=>(s.dv i).need j) s.nv d) d s.nv
def actN (s:AE) (cnt:Nat->Nat):Nat->Nat->Bool
 | 0,_=>false
 | k+1,i=>actN s cnt k i||(decide (0<cnt k)&&(decide (i=k)||decide (i ∈ ZD s k)))
def PC (w:World) (s:AE) (f:Nat->Bool) (e:Ending) (w':World):Prop:=∃b,e= .returned (.slice (some ⟨b,0,none⟩) s.nv s.nv)∧AJ w w'∧w'.rowIs b 4 s.nv (fun i=> .bool (f i))∧w.heap.size<=b
section
variable {w:World} {lab:Nat->Lb} {s:AE} {b:Cb} {n:Nat} {cnt:Nat->Nat}
theorem Mo (h:A7 w lab s b n cnt true):Calls prog 340 #[.pointer b.C] w (PC w s fun _=>false):=by
 have hf:=h.g.few;have c0:=h.c.z 0;have c2:=h.c.z 2;have lC:=h.c.lt;have hm:=fun(W:World)=>run_make_row' (P:=prog) 115 4 (.bool false) 1 underlying115 GX rfl .i64 .i64 s.nv (by omega) (by omega) W;clear h;go_in;go_wp2;go_ret;exact⟨_,rfl,(AD.refl _ w).alloc _,CV w (.bool false) s.nv 4,al11_ _⟩
theorem Ow (h:A7 w lab s b n cnt false):Calls prog 340 #[.pointer b.C] w (PC w s (actN s cnt s.nv)):=by
 have hf:=h.g.few;have c0:=h.c.z 0;have c2:=h.c.z 2;have lC:=h.c.lt;have hm:=fun(W:World)=>run_make_row' (P:=prog) 115 4 (.bool false) 1 underlying115 GX rfl .i64 .i64 s.nv (by omega) (by omega) W;have H:=Ae h;clear h;go_in;go_wp2_with fail;clear hm c0 c2;obtain⟨M,hM⟩:=ex w.heap.size;obtain⟨w1,hw1⟩:=ex (w.alloc (.cells (madeCells #[.bool false] s.nv) 4));have r1:w1.rowIs M 4 s.nv (fun _=> .bool false):=by rw [<-hw1, <-hM];exact CV w (.bool false) s.nv 4
 have k1:AJ w w1:=by rw [<-hw1];exact(kx_).alloc _
 rw [hw1,hM];have K1:=Ae k1;have R1:=Ae r1;clear hw1 k1 r1;go_loopw [22] (fun i wr=>∃k:Nat,k<=s.nv∧i= .int .i64 k∧AD (fun j=>j=M) w1 wr∧wr.rowIs M 4 s.nv (fun i=> .bool (actN s cnt k i))) (fun i _=>s.nv - (intOf i).toNat);case atStart=>exact⟨0,by omega,rfl,kx_,R1.out⟩
 case round=>
  obtain⟨k,hk,rfl,kw,rw_⟩:=hrel;have KW:AG (AJ w wr):=⟨K1.out.trans kw fun j hj (e:j=M)=>by omega⟩;have K2:=Ae kw;have RW:=Ae rw_;have HW:=Ae (H.out.keep KW.out fun _ _=>id);clear kw rw_;by_cases hlt:k<s.nv
  . have c1:=HW.out.c.z 1;obtain⟨D,hD,hat⟩:=HW.out.m;obtain⟨c,hrun,hc1,_⟩:=hD.lookup_int (t:=197) (Maps.int_keyed underlying3) underlying197 underlying3 (Wi wr) (Ej (i:=k) (by omega));have ec:c=(cnt k:Int):=by
     have h2:=hc1.symm.trans (hat k hlt);simp only [DataW.lit.injEq,Lit.int.injEq,true_and] at h2;exact h2
    subst ec;clear hD hat hc1;by_cases hz:cnt k=0
    . have hle:(cnt k:Int)<=0:=by omega
      have hz':=Ae hz;clear hz;go_wp2;go_roundw;case rel=>exact⟨k+1,by omega,by go_num,K2.out,RW.out.congr fun i _=>by simp [actN,hz'.out]⟩
      case measure=>simp [intOf];omega
    . have hle:¬(cnt k:Int)<=0:=by omega
      have q0:=RW.out.cell hlt;have fq:=RW.out.frozen k;have hz':=Ae hz;have cg:=HW.out.c.z 0;have hCM:¬M=b.C:=by omega
      clear hz;go_wp2_with fail;have k4:AJ w (wr.setCell (M k) (.bool true)):=KW.out.trans (keeps_set _) fun j hj (e:j=M)=>by omega
      have r4:=RW.out.set k (.bool true);have hzM:=RW.out.lt;refine(QG (H.out.g.new k4) k hlt).mono ?_;rintro z w5 ⟨a,c5,rfl,k5,o5⟩;obtain⟨L,hL⟩:=ex (ZD s k);have hL':Cr (Ox (fun i=>(s.dv i).nneed) (fun i j=>(s.dv i).need j) s.nv k) k s.nv=L:=hL;rw [hL'] at o5 ⊢;have LL:AG (∀u ∈ L,u<s.nv):=⟨fun u hu=>by
       rw [<-hL'] at hu;exact List.mem_range.1 (List.mem_filter.1 hu).1⟩
      have HL:=Ae hL;have O5:=Ae o5;have R5:=Ae (rowIs_keep r4 k5 id);have K5:AG (AD (fun j=>j=M) w1 w5):=⟨(K2.out.trans (keeps_set _) fun j _ e=>e).trans (k5.mono fun j e=>e.elim) fun j _ e=>e⟩;have z5:=k5.size;simp only [Fg] at z5;have hLn:L.length<=s.nv:=by rw [<-hL'];exact L7 _ _ _
      clear k4 r4 k5 o5 hL hL' q0 fq c1 cg hrun;go_wp2;go_loopw [46] (fun i wr=>∃q:Nat,q<=L.length∧i= .int .i64 q∧AD (fun j=>j=M) w5 wr∧wr.rowIs M 4 s.nv (fun i=> .bool (actN s cnt k i||(decide (i=k)||decide (i ∈ L.take q))))) (fun i _=>L.length - (intOf i).toNat);case atStart=>exact⟨0,by omega,rfl,kx_,R5.out.congr fun i _=>by by_cases e:i=k <;> simp [e]⟩
      case round=>
       obtain⟨q,hq,rfl,kq,rq⟩:=hrel;have KQ:=Ae kq;have RQ:=Ae rq;clear kq rq;by_cases hlq:q<L.length
       . have ho:=O5.out;obtain⟨g,cx,hv,hb5,hg5⟩:=ho.form (by omega);injection hv with e1 e2 e3;subst e1;have hc:=World.ownsRow.cells ho (g:=g) rfl q (.int .i64 ((L[q]:Nat):Int)) (by simp [Il,hlq]);rw [Af,Ag] at hc;simp only [Fg] at hb5;have b0:_=some (Value.int .i64 ((L[q]:Nat):Int)):=(KQ.out.cell (p:=(g q)) hg5 (by show¬g=M;omega)).trans hc;have hu:=LL.out _ (List.getElem_mem hlq);have TK:AG (L.take (q+1)=L.take q++[L[q]]):=⟨by rw [List.take_succ_eq_append_getElem hlq]⟩;obtain⟨u,huu⟩:=ex (L[q]);rw [huu] at b0 hu TK;have q0:=RQ.out.cell hu;have fq:=RQ.out.frozen u;clear ho hc huu e2 e3;go_wp2;go_roundw;case rel=>exact⟨q+1,by omega,by go_num,KQ.out.t (keeps_set _),(RQ.out.set u (.bool true)).congr fun i _=>by rw [TK.out];by_cases e:i=u <;> simp [e]⟩
         case measure=>simp [intOf];omega
       . have eq:q=L.length:=by omega
         have EQ:=Ae eq;clear eq;go_wp2;go_roundw;case rel=>
          refine⟨k+1,by omega,by go_num,K5.out.trans KQ.out (fun j _ e=>e),RQ.out.congr fun i _=>?_⟩;have hp:0<cnt k:=by have:=hz'.out;omega
          rw [EQ.out,List.take_length];simp [actN,HL.out,hp]
         case measure=>simp [intOf];omega
  . have ek:k=s.nv:=by omega
    subst ek;go_wp2;go_ret;exact⟨M,rfl,KW.out,RW.out,by omega⟩
end
end Go.Proofs.YtpekoejdnhaohaaGreatDoor
