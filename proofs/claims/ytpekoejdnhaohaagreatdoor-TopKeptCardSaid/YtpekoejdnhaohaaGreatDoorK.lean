/- What the making of tree and lines leaves; what the hardware answers when it is asked. For every hardware in memory. -/
import Derived.Test.YtpekoejdnhaohaaGreatDoorF
import Derived.Test.YtpekoejdnhaohaaGreatDoorG
import Derived.Test.YtpekoejdnhaohaaGreatDoorI
namespace Go.Proofs.YtpekoejdnhaohaaGreatDoor
open Go.RowKit Tryz
set_option maxRecDepth 100000
set_option maxHeartbeats 40000000
set_option linter.all false
variable {s:AE} {args:Array Value} {r:Bool} {v:Bx} {f:FuncId} {S:Nat->Prop} {P:Program} {W w w':World}
section
attribute [local go_sem] BI Fx
def Nd.new (c:Ck) (fb fc:Nat):Nd:=⟨c.kind,fb,c.m,fc,c.src,c.rate,c.mul,c.div,c.lock,false,if c.kind=112 then c.lock else 0,0,0,if c.kind=100 then c.div else 0⟩
theorem xF:inf_ prog 172=some (some (.agg #[.int .u8 0, .slice none 0 0, .int .u64 0, .int .i64 0, .int .i64 0, .int .i64 0, .bool false, .int .i64 0, .int .i64 0, .int .i64 0, .int .i64 0]),11,104):=by kernel_rfl
def yW (w:World) (s:AE) (e:Ending) (w':World):Prop:=
 ∃T gn cap,∃fb fc:Nat->Nat,e= .returned (.tuple #[.pointer (some ⟨T,0,none⟩), .int .i64 0])∧AJ w w'∧AX w' T gn s.nc cap (fun i=>Nd.new (s.ck i) (fb i) (fc i))∧w.heap.size<=T∧w.heap.size<=gn∧∀i,i<s.nc->0<(s.ck i).m->w.heap.size<=fb i
theorem JF (c:Ck) (fb fc:Nat):(List.range 11).map (fun j=>(Nd.new c fb fc).cells j)=[.int .u8 c.kind,Aa fb c.m fc, .int .u64 c.rate, .int .i64 c.mul, .int .i64 c.div, .int .i64 c.lock, .bool false, .int .i64 (if c.kind=112 then c.lock else 0), .int .i64 0, .int .i64 0, .int .i64 (if c.kind=100 then c.div else 0)]:=rfl
theorem U4 {T gn cap:Nat} (hs:s.Ok) (ha:A6 w v s) (k:AD (· =T) w w') (t:AF w' T 170 [.slice gn s.nc cap]) (r:Al w' gn 172 11 s.nc (fun i j=>(Nd.new (s.ck i) (v.fb i) (v.fc i)).cells j)) (t0:AF w T 170 [.slice none 0 0]) (hB:w.heap.size<=gn):
 AX w' T gn s.nc cap (fun i=>Nd.new (s.ck i) (v.fb i) (v.fc i)):=by
 have tl:=t0.lt;refine⟨t,r,by omega,by have:=hs.c2;omega,fun i hi hm=>?_,fun i hi hm=>?_,fun i hi j hj=>(hs.ck i hi).less j hj,fun i hi hm=>⟨hm,by have:=(hs.ck i hi).few;show(s.ck i).m<=6;omega⟩⟩
 . have q:=ha.src i hi hm;have hne:v.fb i≠T:=fun e=>Bj t0 q (by omega) e.symm;have q':=q.keep k hne;exact⟨q'.lt,fun j hj=>by have h:=q'.cell j 0 hj (by omega);rw [Nat.mul_one,Nat.add_zero] at h;exact h⟩
 . have q:=ha.src i hi hm;exact⟨fun e=>Bj t0 q (by omega) e.symm,fun e=>by have:=q.lt;have e':v.fb i=gn:=e;omega⟩
theorem xP (a b c d:Option Addr) (n1 n2 n3 n4 c1 c2 c3 c4:Nat) (w:World):(Instr.field 30 (.agg #[.slice a n1 c1, .slice b n2 c2, .slice c n3 c3, .slice d n4 c4]) 0).run prog w= .ok (.slice a n1 c1) w:=by kernel_rfl
theorem Ws (hs:s.Ok) (ha:A6 w v s):Calls prog 23 #[.agg (BI v s)] w (yW w s):=by
 obtain⟨i0,KI,KZ0,KZ1,KZ2⟩:=ik_ xF;have hn:=hs.c2;have hn1:=hs.c1;have HS:=Ae hs;have HA:=Ae ha;have HB:=Ae (Aj (w:=w) s v);have KB:=Ae ((nr w).alloc (.cells (BI v s) 30));clear hs ha;go_in;go_wp2_with fail;refine(CP HS.out (HA.out.new KB.out)).mono ?_;rintro z' w1 ⟨rfl,k1⟩;have HB1:=HB.out.keep k1 id;have l1:w.heap.size<w1.heap.size:=by have:=k1.size;simp at this;omega
 have K1:=Ae (KB.out.then_ k1);have s0:=cv_ (.slice (some (v.cb 0)) s.nc v.cc) (HB1.cell 0);have s1:=cv_ (.slice (some (v.db 0)) s.nd v.dc) (HB1.cell 1);have s2:=cv_ (.slice (some (v.rb 0)) s.nr v.rc) (HB1.cell 2);have s3:=cv_ (.slice (some (v.vb 0)) s.nv v.vc) (HB1.cell 3);clear k1 HB1;go_wp2_with fail;obtain⟨T,hT⟩:=ex w1.heap.size;obtain⟨W0,hW0⟩:=ex (w1.alloc (.cells #[.slice none 0 0] 170));have B0:=AF.new w1 [.slice none 0 0] 170;have K0:=K1.out.alloc (.cells #[.slice none 0 0] 170);have hlow:w.heap.size<=T:=by omega
 rw [hT] at B0;rw [hW0] at B0 K0;rw [hW0,hT];refine(JT HS.out (HA.out.new K0)).mono ?_;rintro z' w2 ⟨v',rfl,k2,a2,low⟩;have B2:=Ae (B0.keep k2 id);have K2:=Ae (K0.then_ k2);have A2:=Ae a2;have LW:=Ae low;have lT:W0.heap.size=T+1:=by rw [<-hW0, <-hT];simp
 have KT:=Ae k2.size;clear B0 K0 hW0 hT s0 s1 s2 s3 k2 a2 low;have hfd:=fun W=>xP (some (v'.cb 0)) (some (v'.db 0)) (some (v'.rb 0)) (some (v'.vb 0)) s.nc s.nd s.nr s.nv v'.cc v'.dc v'.rc v'.vc W;go_wp2_with fail;clear hfd;go_loopw [20] (fun i wr=>∃k:Nat,k<=s.nc∧i= .int .i64 k∧AD (· =T) w2 wr∧∃a c,AF wr T 170 [.slice a k c]∧wr.ownsRow w2.heap.size 172 11 (.slice a k c) k (Av k 11 (fun i j=>(Nd.new (s.ck i) (v'.fb i) (v'.fc i)).cells j))) (fun i _=>s.nc - (intOf i).toNat);case atStart=>exact⟨0,by omega,rfl,kx_,none,0,B2.out,Gs⟩
 case round=>
  obtain⟨k,hk,rfl,kp,a,c,bp,op⟩:=hrel;have KP:=Ae kp;have BP:=Ae bp;have OP:=Ae op;clear op;by_cases hlt:k<s.nc
  . have R:=A2.out.keep kp (fun b hb e=>by subst e;exact FK A2.out B2.out (by decide) _ hb rfl);have hTl:=bp.lt;obtain⟨ao,cq,es⟩:=AO (v'.fb k) (s.ck k).m (v'.fc k);have c0:wr.cell? (v'.cb (k*6))=some (.int .u8 (s.ck k).kind):=R.ck.cell k 0 hlt (by omega);have c1:wr.cell? (v'.cb (k*6+1))=some (.slice ao (s.ck k).m cq):=(R.ck.cell k 1 hlt (by omega)).trans (congrArg some es);have c2:wr.cell? (v'.cb (k*6+2))=some (.int .u64 (s.ck k).rate):=R.ck.cell k 2 hlt (by omega);have c3:wr.cell? (v'.cb (k*6+3))=some (.int .i64 (s.ck k).mul):=R.ck.cell k 3 hlt (by omega);have c4:wr.cell? (v'.cb (k*6+4))=some (.int .i64 (s.ck k).div):=R.ck.cell k 4 hlt (by omega);have c5:wr.cell? (v'.cb (k*6+5))=some (.int .i64 (s.ck k).lock):=R.ck.cell k 5 hlt (by omega);have ES:=Ae es;clear kp bp R es;obtain⟨d,hd⟩:=ex (s.ck k);have HD:=Ae hd;rw [hd] at c0 c1 c2 c3 c4 c5;clear hd;obtain⟨B,hB⟩:=ex wr.heap.size;have hTB:T<B:=by omega
    have hT2:T<w2.heap.size:=by have:=KT.out;omega
    have hKP:=KP.out.size;clear lT KT;by_cases k1:d.kind=112
    . have k2:¬d.kind=100:=by omega
      go_wp2_with fail;clear c0 c1 c2 c3 c4 c5;obtain⟨W,hW⟩:∃W,(wr.alloc (.cells #[.int .u8 112, .slice ao d.m cq, .int .u64 d.rate, .int .i64 d.mul, .int .i64 d.div, .int .i64 d.lock] 62)).alloc (.cells #[.int .u8 112, .slice ao d.m cq, .int .u64 d.rate, .int .i64 d.mul, .int .i64 d.div, .int .i64 d.lock, .bool false, .int .i64 d.lock, .int .i64 0, .int .i64 0, .int .i64 0] 172)=W:=⟨_,rfl⟩;have BB:=AF.new (wr.alloc (.cells #[.int .u8 112, .slice ao d.m cq, .int .u64 d.rate, .int .i64 d.mul, .int .i64 d.div, .int .i64 d.lock] 62)) [.int .u8 112, .slice ao d.m cq, .int .u64 d.rate, .int .i64 d.mul, .int .i64 d.div, .int .i64 d.lock, .bool false, .int .i64 d.lock, .int .i64 0, .int .i64 0, .int .i64 0] 172;have KA:=((nr wr).alloc (.cells #[.int .u8 112, .slice ao d.m cq, .int .u64 d.rate, .int .i64 d.mul, .int .i64 d.div, .int .i64 d.lock] 62)).alloc (.cells #[.int .u8 112, .slice ao d.m cq, .int .u64 d.rate, .int .i64 d.mul, .int .i64 d.div, .int .i64 d.lock, .bool false, .int .i64 d.lock, .int .i64 0, .int .i64 0, .int .i64 0] 172);have hW':(wr.alloc (.cells #[.int .u8 112, .slice ao d.m cq, .int .u64 d.rate, .int .i64 d.mul, .int .i64 d.div, .int .i64 d.lock] 62)).alloc (.cells [.int .u8 112, .slice ao d.m cq, .int .u64 d.rate, .int .i64 d.mul, .int .i64 d.div, .int .i64 d.lock, .bool false, .int .i64 d.lock, .int .i64 0, .int .i64 0, .int .i64 0].toArray 172)=W:=hW;rw [hW',Ay,hB] at BB;rw [hW] at KA;rw [hW];have KA:=Ae KA;have hBW:=BB.lt;have hGW:T<W.heap.size:=by omega
      have x0:=BB.z 0;have x1:=BB.z 1;have x2:=BB.z 2;have x3:=BB.z 3;have x4:=BB.z 4;have x5:=BB.z 5;have x6:=BB.z 6;have x7:=BB.z 7;have x8:=BB.z 8;have x9:=BB.z 9;have x10:=BB.z 10;have EN:AG ([.int .u8 112, .slice ao d.m cq, .int .u64 d.rate, .int .i64 d.mul, .int .i64 d.div, .int .i64 d.lock, .bool false, .int .i64 d.lock, .int .i64 0, .int .i64 0, .int .i64 0]=(List.range 11).map fun j=>(Nd.new (s.ck k) (v'.fb k) (v'.fc k)).cells j):=⟨by rw [JF,ES.out,HD.out];first | rw [if_pos k1,if_neg k2,k1] | rw [if_neg k1,if_pos k2,k2] | rw [if_neg k1,if_neg k2]⟩;have BG:=Ae (BP.out.keep KA.out id);have cg:=BG.out.z 0;have fg:=BG.out.frozen 0;have OW:=Ae (BN OP.out KA.out (fun _ _=>id));clear hW hW' BB;go_region_law (refine step_append_lies _ rfl (.tmp 42) (.tmp 44) 168 rfl w2.heap.size 172 i0 _ 11 104 underlying168 KI.out KZ0.out KZ1.out KZ2.out rfl (by decide) (.slice a k c) k (Av k 11 (fun i j=>(Nd.new (s.ck i) (v'.fb i) (v'.fc i)).cells j)) (by simp [Act.eval]) (OW.out.alloc _).drew (W.heap.size 0) 1 1 [.int .u8 112, .slice ao d.m cq, .int .u64 d.rate, .int .i64 d.mul, .int .i64 d.div, .int .i64 d.lock, .bool false, .int .i64 d.lock, .int .i64 0, .int .i64 0, .int .i64 0] (by simp [Act.eval]) rfl (Gt W _ _ _ rfl) (by simp [Value.oneCell']) (by omega) (by unfold maxLen;omega) (by omega) (by simp;omega) _ rfl ?_;intro g cp w5 own5 grow5 hat5 hlt5;have hk5:=(((AD.refl (fun j=>w2.heap.size<=j) W).alloc (.cells #[.int .u8 112, .slice ao d.m cq, .int .u64 d.rate, .int .i64 d.mul, .int .i64 d.div, .int .i64 d.lock, .bool false, .int .i64 d.lock, .int .i64 0, .int .i64 0, .int .i64 0] 172)).drew).grown grow5 (fun j e _=>(OW.out.lt j e).1);have BG5:=BG.out.keep hk5 (by omega);have cg5:w5.cell? (T 0)=some (.slice a k c):=BG5.cell 0;have fg5:w5.frozen? (T 0)=false:=BG5.frozen 0;have K5:=Ae hk5;have B5:=Ae BG5;have O5:=Ae own5;have hg5:w2.heap.size<=g:=Ij own5;clear own5 grow5 hat5 hk5 BG5)
      all_goals go_wp2_with fail
      all_goals go_roundw
      all_goals first | (simp [intOf];omega;done) | skip
      all_goals refine⟨k+1,by omega,by go_num,?_,some (g 0),cp,?_,?_⟩
      all_goals have hsz:=KP.out.size
      all_goals have hgG:g≠T:=by omega
      all_goals first
       | exact((KP.out.then_ (KA.out.mono (fun _ h=>h.elim))).trans K5.out (fun i hi e=>absurd hi (by omega))).trans (keeps_set _) (fun i hi e=>e)
       | exact B5.out.set 0 _
       | (rw [BM, <-EN.out];exact Gq O5.out hgG)
    . by_cases k2:d.kind=100
      . skip
        go_wp2_with fail;clear c0 c1 c2 c3 c4 c5;obtain⟨W,hW⟩:=ex ((wr.alloc (.cells #[.int .u8 100, .slice ao d.m cq, .int .u64 d.rate, .int .i64 d.mul, .int .i64 d.div, .int .i64 d.lock] 62)).alloc (.cells #[.int .u8 100, .slice ao d.m cq, .int .u64 d.rate, .int .i64 d.mul, .int .i64 d.div, .int .i64 d.lock, .bool false, .int .i64 0, .int .i64 0, .int .i64 0, .int .i64 d.div] 172));have BB:=AF.new (wr.alloc (.cells #[.int .u8 100, .slice ao d.m cq, .int .u64 d.rate, .int .i64 d.mul, .int .i64 d.div, .int .i64 d.lock] 62)) [.int .u8 100, .slice ao d.m cq, .int .u64 d.rate, .int .i64 d.mul, .int .i64 d.div, .int .i64 d.lock, .bool false, .int .i64 0, .int .i64 0, .int .i64 0, .int .i64 d.div] 172;have KA:=((nr wr).alloc (.cells #[.int .u8 100, .slice ao d.m cq, .int .u64 d.rate, .int .i64 d.mul, .int .i64 d.div, .int .i64 d.lock] 62)).alloc (.cells #[.int .u8 100, .slice ao d.m cq, .int .u64 d.rate, .int .i64 d.mul, .int .i64 d.div, .int .i64 d.lock, .bool false, .int .i64 0, .int .i64 0, .int .i64 0, .int .i64 d.div] 172);have hW':(wr.alloc (.cells #[.int .u8 100, .slice ao d.m cq, .int .u64 d.rate, .int .i64 d.mul, .int .i64 d.div, .int .i64 d.lock] 62)).alloc (.cells [.int .u8 100, .slice ao d.m cq, .int .u64 d.rate, .int .i64 d.mul, .int .i64 d.div, .int .i64 d.lock, .bool false, .int .i64 0, .int .i64 0, .int .i64 0, .int .i64 d.div].toArray 172)=W:=hW;rw [hW',Ay,hB] at BB;rw [hW] at KA;rw [hW];have KA:=Ae KA;have hBW:=BB.lt;have hGW:T<W.heap.size:=by omega
        have x0:=BB.z 0;have x1:=BB.z 1;have x2:=BB.z 2;have x3:=BB.z 3;have x4:=BB.z 4;have x5:=BB.z 5;have x6:=BB.z 6;have x7:=BB.z 7;have x8:=BB.z 8;have x9:=BB.z 9;have x10:=BB.z 10;have EN:AG ([.int .u8 100, .slice ao d.m cq, .int .u64 d.rate, .int .i64 d.mul, .int .i64 d.div, .int .i64 d.lock, .bool false, .int .i64 0, .int .i64 0, .int .i64 0, .int .i64 d.div]=(List.range 11).map fun j=>(Nd.new (s.ck k) (v'.fb k) (v'.fc k)).cells j):=⟨by rw [JF,ES.out,HD.out];first | rw [if_pos k1,if_neg k2,k1] | rw [if_neg k1,if_pos k2,k2] | rw [if_neg k1,if_neg k2]⟩;have BG:=Ae (BP.out.keep KA.out id);have cg:=BG.out.z 0;have fg:=BG.out.frozen 0;have OW:=Ae (BN OP.out KA.out (fun _ _=>id));clear hW hW' BB;go_region_law (refine step_append_lies _ rfl (.tmp 42) (.tmp 44) 168 rfl w2.heap.size 172 i0 _ 11 104 underlying168 KI.out KZ0.out KZ1.out KZ2.out rfl (by decide) (.slice a k c) k (Av k 11 (fun i j=>(Nd.new (s.ck i) (v'.fb i) (v'.fc i)).cells j)) (by simp [Act.eval]) (OW.out.alloc _).drew (W.heap.size 0) 1 1 [.int .u8 100, .slice ao d.m cq, .int .u64 d.rate, .int .i64 d.mul, .int .i64 d.div, .int .i64 d.lock, .bool false, .int .i64 0, .int .i64 0, .int .i64 0, .int .i64 d.div] (by simp [Act.eval]) rfl (Gt W _ _ _ rfl) (by simp [Value.oneCell']) (by omega) (by unfold maxLen;omega) (by omega) (by simp;omega) _ rfl ?_;intro g cp w5 own5 grow5 hat5 hlt5;have hk5:=(((AD.refl (fun j=>w2.heap.size<=j) W).alloc (.cells #[.int .u8 100, .slice ao d.m cq, .int .u64 d.rate, .int .i64 d.mul, .int .i64 d.div, .int .i64 d.lock, .bool false, .int .i64 0, .int .i64 0, .int .i64 0, .int .i64 d.div] 172)).drew).grown grow5 (fun j e _=>(OW.out.lt j e).1);have BG5:=BG.out.keep hk5 (by omega);have cg5:w5.cell? (T 0)=some (.slice a k c):=BG5.cell 0;have fg5:w5.frozen? (T 0)=false:=BG5.frozen 0;have K5:=Ae hk5;have B5:=Ae BG5;have O5:=Ae own5;have hg5:w2.heap.size<=g:=Ij own5;clear own5 grow5 hat5 hk5 BG5)
        all_goals go_wp2_with fail
        all_goals go_roundw
        all_goals first | (simp [intOf];omega;done) | skip
        all_goals refine⟨k+1,by omega,by go_num,?_,some (g 0),cp,?_,?_⟩
        all_goals have hsz:=KP.out.size
        all_goals have hgG:g≠T:=by omega
        all_goals first
         | exact((KP.out.then_ (KA.out.mono (fun _ h=>h.elim))).trans K5.out (fun i hi e=>absurd hi (by omega))).trans (keeps_set _) (fun i hi e=>e)
         | exact B5.out.set 0 _
         | (rw [BM, <-EN.out];exact Gq O5.out hgG)
      . skip
        go_wp2_with fail;clear c0 c1 c2 c3 c4 c5;obtain⟨W,hW⟩:=ex ((wr.alloc (.cells #[.int .u8 d.kind, .slice ao d.m cq, .int .u64 d.rate, .int .i64 d.mul, .int .i64 d.div, .int .i64 d.lock] 62)).alloc (.cells #[.int .u8 d.kind, .slice ao d.m cq, .int .u64 d.rate, .int .i64 d.mul, .int .i64 d.div, .int .i64 d.lock, .bool false, .int .i64 0, .int .i64 0, .int .i64 0, .int .i64 0] 172));have BB:=AF.new (wr.alloc (.cells #[.int .u8 d.kind, .slice ao d.m cq, .int .u64 d.rate, .int .i64 d.mul, .int .i64 d.div, .int .i64 d.lock] 62)) [.int .u8 d.kind, .slice ao d.m cq, .int .u64 d.rate, .int .i64 d.mul, .int .i64 d.div, .int .i64 d.lock, .bool false, .int .i64 0, .int .i64 0, .int .i64 0, .int .i64 0] 172;have KA:=((nr wr).alloc (.cells #[.int .u8 d.kind, .slice ao d.m cq, .int .u64 d.rate, .int .i64 d.mul, .int .i64 d.div, .int .i64 d.lock] 62)).alloc (.cells #[.int .u8 d.kind, .slice ao d.m cq, .int .u64 d.rate, .int .i64 d.mul, .int .i64 d.div, .int .i64 d.lock, .bool false, .int .i64 0, .int .i64 0, .int .i64 0, .int .i64 0] 172);have hW':(wr.alloc (.cells #[.int .u8 d.kind, .slice ao d.m cq, .int .u64 d.rate, .int .i64 d.mul, .int .i64 d.div, .int .i64 d.lock] 62)).alloc (.cells [.int .u8 d.kind, .slice ao d.m cq, .int .u64 d.rate, .int .i64 d.mul, .int .i64 d.div, .int .i64 d.lock, .bool false, .int .i64 0, .int .i64 0, .int .i64 0, .int .i64 0].toArray 172)=W:=hW;rw [hW',Ay,hB] at BB;rw [hW] at KA;rw [hW];have KA:=Ae KA;have hBW:=BB.lt;have hGW:T<W.heap.size:=by omega
        have x0:=BB.z 0;have x1:=BB.z 1;have x2:=BB.z 2;have x3:=BB.z 3;have x4:=BB.z 4;have x5:=BB.z 5;have x6:=BB.z 6;have x7:=BB.z 7;have x8:=BB.z 8;have x9:=BB.z 9;have x10:=BB.z 10;have EN:AG ([.int .u8 d.kind, .slice ao d.m cq, .int .u64 d.rate, .int .i64 d.mul, .int .i64 d.div, .int .i64 d.lock, .bool false, .int .i64 0, .int .i64 0, .int .i64 0, .int .i64 0]=(List.range 11).map fun j=>(Nd.new (s.ck k) (v'.fb k) (v'.fc k)).cells j):=⟨by rw [JF,ES.out,HD.out];first | rw [if_pos k1,if_neg k2,k1] | rw [if_neg k1,if_pos k2,k2] | rw [if_neg k1,if_neg k2]⟩;have BG:=Ae (BP.out.keep KA.out id);have cg:=BG.out.z 0;have fg:=BG.out.frozen 0;have OW:=Ae (BN OP.out KA.out (fun _ _=>id));clear hW hW' BB;go_region_law (refine step_append_lies _ rfl (.tmp 42) (.tmp 44) 168 rfl w2.heap.size 172 i0 _ 11 104 underlying168 KI.out KZ0.out KZ1.out KZ2.out rfl (by decide) (.slice a k c) k (Av k 11 (fun i j=>(Nd.new (s.ck i) (v'.fb i) (v'.fc i)).cells j)) (by simp [Act.eval]) (OW.out.alloc _).drew (W.heap.size 0) 1 1 [.int .u8 d.kind, .slice ao d.m cq, .int .u64 d.rate, .int .i64 d.mul, .int .i64 d.div, .int .i64 d.lock, .bool false, .int .i64 0, .int .i64 0, .int .i64 0, .int .i64 0] (by simp [Act.eval]) rfl (Gt W _ _ _ rfl) (by simp [Value.oneCell']) (by omega) (by unfold maxLen;omega) (by omega) (by simp;omega) _ rfl ?_;intro g cp w5 own5 grow5 hat5 hlt5;have hk5:=(((AD.refl (fun j=>w2.heap.size<=j) W).alloc (.cells #[.int .u8 d.kind, .slice ao d.m cq, .int .u64 d.rate, .int .i64 d.mul, .int .i64 d.div, .int .i64 d.lock, .bool false, .int .i64 0, .int .i64 0, .int .i64 0, .int .i64 0] 172)).drew).grown grow5 (fun j e _=>(OW.out.lt j e).1);have BG5:=BG.out.keep hk5 (by omega);have cg5:w5.cell? (T 0)=some (.slice a k c):=BG5.cell 0;have fg5:w5.frozen? (T 0)=false:=BG5.frozen 0;have K5:=Ae hk5;have B5:=Ae BG5;have O5:=Ae own5;have hg5:w2.heap.size<=g:=Ij own5;clear own5 grow5 hat5 hk5 BG5)
        all_goals go_wp2_with fail
        all_goals go_roundw
        all_goals first | (simp [intOf];omega;done) | skip
        all_goals refine⟨k+1,by omega,by go_num,?_,some (g 0),cp,?_,?_⟩
        all_goals have hsz:=KP.out.size
        all_goals have hgG:g≠T:=by omega
        all_goals first
         | exact((KP.out.then_ (KA.out.mono (fun _ h=>h.elim))).trans K5.out (fun i hi e=>absurd hi (by omega))).trans (keeps_set _) (fun i hi e=>e)
         | exact B5.out.set 0 _
         | (rw [BM, <-EN.out];exact Gq O5.out hgG)
  . have HK:=Ae (show s.nc=k by omega);clear kp bp;go_wp2;go_ret2;have hk':=HK.out;obtain⟨gn,e1,r,hb⟩:=A5 OP.out (by omega);rw [e1] at BP;rw [<-hk'] at r BP;have z2:=K2.out.size;exact⟨T,gn,c,v'.fb,v'.fc,rfl,K2.out.trans KP.out (fun i hi e=>by omega),U4 HS.out A2.out KP.out BP.out r B2.out hb,hlow,by omega,fun i hi hm=>by have:=LW.out _ (.inr (.inr (.inr (.inr (.inl ⟨i,hi,hm,rfl⟩)))));omega⟩
end
section
attribute [local go_sem] BI Fx
def Ln.new (r:Int):Ln:=⟨r,0,true,false⟩
theorem LJ (n:Int) (w:World):(Instr.makeMap 178 (some (.int .i64 n))).run prog w= .ok (.map (some w.heap.size)) (w.alloc (.map #[] 0)):=by
 simp [Instr.makeMap,run_underlying underlying178,asInt,asIntOf,Result.andThen]
structure ZM (D:DataW Unit) (k:Nat) (ls:Nat->Ln):Prop where
 d:Wa D k ls
 no:∀j,k<=j->Maps.has D (lk j)=false
theorem lnsK_zero (ls:Nat->Ln):ZM (.map []) 0 ls:=⟨⟨Maps.tidy_empty,rfl,fun i h=>by omega,fun i h=>by omega⟩,fun j _=>rfl⟩
theorem ZM.add {D:DataW Unit} {k:Nat} {ls:Nat->Ln} (h:ZM D k ls):ZM (D.put (lk k) (lnDat (ls k))) (k+1) ls:=by
 obtain⟨es,he,hp⟩:=h.d.tidy;have hm:Maps.IsMap D:=⟨es,he⟩;refine⟨⟨h.d.tidy.put (GV k) _,by rw [Maps.size_put h.d.tidy,h.no k (al11_ _),h.d.size];rfl,fun j hj=>?_,fun j hj z=>?_⟩,fun j hj=>?_⟩
 . by_cases e:j=k
   . subst e;exact Maps.has_put_same hm (GV _) _
   . rw [Maps.has_put_other (Ja e)];exact h.d.has j (by omega)
 . by_cases e:j=k
   . subst e;rw [Maps.atKey_put_same hm (GV _)]
   . rw [Maps.atKey_put_other (Ja e)];exact h.d.look j (by omega) z
 . rw [Maps.has_put_other (Ja (by omega))];exact h.no j (by omega)
def ZN (w:World) (s:AE) (e:Ending) (w':World):Prop:=
 ∃L mb,e= .returned (.tuple #[.pointer (some ⟨L,0,none⟩), .int .i64 0])∧AJ w w'∧Bc w' L mb s.nr (fun i=>Ln.new (s.rs i))∧w.heap.size<=L∧w.heap.size<=mb
theorem VH (hs:s.Ok) (ha:A6 w v s):Calls prog 25 #[.agg (BI v s)] w (ZN w s):=by
 have hn:=hs.r2;have hn1:=hs.r1;have HS:=Ae hs;have HA:=Ae ha;have HB:=Ae (Aj (w:=w) s v);have KB:=Ae ((nr w).alloc (.cells (BI v s) 30));clear hs ha;go_in;go_wp2_with fail;refine(CP HS.out (HA.out.new KB.out)).mono ?_;rintro z' w1 ⟨rfl,k1⟩;have s1:=(HB.out.keep k1 id).z 2;have l1:w.heap.size<w1.heap.size:=by have:=k1.size;simp at this;omega
 have K1:=Ae (KB.out.then_ k1);clear k1;have hmk:=fun W=>LJ (s.nr:Int) W;go_wp2_with fail;clear hmk;obtain⟨M,hM⟩:=ex w1.heap.size;obtain⟨W0,hW0⟩:=ex ((w1.alloc (.map #[] 0)).alloc (.cells #[.map (some M)] 180));have O0:=(World.ownsMap_made w1 prog 3 CT).alloc (.cells #[.map (some M)] 180);have B0:=AF.new (w1.alloc (.map #[] 0)) [.map (some M)] 180;have K0:=(K1.out.alloc (.map #[] 0)).alloc (.cells #[.map (some M)] 180);have hlow:w.heap.size<=M:=by omega
 have hlow':w.heap.size<M:=by omega
 rw [Ay,hM] at B0;rw [hM,hW0] at O0;rw [hW0] at B0 K0;rw [hM,hW0];have KB0:=Ae B0;have KW0:=Ae K0;have KO0:=Ae (O0.mono (Nat.zero_le 8));clear B0 K0 O0 hW0 hM s1 l1 HB KB K1;go_loopw [22] (fun i wr=>∃k:Nat,k<=s.nr∧i= .int .i64 k∧AJ w wr∧AF wr (M+1) 180 [.map (some M)]∧∃D,wr.ownsMap prog 3 CT M 8 D∧ZM D k (fun i=>Ln.new (s.rs i))) (fun i _=>s.nr - (intOf i).toNat);case atStart=>exact⟨0,by omega,rfl,KW0.out,KB0.out, .map [],KO0.out,lnsK_zero _⟩
 case round=>
  obtain⟨k,hk,rfl,kp,bp,D,op,lp⟩:=hrel;have KP:=Ae kp;have BP:=Ae bp;have OP:=Ae op;have LP:=Ae lp;by_cases hlt:k<s.nr
  . have R:=HA.out.new kp;have c0:wr.cell? (v.rb k)=some (.int .i64 (s.rs k)):=by have:=R.rs.cell k 0 hlt (by omega);rw [Nat.mul_one,Nat.add_zero] at this;exact this
    have lp1:=bp.lt;clear kp bp op lp R;obtain⟨r,hr⟩:=ex (s.rs k);have HD:=Ae hr;rw [hr] at c0;clear hr;go_wp2_with fail;obtain⟨W,hW⟩:=ex (wr.alloc (.cells #[.int .i64 r] 64));have BB:=AF.new wr [.int .i64 r] 64;have KA:=(nr wr).alloc (.cells #[.int .i64 r] 64);have hW':wr.alloc (.cells [.int .i64 r].toArray 64)=W:=hW;have OW:=OP.out.alloc (.cells #[.int .i64 r] 64);rw [hW'] at BB;rw [hW] at KA OW;rw [hW];obtain⟨B,hB⟩:=ex wr.heap.size;rw [hB] at BB;rw [hB];have x0:=BB.z 0;have xm:=(BP.out.keep KA id).z 0;have BW:=Ae (BP.out.keep KA id);have KA:=Ae KA;have OW:=Ae OW;clear hW hW' BB hB lp1;go_still_tail 8,(by kernel_rfl);change wpList _ _ _ _ _ W.drew;clear x0 xm;go_wp2_with (at_mapUpdate;refine wpList_mapUpdate_own _ rfl (.tmp 30) (.tmp 31) (.tmp 34) 178 rfl 3 182 (Maps.int_keyed underlying3) underlying178 CT M 8 D rfl OW.out (by unfold maxLen;omega) _ (II ⟨r,0,true,false⟩) (lk k) rfl rfl (Ej (by omega)) (lnDat ⟨r,0,true,false⟩) [] (Cn ⟨r,0,true,false⟩) ?_;intro w3 own3 grow3;have K3:=Ae (((AD.refl (· =M) W).drew).grown grow3 (fun j e _=>by injection e with e;exact e.symm));have KO3:=Ae own3;clear own3 grow3);go_roundw
    all_goals first | (simp [intOf];omega;done) | skip
    have hA:=LP.out.add;rw [HD.out] at hA;refine⟨k+1,by omega,by go_num,(KP.out.then_ KA.out).trans K3.out (fun i hi e=>by omega),BW.out.keep K3.out (by omega),_,?_,hA⟩;have o3:=KO3.out;have hz:=hA.d.size;unfold Ln.new at hz;exact(IU o3).mono (by rw [hz];omega)
  . have HK:=Ae (show s.nr=k by omega);clear kp bp op lp;go_wp2;go_ret2;have hk':=HK.out;subst hk';refine⟨M+1,M,rfl,KP.out,⟨BP.out,⟨D,?_,LP.out.d⟩,by omega,by omega⟩,by omega,hlow⟩;have o3:=IU OP.out;rw [LP.out.d.size] at o3;exact o3
end
inductive Lb
 | obj (k:Nat)
 | sub (k i:Nat)
deriving DecidableEq
namespace Lb
abbrev hard:Lb:= .obj 1
abbrev tree:Lb:= .obj 2
abbrev grid:Lb:= .obj 3
abbrev lines:Lb:= .obj 4
abbrev bus:Lb:= .obj 5
abbrev que (i:Nat):Lb:= .sub 0 i
abbrev file (i:Nat):Lb:= .sub 1 i
abbrev port (i:Nat):Lb:= .sub 2 i
def isHard:Lb->Bool
 | .obj k=>(1<=k&&k<=5)
 | .sub k _=>k<=2
end Lb
structure Fl where
 now:Nat->Int
 saved:Nat->Int
 kept:Bool
structure Hw where
 ns:Nat->Nd
 ds:Nat->Dm
 ls:Nat->Ln
 fl:Nat->Fl
 ca:Nat->Nat
 cd:Nat->Int
 m:Nat->Nat
 xs:Nat->List Value
 posted:Int
structure Hb where
 H:Nat
 dv:Nat
 vc:Nat
 T:Nat
 gn:Nat
 tc:Nat
 G:Nat
 gd:Nat
 gc:Nat
 L:Nat
 mb:Nat
 B:Nat
 gr:Nat
 gw:Nat
 fb:Nat->Nat
 fn:Nat->Nat
 fs:Nat->Nat
 fa:Nat->Option Addr
 fc:Nat->Nat
 pb:Nat->Nat
def GD (d:Dv) (fb pb:Nat):Nat->Value
 | 0=> .int .i64 d.clock
 | 1=> .int .i64 d.dom
 | 2=> .int .i64 d.line
 | 3=> .int .u32 d.clamp
 | 4=> .pointer fb
 | 5=> .pointer pb
 | _=>undef
abbrev D6 (w:World) (s:AE) (b:Hb) (i:Nat) (f:Fl):Prop:=
 AV w (b.fb i) (b.fn i) (b.fs i) (b.fa i) (s.dv i).nreg (b.fc i) (fun j=>((s.dv i).reg j).reset) (fun j=>((s.dv i).reg j).ret) f.now f.saved f.kept
structure AH (w:World) (lab:Nat->Lb) (s:AE) (b:Hb) (x:Hw):Prop where
 h:AF w b.H 103 [.pointer b.T, .pointer b.G, .pointer b.L, .pointer b.B, .slice b.dv s.nv b.vc]
 d:Al w b.dv 111 6 s.nv (fun i=>GD (s.dv i) (b.fb i) (b.pb i))
 tree:AX w b.T b.gn s.nc b.tc x.ns
 grid:Ah w b.G b.gd s.nd b.gc x.ds
 lines:Bc w b.L b.mb s.nr x.ls
 bus:∃qs,Ab w b.B b.gr b.gw s.nv (fun i=>((s.dv i).nreg:Int)) qs x.posted∧∀i,i<s.nv->El w (qs i) (x.m i) (x.xs i)∧(∀j,(qs i).ownBlock=some j->lab j= .que i∧j<w.heap.size)
 file:∀i,i<s.nv->D6 w s b i (x.fl i)
 port:∀i,i<s.nv->Df w (b.pb i) (x.ca i) (x.cd i)
 lh:lab b.H= .hard∧lab b.dv= .hard
 lt:lab b.T= .tree∧lab b.gn= .tree
 lf:∀i,i<s.nc->0<(x.ns i).m->lab (x.ns i).fb= .tree
 lg:lab b.G= .grid∧lab b.gd= .grid
 ll:lab b.L= .lines∧lab b.mb= .lines
 lb:lab b.B= .bus∧lab b.gr= .bus∧lab b.gw= .bus
 lfile:∀i,i<s.nv->lab (b.fb i)= .file i∧lab (b.fn i)= .file i∧lab (b.fs i)= .file i∧∀j,b.fa i=some ⟨j,0,none⟩->0<(s.dv i).nreg->lab j= .file i
 lport:∀i,i<s.nv->lab (b.pb i)= .port i
theorem AV.keep2 {b bn bs:Nat} {am:Option Addr} {n cm:Nat} {reset:Nat->Int} {ret:Nat->Bool} {now saved:Nat->Int} {kept:Bool} (h:AV w b bn bs am n cm reset ret now saved kept) (k:AD S w w') (h1:¬S b) (h2:¬S bn) (h3:¬S bs) (h4:∀bm,am=some ⟨bm,0,none⟩->0<n->¬S bm):AV w' b bn bs am n cm reset ret now saved kept:=
 ⟨h.f.keep k h1,fun e=>by obtain⟨bm,e1,r,x⟩:=h.made e;exact⟨bm,e1,r.keep k (h4 bm e1 (by omega)),x⟩,rowIs_keep h.now k h2,rowIs_keep h.saved k h3,h.ne1,h.ne2,h.ne3,h.few⟩
namespace AH
variable {w w':World} {lab:Nat->Lb} {s:AE} {b:Hb} {x:Hw}
theorem file_keep (h:AH w lab s b x) (k:AD S w w') (i:Nat) (hi:i<s.nv) (n:∀j,lab j= .file i->¬S j):D6 w' s b i (x.fl i):=
 (h.file i hi).keep2 k (n _ (h.lfile i hi).1) (n _ (h.lfile i hi).2.1) (n _ (h.lfile i hi).2.2.1) fun bm e hp=>n _ ((h.lfile i hi).2.2.2 bm e hp)
theorem port_keep (h:AH w lab s b x) (k:AD S w w') (i:Nat) (hi:i<s.nv) (n:∀j,lab j= .port i->¬S j):Df w' (b.pb i) (x.ca i) (x.cd i):=
 AF.keep (h.port i hi) k (n _ (h.lport i hi))
theorem tree_keep (h:AH w lab s b x) (k:AD S w w') (n:∀j,lab j= .tree->¬S j):AX w' b.T b.gn s.nc b.tc x.ns:=
 h.tree.keep k (n _ h.lt.1) (n _ h.lt.2) fun i hi hm=>n _ (h.lf i hi hm)
theorem grid_keep (h:AH w lab s b x) (k:AD S w w') (n:∀j,lab j= .grid->¬S j):Ah w' b.G b.gd s.nd b.gc x.ds:=h.grid.keep k (n _ h.lg.1) (n _ h.lg.2)
theorem lines_keep (h:AH w lab s b x) (k:AD S w w') (n:∀j,lab j= .lines->¬S j):Bc w' b.L b.mb s.nr x.ls:=h.lines.keep k (n _ h.ll.1) (n _ h.ll.2)
theorem bus_keep (h:AH w lab s b x) (k:AD S w w') (n:∀j,lab j= .bus->¬S j) (nq:∀i j,i<s.nv->lab j= .que i->¬S j):
 ∃qs,Ab w' b.B b.gr b.gw s.nv (fun i=>((s.dv i).nreg:Int)) qs x.posted∧∀i,i<s.nv->El w' (qs i) (x.m i) (x.xs i)∧(∀j,(qs i).ownBlock=some j->lab j= .que i∧j<w'.heap.size):=by
 obtain⟨qs,hb,hq⟩:=h.bus;exact⟨qs,hb.keep k (n _ h.lb.1) (n _ h.lb.2.1) (n _ h.lb.2.2),fun i hi=>⟨(hq i hi).1.keep k fun j e=>nq i j hi ((hq i hi).2 j e).1,fun j e=>⟨((hq i hi).2 j e).1,Bo ((hq i hi).2 j e).2 k.size⟩⟩⟩
theorem keep (h:AH w lab s b x) (k:AD S w w') (n:∀j,(lab j).isHard=true->¬S j):AH w' lab s b x:=
 ⟨h.h.keep k (n _ (by rw [h.lh.1];rfl)),h.d.keep k (n _ (by rw [h.lh.2];rfl)),h.tree_keep k (fun j e=>n j (by rw [e];rfl)),h.grid_keep k (fun j e=>n j (by rw [e];rfl)),h.lines_keep k (fun j e=>n j (by rw [e];rfl)),
  h.bus_keep k (fun j e=>n j (by rw [e];rfl)) (fun i j _ e=>n j (by rw [e];rfl)),fun i hi=>h.file_keep k i hi (fun j e=>n j (by rw [e];rfl)),fun i hi=>h.port_keep k i hi (fun j e=>n j (by rw [e];rfl)),
  h.lh,h.lt,h.lf,h.lg,h.ll,h.lb,h.lfile,h.lport⟩
theorem new (h:AH w lab s b x) (k:AJ w w'):AH w' lab s b x:=h.keep k fun _ _=>id
theorem c0 (h:AH w lab s b x):w.cell? (b.H 0)=some (.pointer b.T):=h.h.cell 0
theorem c1 (h:AH w lab s b x):w.cell? (b.H 1)=some (.pointer b.G):=h.h.cell 1
theorem c2 (h:AH w lab s b x):w.cell? (b.H 2)=some (.pointer b.L):=h.h.cell 2
theorem c3 (h:AH w lab s b x):w.cell? (b.H 3)=some (.pointer b.B):=h.h.cell 3
theorem c4 (h:AH w lab s b x):w.cell? (b.H 4)=some (.slice b.dv s.nv b.vc):=h.h.cell 4
end AH
section
variable {w:World} {lab:Nat->Lb} {s:AE} {b:Hb} {x:Hw}
theorem DU (h:AH w lab s b x):Calls prog 154 #[.pointer b.H] w fun e w'=>e= .returned (.bool true)∧w'=w:=by
 have c0:=h.c0;have c1:=h.c1;have c2:=h.c2;have c3:=h.c3;clear h;go_in;go_wp2;go_ret;exact⟨rfl,rfl⟩
theorem GA (h:AH w lab s b x) (i:Nat) (hi:i<s.nv):Calls prog 150 #[.pointer b.H, .int .i64 i] w fun e w'=>e= .returned (.bool true)∧w'=w:=by
 have c4:=h.c4;have H:=Ae h;clear h;go_in;go_wp2_with fail;refine mn_ (DU H.out) ?_;go_wp2;go_ret;exact⟨rfl,rfl⟩
end
abbrev BH (lab:Nat->Lb):Nat->Prop:=fun j=>(lab j).isHard=true
namespace AH
variable {w w':World} {lab:Nat->Lb} {s:AE} {b:Hb} {x:Hw} {S:Nat->Prop}
theorem setGrid (h:AH w lab s b x) (k:AD S w w') (hS:∀j,S j->lab j= .grid) {ds:Nat->Dm} (g:Ah w' b.G b.gd s.nd b.gc ds):AH w' lab s b { x with ds:=ds }:=
 ⟨h.h.keep k (fun e=>by have:=hS _ e;rw [h.lh.1] at this;cases this),h.d.keep k (fun e=>by have:=hS _ e;rw [h.lh.2] at this;cases this),h.tree_keep k (fun j e hs=>by rw [hS j hs] at e;cases e),g,h.lines_keep k (fun j e hs=>by rw [hS j hs] at e;cases e),
  h.bus_keep k (fun j e hs=>by rw [hS j hs] at e;cases e) (fun i j _ e hs=>by rw [hS j hs] at e;cases e),fun i hi=>h.file_keep k i hi (fun j e hs=>by rw [hS j hs] at e;cases e),fun i hi=>h.port_keep k i hi (fun j e hs=>by rw [hS j hs] at e;cases e),
  h.lh,h.lt,h.lf,h.lg,h.ll,h.lb,h.lfile,h.lport⟩
theorem setTree (h:AH w lab s b x) (k:AD S w w') (hS:∀j,S j->lab j= .tree) {ns:Nat->Nd} (g:AX w' b.T b.gn s.nc b.tc ns) (same:∀i,i<s.nc->(ns i).fb=(x.ns i).fb∧(ns i).m=(x.ns i).m):AH w' lab s b { x with ns:=ns }:=
 ⟨h.h.keep k (fun e=>by have:=hS _ e;rw [h.lh.1] at this;cases this),h.d.keep k (fun e=>by have:=hS _ e;rw [h.lh.2] at this;cases this),g,h.grid_keep k (fun j e hs=>by rw [hS j hs] at e;cases e),h.lines_keep k (fun j e hs=>by rw [hS j hs] at e;cases e),
  h.bus_keep k (fun j e hs=>by rw [hS j hs] at e;cases e) (fun i j _ e hs=>by rw [hS j hs] at e;cases e),fun i hi=>h.file_keep k i hi (fun j e hs=>by rw [hS j hs] at e;cases e),fun i hi=>h.port_keep k i hi (fun j e hs=>by rw [hS j hs] at e;cases e),
  h.lh,h.lt,fun i hi hm=>by rw [(same i hi).1];exact h.lf i hi (by rw [<-(same i hi).2];exact hm),h.lg,h.ll,h.lb,h.lfile,h.lport⟩
theorem setLines (h:AH w lab s b x) (k:AD S w w') (hS:∀j,S j->lab j= .lines) {ls:Nat->Ln} (g:Bc w' b.L b.mb s.nr ls):AH w' lab s b { x with ls:=ls }:=
 ⟨h.h.keep k (fun e=>by have:=hS _ e;rw [h.lh.1] at this;cases this),h.d.keep k (fun e=>by have:=hS _ e;rw [h.lh.2] at this;cases this),h.tree_keep k (fun j e hs=>by rw [hS j hs] at e;cases e),h.grid_keep k (fun j e hs=>by rw [hS j hs] at e;cases e),g,
  h.bus_keep k (fun j e hs=>by rw [hS j hs] at e;cases e) (fun i j _ e hs=>by rw [hS j hs] at e;cases e),fun i hi=>h.file_keep k i hi (fun j e hs=>by rw [hS j hs] at e;cases e),fun i hi=>h.port_keep k i hi (fun j e hs=>by rw [hS j hs] at e;cases e),
  h.lh,h.lt,h.lf,h.lg,h.ll,h.lb,h.lfile,h.lport⟩
theorem setFile (h:AH w lab s b x) (k:AD S w w') (d:Nat) (hS:∀j,S j->lab j= .file d) {f:Fl} (g:D6 w' s b d f):AH w' lab s b { x with fl:=upd x.fl d f }:=
 ⟨h.h.keep k (fun e=>by have:=hS _ e;rw [h.lh.1] at this;cases this),h.d.keep k (fun e=>by have:=hS _ e;rw [h.lh.2] at this;cases this),h.tree_keep k (fun j e hs=>by rw [hS j hs] at e;cases e),h.grid_keep k (fun j e hs=>by rw [hS j hs] at e;cases e),h.lines_keep k (fun j e hs=>by rw [hS j hs] at e;cases e),
  h.bus_keep k (fun j e hs=>by rw [hS j hs] at e;cases e) (fun i j _ e hs=>by rw [hS j hs] at e;cases e),fun i hi=>by
   by_cases e:i=d
   . subst e;show D6 w' s b i (upd x.fl i f i);rw [upd_same];exact g
   . show D6 w' s b i (upd x.fl d f i);rw [uo_ e];exact h.file_keep k i hi (fun j e2 hs=>by rw [hS j hs] at e2;injection e2 with _ e2;exact e e2.symm),fun i hi=>h.port_keep k i hi (fun j e hs=>by rw [hS j hs] at e;cases e),
  h.lh,h.lt,h.lf,h.lg,h.ll,h.lb,h.lfile,h.lport⟩
theorem setPort (h:AH w lab s b x) (k:AD S w w') (d:Nat) (hS:∀j,S j->lab j= .port d) {a:Nat} {c:Int} (g:Df w' (b.pb d) a c):AH w' lab s b { x with ca:=upd x.ca d a,cd:=upd x.cd d c }:=
 ⟨h.h.keep k (fun e=>by have:=hS _ e;rw [h.lh.1] at this;cases this),h.d.keep k (fun e=>by have:=hS _ e;rw [h.lh.2] at this;cases this),h.tree_keep k (fun j e hs=>by rw [hS j hs] at e;cases e),h.grid_keep k (fun j e hs=>by rw [hS j hs] at e;cases e),h.lines_keep k (fun j e hs=>by rw [hS j hs] at e;cases e),
  h.bus_keep k (fun j e hs=>by rw [hS j hs] at e;cases e) (fun i j _ e hs=>by rw [hS j hs] at e;cases e),fun i hi=>h.file_keep k i hi (fun j e hs=>by rw [hS j hs] at e;cases e),fun i hi=>by
   by_cases e:i=d
   . subst e;show Df w' (b.pb i) (upd x.ca i a i) (upd x.cd i c i);rw [upd_same,upd_same];exact g
   . show Df w' (b.pb i) (upd x.ca d a i) (upd x.cd d c i);rw [uo_ e,uo_ e];exact h.port_keep k i hi (fun j e2 hs=>by rw [hS j hs] at e2;injection e2 with _ e2;exact e e2.symm),
  h.lh,h.lt,h.lf,h.lg,h.ll,h.lb,h.lfile,h.lport⟩
end AH
section
variable {w:World} {lab:Nat->Lb} {s:AE} {b:Hb} {x:Hw}
def ML (w:World) (lab:Nat->Lb) (s:AE) (b:Hb) (x:Hw) (e:Ending) (w':World):Prop:=e= .returned (.int .i64 0)∧AD (BH lab) w w'∧AH w' lab s b x
theorem Dd (h:AH w lab s b x) (i:Nat) (hi:i<s.nd) {p:Int} (hp:(x.ds i).phase=p):Calls prog 202 #[.pointer b.H, .int .i64 i] w fun e w'=>e= .returned (.int .u8 p)∧w'=w:=by
 have c1:=h.c1;have H:=Ae h;have HP:=Ae hp;clear h hp;go_in;go_wp2_with fail;refine mn_ (DU H.out) ?_;go_wp2_with fail;refine mn_ (IY H.out.grid i hi HP.out) ?_;go_wp2;go_ret;exact⟨rfl,rfl⟩
theorem GY (h:AH w lab s b x) (i:Nat) (hi:i<s.nc) (hm:∀i,i<s.nc->(x.ns i).kind≠111->0<(x.ns i).m) (hr:Ar x.ns s.nc i=r):Calls prog 209 #[.pointer b.H, .int .i64 i] w fun e w'=>e= .returned (.bool r)∧AJ w w':=by
 have c0:=h.c0;have H:=Ae h;have HR:=Ae hr;clear h hr;go_in;go_wp2_with fail;refine mn_ (DU H.out) ?_;go_wp2_with fail;refine(Dq H.out.tree hm i hi HR.out).mono ?_;rintro e w2 ⟨rfl,k2⟩;go_wp2;go_ret;exact⟨rfl,k2⟩
theorem NL (h:AH w lab s b x) (i:Nat) (hi:i<s.nr) (hr:(x.ls i).held=r):Calls prog 210 #[.pointer b.H, .int .i64 i] w fun e w'=>e= .returned (.bool r)∧AJ w w':=by
 have c2:=h.c2;have H:=Ae h;have HR:=Ae hr;clear h hr;go_in;go_wp2_with fail;refine mn_ (DU H.out) ?_;go_wp2_with fail;refine(Le H.out.lines i hi HR.out).mono ?_;rintro e w2 ⟨rfl,k2⟩;go_wp2;go_ret;exact⟨rfl,k2⟩
theorem OR (h:AH w lab s b x) (i:Nat) (hi:i<s.nv):Calls prog 139 #[.pointer b.H, .int .i64 i] w fun e w'=>e= .returned (.int .i64 (x.m i:Int))∧w'=w:=by
 have c3:=h.c3;obtain⟨qs,hb,hq⟩:=h.bus;obtain⟨a,c,hv⟩:=(hq i hi).1.form;have H:=Ae h;have HB:=Ae hb;have HV:=Ae hv;clear h hb hq hv;go_in;go_wp2_with fail;refine mn_ (GA H.out i hi) ?_;go_wp2_with fail;refine mn_ (Kk HB.out i hi HV.out) ?_;go_wp2;go_ret;exact⟨rfl,rfl⟩
theorem Cd (h:AH w lab s b x) (L:Ai w) (i:Nat) (hi:i<s.nv) (ha:x.ca i<=3) {l:Int} (hl:Er (x.ca i)=l):Calls prog 204 #[.pointer b.H, .int .i64 i] w fun e w'=>e= .returned (.int .u8 l)∧w'=w:=by
 have c4:=h.c4;have d5:w.cell? (b.dv (i*6+5))=some (.pointer (b.pb i)):=h.d.cell i 5 hi (by omega);have H:=Ae h;have HL:=Ae hl;clear h hl;go_in;go_wp2_with fail;refine mn_ (GA H.out i hi) ?_;go_wp2_with fail;refine mn_ (Lz (H.out.port i hi) L ha) ?_;rw [HL.out];go_wp2;go_ret;exact⟨rfl,rfl⟩
theorem Tt (h:AH w lab s b x) (i:Nat) (hi:i<s.nd) (hdn:(x.ds i).isDown=true) (ab:(x.ds i).above= -1∨∃a:Nat,(x.ds i).above=(a:Int)∧a<s.nd∧(x.ds a).phase=49):
 Calls prog 203 #[.pointer b.H, .int .i64 i] w (ML w lab s b { x with ds:=upd x.ds i (x.ds i).up }):=by
 have c1:=h.c1;have H:=Ae h;have HA:=Ae ab;have HD:=Ae hdn;clear h ab hdn;go_in;go_wp2_with fail;refine mn_ (DU H.out) ?_;go_wp2_with fail;refine(xI H.out.grid i hi HD.out HA.out).mono ?_;rintro e w2 ⟨rfl,k2,g2⟩;go_wp2;go_ret;exact⟨rfl,k2.mono (fun j e=>by subst e;show(lab b.gd).isHard=true;rw [H.out.lg.2];rfl),H.out.setGrid k2 (fun j e=>by subst e;exact H.out.lg.2) g2⟩
theorem NM (h:AH w lab s b x) (i:Nat) (hi:i<s.nd) (q:Bool) (hp:(x.ds i).phase=49) (hb:q=true->(x.ds i).ret=true) (lo:∀j,j<s.nd->(x.ds j).above=(i:Int)->(x.ds j).isDown=true):
 Calls prog 207 #[.pointer b.H, .int .i64 i, .bool q] w (ML w lab s b { x with ds:=upd x.ds i ((x.ds i).down q) }):=by
 have c1:=h.c1;have H:=Ae h;have HA:=Ae hp;have HD:=Ae hb;have HL:=Ae lo;clear h hp hb lo;go_in;go_wp2_with fail;refine mn_ (DU H.out) ?_;go_wp2_with fail;refine(VX H.out.grid i hi q HA.out HD.out HL.out).mono ?_;rintro e w2 ⟨rfl,k2,g2⟩;go_wp2;go_ret;exact⟨rfl,k2.mono (fun j e=>by subst e;show(lab b.gd).isHard=true;rw [H.out.lg.2];rfl),H.out.setGrid k2 (fun j e=>by subst e;exact H.out.lg.2) g2⟩
theorem OT (h:AH w lab s b x) (i:Nat) (hi:i<s.nr) (hh:(x.ls i).held=true):
 Calls prog 211 #[.pointer b.H, .int .i64 i] w (ML w lab s b { x with ls:=upd x.ls i { x.ls i with wanted:=true } }):=by
 have c2:=h.c2;have H:=Ae h;have HD:=Ae hh;clear h hh;go_in;go_wp2_with fail;refine mn_ (DU H.out) ?_;go_wp2_with fail;refine(MV H.out.lines i hi HD.out).mono ?_;rintro e w2 ⟨rfl,k2,g2⟩;go_wp2;go_ret;exact⟨rfl,k2.mono (fun j e=>by subst e;show(lab b.mb).isHard=true;rw [H.out.ll.2];rfl),H.out.setLines k2 (fun j e=>by subst e;exact H.out.ll.2) g2⟩
theorem QD (h:AH w lab s b x) (i:Nat) (hi:i<s.nv) (ha:x.ca i=0):
 Calls prog 259 #[.pointer b.H, .int .i64 i] w (ML w lab s b { x with ca:=upd x.ca i 1,cd:=upd x.cd i (x.cd i) }):=by
 have c4:=h.c4;have d5:w.cell? (b.dv (i*6+5))=some (.pointer (b.pb i)):=h.d.cell i 5 hi (by omega);have P:=h.port i hi;rw [ha] at P;have KP:=Ae P;have H:=Ae h;clear h P;go_in;go_wp2_with fail;refine mn_ (GA H.out i hi) ?_;go_wp2_with fail;refine(Yn KP.out).mono ?_;rintro e w2 ⟨rfl,k2,g2⟩;go_wp2;go_ret;exact⟨rfl,k2.mono (fun j e=>by subst e;show(lab (b.pb i)).isHard=true;rw [H.out.lport i hi];rfl),H.out.setPort k2 i (fun j e=>by subst e;exact H.out.lport i hi) g2⟩
theorem Se (h:AH w lab s b x) (i:Nat) (hi:i<s.nv) (ha:x.ca i=2∨x.ca i=3):
 Calls prog 205 #[.pointer b.H, .int .i64 i] w (ML w lab s b { x with ca:=upd x.ca i 0,cd:=upd x.cd i (x.cd i) }):=by
 have c4:=h.c4;have d5:w.cell? (b.dv (i*6+5))=some (.pointer (b.pb i)):=h.d.cell i 5 hi (by omega);have H:=Ae h;clear h;go_in;go_wp2_with fail;refine mn_ (GA H.out i hi) ?_;go_wp2_with fail;refine(Sz (H.out.port i hi) ha).mono ?_;rintro e w2 ⟨rfl,k2,g2⟩;go_wp2;go_ret;exact⟨rfl,k2.mono (fun j e=>by subst e;show(lab (b.pb i)).isHard=true;rw [H.out.lport i hi];rfl),H.out.setPort k2 i (fun j e=>by subst e;exact H.out.lport i hi) g2⟩
theorem VU {ns:Nat->Nd} (h:AH w lab s b x) (i:Nat) (hi:i<s.nc) (q:Bool)
 (call:∀w,AX w b.T b.gn s.nc b.tc x.ns->Calls prog 261 #[.pointer b.T, .int .i64 i, .bool q] w fun e w'=>e= .returned (.int .i64 0)∧AD (· =b.gn) w w'∧AX w' b.T b.gn s.nc b.tc ns) (same:∀i,i<s.nc->(ns i).fb=(x.ns i).fb∧(ns i).m=(x.ns i).m):
 Calls prog 208 #[.pointer b.H, .int .i64 i, .bool q] w (ML w lab s b { x with ns:=ns }):=by
 have c0:=h.c0;have H:=Ae h;have C:=Ae call;have E:=Ae same;clear h call same;go_in;go_wp2_with fail;refine mn_ (DU H.out) ?_;go_wp2_with fail;refine(C.out _ H.out.tree).mono ?_;rintro e w2 ⟨rfl,k2,g2⟩;go_wp2;go_ret;exact⟨rfl,k2.mono (fun j e=>by subst e;show(lab b.gn).isHard=true;rw [H.out.lt.2];rfl),H.out.setTree k2 (fun j e=>by subst e;exact H.out.lt.2) g2 E.out⟩
end
section
open Go
structure Dn (W:World) where
 w:World
 k:AJ W w
instance (W:World):Nonempty (Dn W):=⟨⟨W,kx_⟩⟩
theorem FG {id:Nat} {Q:Exit->Act->World->Prop} {a:Act} {l:List Oper} (hm:P.follows .mixedOrders=true) (hB:Region.lexB .any l.toArray=true)
 (h:wpQuiet P l.toArray (fun w'=>∃x:Dn w,w'=x.w) (fun a'=>∀w',(∃x:Dn w,w'=x.w)->Q .normal a' w') l a):(Code.region id l.toArray true).wp P Q a w:=
 wp_region_quiet (C:=fun w'=>∃x:Dn w,w'=x.w) hm hB ⟨⟨w.drew,(AD.refl _ w).drew⟩,rfl⟩ (by simpa using h)
theorem Calls.newq {x:Dn W} {v:Value} (h:Calls P f args x.w fun e w'=>e= .returned v∧AJ x.w w'):Calls P f args x.w fun e w''=>e= .returned v∧∃y:Dn W,w''=y.w:=
 h.mono fun _ w' ⟨he,hk⟩=>⟨he,⟨w',x.k.then_ hk⟩,rfl⟩
theorem Calls.newq_same {x:Dn W} {v:Value} (h:Calls P f args x.w fun e w'=>e= .returned v∧w'=x.w):Calls P f args x.w fun e w''=>e= .returned v∧∃y:Dn W,w''=y.w:=
 h.mono fun _ _ ⟨he,hk⟩=>⟨he,x,hk⟩
end
end Go.Proofs.YtpekoejdnhaohaaGreatDoor
