/- What the small checks on the chip's data compute for a chip in which nothing is wrong. For every such chip in memory. -/
import Derived.Laws.EntriesVeiled
import Derived.Test.YtpekoejdnhaohaaGreatDoorA
namespace Go.Proofs.YtpekoejdnhaohaaGreatDoor
open Go.RowKit Tryz
set_option maxRecDepth 100000
set_option maxHeartbeats 40000000
set_option linter.all false
variable {s:AE} {v:Bx} {d:Ck} {B S c cg cq i k m:Nat} {f:Nat->Int} {ag ao aq:Option Addr} {w:World}
def Az (w:World) (e:Ending) (w':World):Prop:=e= .returned (.int .i64 0)∧AJ w w'
def TR (v:Value) (w:World) (e:Ending) (w':World):Prop:=e= .returned v∧AJ w w'
theorem Aw (n lo hi:Int) (w:World) (h1:lo<=n) (h2:n<=hi):
 Calls prog 121 #[.int .i64 n, .int .i64 lo, .int .i64 hi] w fun e w'=>e= .returned (.bool true)∧w'=w:=by
 go_in;go_wp2;go_ret;exact⟨rfl,rfl⟩
theorem DK (e:Int) (w:World):Calls prog 115 #[.bool false, .int .i64 e] w fun e w'=>e= .returned (.int .i64 0)∧w'=w:=by
 go_in;go_wp2;go_ret;exact⟨rfl,rfl⟩
def Fu (g:Nat):Prop:=∀ (args:Array Value) (w:World),(callFunc g args).run prog w= .ok (.enter g args) w
theorem It (b n cap:Nat) (kf:Nat->Nat) (caps:Nat->Array Value) (hn:n<=100)
 (hc:∀i,i<n->w.cell? (b i)=some (.func (.func (kf i)) #[] (caps i))) (hb:b<w.heap.size)
 (he:∀i,i<n->Fu (kf i))
 (h:∀i,i<n->∀W,AJ w W->Calls prog (kf i) (caps i) W (Az W)):
 Calls prog 48 #[.slice b n cap] w (Az w):=by
 have HC:=Ae hc;have H:=Ae h;have HE:=Ae he;clear hc h he;go_in;go_wp2;go_loopw [8] (fun i wr=>∃k:Nat,k<=n∧i= .int .i64 k∧AJ w wr) (fun i _=>n - (intOf i).toNat);case atStart=>exact⟨0,by omega,rfl,kx_⟩
 case round=>
  obtain⟨k,hk,rfl,kp0⟩:=hrel;have KP:=Ae kp0;by_cases hlt:k<n
  . have ck:=(kp0.cell (p:=(b k)) hb id).trans (HC.out k hlt);clear kp0;have eg:=HE.out k hlt;have HK:=Ae (H.out k hlt);unfold Fu at eg;generalize kf k=f at ck eg HK;generalize caps k=cs at ck HK;go_wp2_with fail;refine(HK.out _ KP.out).mono ?_;rintro e w2 ⟨rfl,k2⟩;have KP2:=Ae (KP.out.then_ k2);clear k2 eg ck;go_wp2;go_roundw;case rel=>exact⟨k+1,by omega,by go_num,KP2.out⟩
    case measure=>simp [intOf];omega
  . clear kp0;go_wp2;go_ret;exact⟨rfl,KP.out⟩
theorem AO (b n cap:Nat):∃ao c,Aa b n cap= .slice ao n c:=by
 unfold Aa;split
 . rename_i h;exact⟨none,0,by rw [h]⟩
 . exact⟨_,_,rfl⟩
theorem Vi (ck:Nat->Ck) (fb fc:Nat->Nat) (b n cap:Nat) (kf:Nat) (caps:Array Value) (hn:n<=100) (hr:Al w b 62 6 n (fun i=>Cf (ck i) (fb i) (fc i)))
 (eg:Fu kf)
 (h:∀k,k<n->∀ao c,Aa (fb k) (ck k).m (fc k)= .slice ao (ck k).m c->∀W,AJ w W->Calls prog kf (#[.agg #[.int .u8 (ck k).kind, .slice ao (ck k).m c, .int .u64 (ck k).rate, .int .i64 (ck k).mul, .int .i64 (ck k).div, .int .i64 (ck k).lock]]++caps) W (Az W)):
 Calls prog 52 #[.slice b n cap, .func (.func kf) #[] caps] w (Az w):=by
 have HR:=Ae hr;have H:=Ae h;unfold Fu at eg;clear hr h;go_in;go_wp2;go_loopw [10] (fun i wr=>∃k:Nat,k<=n∧i= .int .i64 k∧AJ w wr) (fun i _=>n - (intOf i).toNat);case atStart=>exact⟨0,by omega,rfl,kx_⟩
 case round=>
  obtain⟨k,hk,rfl,kp0⟩:=hrel;have KP:=Ae kp0;by_cases hlt:k<n
  . have R:=HR.out.keep kp0 id;have c0:wr.cell? (b (k*6))=some (.int .u8 (ck k).kind):=R.cell k 0 hlt (by omega);have c1:wr.cell? (b (k*6+1))=some (Aa (fb k) (ck k).m (fc k)):=R.cell k 1 hlt (by omega);have c2:wr.cell? (b (k*6+2))=some (.int .u64 (ck k).rate):=R.cell k 2 hlt (by omega);have c3:wr.cell? (b (k*6+3))=some (.int .i64 (ck k).mul):=R.cell k 3 hlt (by omega);have c4:wr.cell? (b (k*6+4))=some (.int .i64 (ck k).div):=R.cell k 4 hlt (by omega);have c5:wr.cell? (b (k*6+5))=some (.int .i64 (ck k).lock):=R.cell k 5 hlt (by omega);obtain⟨ao,c,es⟩:=AO (fb k) (ck k).m (fc k);have HK:=Ae (H.out k hlt ao c es);rw [es] at c1;clear es;generalize ck k=d at*;clear kp0 R;go_wp2_with fail;refine(HK.out _ (KP.out.alloc _)).mono ?_;rintro e w2 ⟨rfl,k2⟩;have KP2:=Ae ((KP.out.alloc _).then_ k2);clear k2 c0 c1 c2 c3 c4 c5;go_wp2;go_roundw;case rel=>exact⟨k+1,by omega,by go_num,KP2.out⟩
    case measure=>simp [intOf];omega
  . clear kp0;go_wp2;go_ret;exact⟨rfl,KP.out⟩
theorem Vj (dm:Nat->Do) (b n cap:Nat) (kf:Nat) (caps:Array Value) (hn:n<=100) (hr:Al w b 47 3 n (fun i=>D8 (dm i)))
 (eg:Fu kf)
 (h:∀k,k<n->∀W,AJ w W->Calls prog kf (#[.agg #[.int .i64 (dm k).above, .int .i64 (dm k).delay, .bool (dm k).ret]]++caps) W (Az W)):
 Calls prog 59 #[.slice b n cap, .func (.func kf) #[] caps] w (Az w):=by
 have HR:=Ae hr;have H:=Ae h;unfold Fu at eg;clear hr h;go_in;go_wp2;go_loopw [10] (fun i wr=>∃k:Nat,k<=n∧i= .int .i64 k∧AJ w wr) (fun i _=>n - (intOf i).toNat);case atStart=>exact⟨0,by omega,rfl,kx_⟩
 case round=>
  obtain⟨k,hk,rfl,kp0⟩:=hrel;have KP:=Ae kp0;by_cases hlt:k<n
  . have R:=HR.out.keep kp0 id;have c0:wr.cell? (b (k*3))=some (.int .i64 (dm k).above):=R.cell k 0 hlt (by omega);have c1:wr.cell? (b (k*3+1))=some (.int .i64 (dm k).delay):=R.cell k 1 hlt (by omega);have c2:wr.cell? (b (k*3+2))=some (.bool (dm k).ret):=R.cell k 2 hlt (by omega);have HK:=Ae (H.out k hlt);generalize dm k=d at*;clear kp0 R;go_wp2_with fail;refine(HK.out _ (KP.out.alloc _)).mono ?_;rintro e w2 ⟨rfl,k2⟩;have KP2:=Ae ((KP.out.alloc _).then_ k2);clear k2 c0 c1 c2;go_wp2;go_roundw;case rel=>exact⟨k+1,by omega,by go_num,KP2.out⟩
    case measure=>simp [intOf];omega
  . clear kp0;go_wp2;go_ret;exact⟨rfl,KP.out⟩
theorem Vh (rs:Nat->Int) (b n cap:Nat) (kf:Nat) (caps:Array Value) (hn:n<=100) (hr:Al w b 64 1 n (fun i _=> .int .i64 (rs i)))
 (eg:Fu kf)
 (h:∀k,k<n->∀W,AJ w W->Calls prog kf (#[.agg #[.int .i64 (rs k)]]++caps) W (Az W)):
 Calls prog 65 #[.slice b n cap, .func (.func kf) #[] caps] w (Az w):=by
 have HR:=Ae hr;have H:=Ae h;unfold Fu at eg;clear hr h;go_in;go_wp2;go_loopw [10] (fun i wr=>∃k:Nat,k<=n∧i= .int .i64 k∧AJ w wr) (fun i _=>n - (intOf i).toNat);case atStart=>exact⟨0,by omega,rfl,kx_⟩
 case round=>
  obtain⟨k,hk,rfl,kp0⟩:=hrel;have KP:=Ae kp0;by_cases hlt:k<n
  . have R:=HR.out.keep kp0 id;have c0:wr.cell? (b k)=some (.int .i64 (rs k)):=by have:=R.cell k 0 hlt (by omega);simpa using this
    have HK:=Ae (H.out k hlt);generalize rs k=d at*;clear kp0 R;go_wp2_with fail;refine(HK.out _ (KP.out.alloc _)).mono ?_;rintro e w2 ⟨rfl,k2⟩;have KP2:=Ae ((KP.out.alloc _).then_ k2);clear k2 c0;go_wp2;go_roundw;case rel=>exact⟨k+1,by omega,by go_num,KP2.out⟩
    case measure=>simp [intOf];omega
  . clear kp0;go_wp2;go_ret;exact⟨rfl,KP.out⟩
theorem NV (dv:Nat->Dv) (gb gc qb qc:Nat->Nat) (b n cap:Nat) (kf:Nat) (caps:Array Value) (hn:n<=100) (hr:Al w b 40 6 n (fun i=>CR (dv i) (gb i) (gc i) (qb i) (qc i)))
 (eg:Fu kf)
 (h:∀k,k<n->∀ag cg aq cq,Aa (gb k) (dv k).nreg (gc k)= .slice ag (dv k).nreg cg->Aa (qb k) (dv k).nneed (qc k)= .slice aq (dv k).nneed cq->∀W,AJ w W->Calls prog kf (#[.agg #[.int .i64 ((dv k).clock:Int), .int .i64 ((dv k).dom:Int), .int .i64 ((dv k).line:Int), .int .u32 (dv k).clamp, .slice ag (dv k).nreg cg, .slice aq (dv k).nneed cq]]++caps) W (Az W)):
 Calls prog 68 #[.slice b n cap, .func (.func kf) #[] caps] w (Az w):=by
 have HR:=Ae hr;have H:=Ae h;unfold Fu at eg;clear hr h;go_in;go_wp2;go_loopw [10] (fun i wr=>∃k:Nat,k<=n∧i= .int .i64 k∧AJ w wr) (fun i _=>n - (intOf i).toNat);case atStart=>exact⟨0,by omega,rfl,kx_⟩
 case round=>
  obtain⟨k,hk,rfl,kp0⟩:=hrel;have KP:=Ae kp0;by_cases hlt:k<n
  . have R:=HR.out.keep kp0 id;have c0:wr.cell? (b (k*6))=some (.int .i64 ((dv k).clock:Int)):=R.cell k 0 hlt (by omega);have c1:wr.cell? (b (k*6+1))=some (.int .i64 ((dv k).dom:Int)):=R.cell k 1 hlt (by omega);have c2:wr.cell? (b (k*6+2))=some (.int .i64 ((dv k).line:Int)):=R.cell k 2 hlt (by omega);have c3:wr.cell? (b (k*6+3))=some (.int .u32 (dv k).clamp):=R.cell k 3 hlt (by omega);have c4:wr.cell? (b (k*6+4))=some (Aa (gb k) (dv k).nreg (gc k)):=R.cell k 4 hlt (by omega);have c5:wr.cell? (b (k*6+5))=some (Aa (qb k) (dv k).nneed (qc k)):=R.cell k 5 hlt (by omega);obtain⟨ag,cg,es⟩:=AO (gb k) (dv k).nreg (gc k);obtain⟨aq,cq,et⟩:=AO (qb k) (dv k).nneed (qc k);have HK:=Ae (H.out k hlt ag cg aq cq es et);rw [es] at c4;rw [et] at c5;clear es et;generalize dv k=d at*;clear kp0 R;go_wp2_with fail;refine(HK.out _ (KP.out.alloc _)).mono ?_;rintro e w2 ⟨rfl,k2⟩;have KP2:=Ae ((KP.out.alloc _).then_ k2);clear k2 c0 c1 c2 c3 c4 c5;go_wp2;go_roundw;case rel=>exact⟨k+1,by omega,by go_num,KP2.out⟩
    case measure=>simp [intOf];omega
  . clear kp0;go_wp2;go_ret;exact⟨rfl,KP.out⟩
def CH (w:World) (ao:Option Addr) (m:Nat) (f:Nat->Int):Prop:=m=0∨∃b,ao=some ⟨b,0,none⟩∧Al w b 3 1 m (fun j _=> .int .i64 (f j))
theorem CH.new {w':World} (h:CH w ao m f) (k:AJ w w'):CH w' ao m f:=by
 rcases h with h | ⟨b,e,r⟩
 . exact .inl h
 . exact .inr ⟨b,e,r.keep k id⟩
theorem NJ {b cap:Nat} (e:Aa b m cap= .slice ao m c) (h:0<m->Al w b 3 1 m (fun j _=> .int .i64 (f j))):CH w ao m f:=by
 by_cases hm:m=0
 . exact .inl hm
 . rw [Dj (by omega)] at e;injection e with e1 e2;exact .inr ⟨b,e1.symm,h (by omega)⟩
theorem QU (ao:Option Addr) (n cap:Nat) (f:Nat->Int) (kf:Nat) (caps:Array Value) (hn:n<=100) (hr:CH w ao n f)
 (eg:Fu kf)
 (h:∀k,k<n->∀W,AJ w W->Calls prog kf (#[.int .i64 (f k)]++caps) W (Az W)):
 Calls prog 119 #[.slice ao n cap, .func (.func kf) #[] caps] w (Az w):=by
 have HR:=Ae hr;have H:=Ae h;unfold Fu at eg;clear hr h;go_in;go_wp2;go_loopw [10] (fun i wr=>∃k:Nat,k<=n∧i= .int .i64 k∧AJ w wr) (fun i _=>n - (intOf i).toNat);case atStart=>exact⟨0,by omega,rfl,kx_⟩
 case round=>
  obtain⟨k,hk,rfl,kp0⟩:=hrel;have KP:=Ae kp0;by_cases hlt:k<n
  . rcases HR.out with h0 | ⟨b,rfl,r⟩
    . omega
    have c0:wr.cell? (b k)=some (.int .i64 (f k)):=by have:=(r.keep kp0 id).cell k 0 hlt (by omega);simpa using this
    have HK:=Ae (H.out k hlt);generalize f k=d at*;clear kp0 r;go_wp2_with fail;refine(HK.out _ KP.out).mono ?_;rintro e w2 ⟨rfl,k2⟩;have KP2:=Ae (KP.out.then_ k2);clear k2 c0;go_wp2;go_roundw;case rel=>exact⟨k+1,by omega,by go_num,KP2.out⟩
    case measure=>simp [intOf];omega
  . clear kp0;go_wp2;go_ret;exact⟨rfl,KP.out⟩
section
attribute [local go_sem] BI Fx
abbrev BJ (w:World) (b:Nat) (s:AE) (v:Bx):Prop:=AF w b 30 (Fx v s)
abbrev ZW (w:World) (b:Nat) (d:Ck) (ao:Option Addr) (c:Nat):Prop:=AF w b 62 [.int .u8 d.kind, .slice ao d.m c, .int .u64 d.rate, .int .i64 d.mul, .int .i64 d.div, .int .i64 d.lock]
abbrev DoBox (w:World) (b:Nat) (d:Do):Prop:=AF w b 47 [.int .i64 d.above, .int .i64 d.delay, .bool d.ret]
abbrev UL (w:World) (b:Nat) (d:Dv) (ag:Option Addr) (cg:Nat) (aq:Option Addr) (cq:Nat):Prop:=AF w b 40 [.int .i64 d.clock, .int .i64 d.dom, .int .i64 d.line, .int .u32 d.clamp, .slice ag d.nreg cg, .slice aq d.nneed cq]
theorem Aj (s:AE) (v:Bx):BJ (w.alloc (.cells (BI v s) 30)) w.heap.size s v:=AF.new w _ 30
theorem XH (hd:d.Ok i) (ao:Option Addr) (c:Nat) (w:World):Calls prog 117 #[.agg #[.int .u8 d.kind, .slice ao d.m c, .int .u64 d.rate, .int .i64 d.mul, .int .i64 d.div, .int .i64 d.lock]] w (TR (.bool true) w):=by
 obtain⟨kind,m,src,rate,mul,div,lock⟩:=d;obtain⟨hk,ho,h1,hm,few, -,hmul,hdiv,hlock⟩:=hd;dsimp only at*;rcases hk with rfl | rfl | rfl | rfl | rfl
 . obtain⟨rfl, -⟩:=ho rfl;clear ho h1 hm hmul hdiv hlock;go_in;go_wp2_with (go_at_call 121;refine mn_ (Aw _ _ _ _ (by omega) (by omega)) ?_);go_ret;exact⟨rfl,(kx_).alloc _⟩
 . obtain rfl:=h1 (by simp);clear ho h1 hm hmul hdiv hlock;go_in;go_wp2_with (go_at_call 121;refine mn_ (Aw _ _ _ _ (by omega) (by omega)) ?_);go_ret;exact⟨rfl,(kx_).alloc _⟩
 . obtain rfl:=h1 (by simp);clear ho h1 hm hmul hdiv hlock;go_in;go_wp2_with (go_at_call 121;refine mn_ (Aw _ _ _ _ (by omega) (by omega)) ?_);go_ret;exact⟨rfl,(kx_).alloc _⟩
 . obtain rfl:=h1 (by simp);clear ho h1 hm hmul hdiv hlock;go_in;go_wp2_with (go_at_call 121;refine mn_ (Aw _ _ _ _ (by omega) (by omega)) ?_);go_ret;exact⟨rfl,(kx_).alloc _⟩
 . obtain⟨m1,m2⟩:=hm rfl;clear ho h1 hm hmul hdiv hlock;go_in;go_wp2_with (go_at_call 121;refine mn_ (Aw _ _ _ _ (by omega) (by omega)) ?_);go_ret;exact⟨rfl,(kx_).alloc _⟩
theorem SA (hd:d.Ok i) (ao:Option Addr) (c:Nat) (w:World):Calls prog 123 #[.agg #[.int .u8 d.kind, .slice ao d.m c, .int .u64 d.rate, .int .i64 d.mul, .int .i64 d.div, .int .i64 d.lock]] w (TR (.bool true) w):=by
 obtain⟨kind,m,src,rate,mul,div,lock⟩:=d;obtain⟨hk,ho,h1,hm,few, -,hmul,hdiv,hlock⟩:=hd;dsimp only at*;rcases hk with rfl | rfl | rfl | rfl | rfl
 . obtain⟨-,r1,r2⟩:=ho rfl;have e1:decide (rate<=1099511627776)=true:=by simp;omega
   clear ho h1 hm hmul hdiv hlock;go_in;go_wp2_with (go_at_call 121;refine mn_ (Aw _ _ _ _ (by omega) (by omega)) ?_);go_ret;exact⟨rfl,(kx_).alloc _⟩
 . obtain⟨a1,a2⟩:=hmul rfl;obtain⟨b1,b2⟩:=hdiv (by simp);obtain⟨l1,l2⟩:=hlock rfl;clear ho h1 hm hmul hdiv hlock;go_in;go_wp2_with (go_at_call 121;refine mn_ (Aw _ _ _ _ (by omega) (by omega)) ?_);go_ret;exact⟨rfl,(kx_).alloc _⟩
 . obtain⟨b1,b2⟩:=hdiv (by simp);clear ho h1 hm hmul hdiv hlock;go_in;go_wp2_with (go_at_call 121;refine mn_ (Aw _ _ _ _ (by omega) (by omega)) ?_);go_ret;exact⟨rfl,(kx_).alloc _⟩
 . skip
   clear ho h1 hm hmul hdiv hlock;go_in;go_wp2_with (go_at_call 121;refine mn_ (Aw _ _ _ _ (by omega) (by omega)) ?_);go_ret;exact⟨rfl,(kx_).alloc _⟩
 . skip
   clear ho h1 hm hmul hdiv hlock;go_in;go_wp2_with (go_at_call 121;refine mn_ (Aw _ _ _ _ (by omega) (by omega)) ?_);go_ret;exact⟨rfl,(kx_).alloc _⟩
theorem yK (hd:d.Ok i) (hb:ZW w B d ao c):Calls prog 116 #[.pointer B] w (Az w):=by
 have c0:=hb.z 0;have c1:=hb.z 1;have c2:=hb.z 2;have c3:=hb.z 3;have c4:=hb.z 4;have c5:=hb.z 5;have HD:=Ae hd;clear hd hb;go_in;go_wp2_with fail;refine(XH HD.out _ _ _).mono ?_;rintro e w2 ⟨rfl,k2⟩;go_wp2_with (go_at_call 115;refine mn_ (DK _ _) ?_);go_ret;exact⟨rfl,k2⟩
theorem yI (hd:d.Ok i) (hb:ZW w B d ao c):Calls prog 122 #[.pointer B] w (Az w):=by
 have c0:=hb.z 0;have c1:=hb.z 1;have c2:=hb.z 2;have c3:=hb.z 3;have c4:=hb.z 4;have c5:=hb.z 5;have HD:=Ae hd;clear hd hb;go_in;go_wp2_with fail;refine(SA HD.out _ _ _).mono ?_;rintro e w2 ⟨rfl,k2⟩;go_wp2_with (go_at_call 115;refine mn_ (DK _ _) ?_);go_ret;exact⟨rfl,k2⟩
theorem Yi (f:Int) (h0:0<=f) (h1:f<s.nc) (h2:s.nc<=100) (hb:BJ w B s v):Calls prog 120 #[.int .i64 f, .pointer B] w (Az w):=by
 have s0:=hb.z 0;clear hb;go_in;go_wp2_with (first | (go_at_call 121;refine mn_ (Aw _ _ _ _ (by omega) (by omega)) ?_) | (go_at_call 115;refine mn_ (DK _ _) ?_));go_ret;exact⟨rfl,kx_⟩
theorem ent120:Fu 120:=fun _ _=>by kernel_rfl
theorem yJ (hd:d.Ok i) (hi:i<s.nc) (h2:s.nc<=100) (hb:ZW w B d ao c) (hs:BJ w S s v) (hf:CH w ao d.m (fun j=>(d.src j:Int))):
 Calls prog 118 #[.pointer B, .pointer S] w (Az w):=by
 have hmf:=mf (P:=prog);have c0:=hb.z 0;have c1:=hb.z 1;have c2:=hb.z 2;have c3:=hb.z 3;have c4:=hb.z 4;have c5:=hb.z 5;have HD:=Ae hd;have HS:=Ae hs;have HF:=Ae hf;clear hd hb hs hf c0 c2 c3 c4 c5;go_in;go_wp2_with fail;refine(QU _ _ _ (fun j=>(d.src j:Int)) 120 #[.pointer S] (by have:=HD.out.few;omega) HF.out ent120 (fun k hk W k2=>Yi _ (by omega) (by have:=HD.out.less k hk;omega) h2 (HS.out.keep k2 id))).mono ?_;rintro e w2 ⟨rfl,k2⟩;go_wp2;go_ret;exact⟨rfl,k2⟩
theorem ent116:Fu 116:=fun _ _=>by kernel_rfl
theorem ent118:Fu 118:=fun _ _=>by kernel_rfl
theorem ent122:Fu 122:=fun _ _=>by kernel_rfl
theorem Yh (hd:d.Ok k) (hk:k<s.nc) (h2:s.nc<=100) (hf:CH w ao d.m (fun j=>(d.src j:Int))):Calls prog 54 #[.agg (BI v s), .agg #[.int .u8 d.kind, .slice ao d.m c, .int .u64 d.rate, .int .i64 d.mul, .int .i64 d.div, .int .i64 d.lock]] w (Az w):=by
 have hmf:=mf (P:=prog);have FB:AF (((w.alloc (.cells (BI v s) 30)).alloc (.cells #[.int .u8 d.kind, .slice ao d.m c, .int .u64 d.rate, .int .i64 d.mul, .int .i64 d.div, .int .i64 d.lock] 62)).alloc (.cells #[.func (.func 116) #[] #[.pointer (some ((w.heap.size+1) 0))], .func (.func 118) #[] #[.pointer (some ((w.heap.size+1) 0)), .pointer w.heap.size], .func (.func 122) #[] #[.pointer (some ((w.heap.size+1) 0))]] 153)) (w.heap.size+2) 153 [.func (.func 116) #[] #[.pointer (some ((w.heap.size+1) 0))], .func (.func 118) #[] #[.pointer (some ((w.heap.size+1) 0)), .pointer w.heap.size], .func (.func 122) #[] #[.pointer (some ((w.heap.size+1) 0))]]:=by
  have h:=AF.new ((w.alloc (.cells (BI v s) 30)).alloc (.cells #[.int .u8 d.kind, .slice ao d.m c, .int .u64 d.rate, .int .i64 d.mul, .int .i64 d.div, .int .i64 d.lock] 62)) [.func (.func 116) #[] #[.pointer (some ((w.heap.size+1) 0))], .func (.func 118) #[] #[.pointer (some ((w.heap.size+1) 0)), .pointer w.heap.size], .func (.func 122) #[] #[.pointer (some ((w.heap.size+1) 0))]] 153;rw [show((w.alloc (.cells (BI v s) 30)).alloc (.cells #[.int .u8 d.kind, .slice ao d.m c, .int .u64 d.rate, .int .i64 d.mul, .int .i64 d.div, .int .i64 d.lock] 62)).heap.size=w.heap.size+2 by simp] at h;exact h
 have B0:AF (((w.alloc (.cells (BI v s) 30)).alloc (.cells #[.int .u8 d.kind, .slice ao d.m c, .int .u64 d.rate, .int .i64 d.mul, .int .i64 d.div, .int .i64 d.lock] 62)).alloc (.cells #[.func (.func 116) #[] #[.pointer (some ((w.heap.size+1) 0))], .func (.func 118) #[] #[.pointer (some ((w.heap.size+1) 0)), .pointer w.heap.size], .func (.func 122) #[] #[.pointer (some ((w.heap.size+1) 0))]] 153)) (w.heap.size) 30 (Fx v s):=by
  have h:=AF.new w (Fx v s) 30;exact((h.alloc _).alloc _)
 have B1:AF (((w.alloc (.cells (BI v s) 30)).alloc (.cells #[.int .u8 d.kind, .slice ao d.m c, .int .u64 d.rate, .int .i64 d.mul, .int .i64 d.div, .int .i64 d.lock] 62)).alloc (.cells #[.func (.func 116) #[] #[.pointer (some ((w.heap.size+1) 0))], .func (.func 118) #[] #[.pointer (some ((w.heap.size+1) 0)), .pointer w.heap.size], .func (.func 122) #[] #[.pointer (some ((w.heap.size+1) 0))]] 153)) (w.heap.size+1) 62 [.int .u8 d.kind, .slice ao d.m c, .int .u64 d.rate, .int .i64 d.mul, .int .i64 d.div, .int .i64 d.lock]:=by
  have h:=AF.new (w.alloc (.cells (BI v s) 30)) [.int .u8 d.kind, .slice ao d.m c, .int .u64 d.rate, .int .i64 d.mul, .int .i64 d.div, .int .i64 d.lock] 62;rw [show(w.alloc (.cells (BI v s) 30)).heap.size=w.heap.size+1 by simp] at h;exact(h.alloc _)
 have KW:AJ w (((w.alloc (.cells #[.slice (some (v.cb 0)) s.nc v.cc, .slice (some (v.db 0)) s.nd v.dc, .slice (some (v.rb 0)) s.nr v.rc, .slice (some (v.vb 0)) s.nv v.vc] 30)).alloc (.cells #[.int .u8 d.kind, .slice ao d.m c, .int .u64 d.rate, .int .i64 d.mul, .int .i64 d.div, .int .i64 d.lock] 62)).alloc (.cells #[.func (.func 116) #[] #[.pointer (some ((w.heap.size+1) 0))], .func (.func 118) #[] #[.pointer (some ((w.heap.size+1) 0)), .pointer (some (w.heap.size 0))], .func (.func 122) #[] #[.pointer (some ((w.heap.size+1) 0))]] 153)):=((((AD.refl _ w).alloc _).alloc _).alloc _);have FO:=Ae (It (w:=(((w.alloc (.cells (BI v s) 30)).alloc (.cells #[.int .u8 d.kind, .slice ao d.m c, .int .u64 d.rate, .int .i64 d.mul, .int .i64 d.div, .int .i64 d.lock] 62)).alloc (.cells #[.func (.func 116) #[] #[.pointer (some ((w.heap.size+1) 0))], .func (.func 118) #[] #[.pointer (some ((w.heap.size+1) 0)), .pointer w.heap.size], .func (.func 122) #[] #[.pointer (some ((w.heap.size+1) 0))]] 153))) (w.heap.size+2) 3 3 (fun i=>match i with | 0=>116 | 1=>118 | _=>122) (fun i=>match i with | 0=> #[.pointer (some ((w.heap.size+1) 0))] | 1=> #[.pointer (some ((w.heap.size+1) 0)), .pointer w.heap.size] | _=> #[.pointer (some ((w.heap.size+1) 0))]) (by omega) (fun i hi=>by
  match i,hi with
  | 0,_=>exact FB.cell 0
  | 1,_=>exact FB.cell 1
  | 2,_=>exact FB.cell 2) FB.lt (fun i hi=>by
  match i,hi with
  | 0,_=>exact ent116
  | 1,_=>exact ent118
  | 2,_=>exact ent122) (fun i hi W kW=>by
  match i,hi with
  | 0,_=>exact yK hd (B1.keep kW id)
  | 1,_=>exact yJ hd hk h2 (B1.keep kW id) (B0.keep kW id) (hf.new (KW.then_ kW))
  | 2,_=>exact yI hd (B1.keep kW id)))
 have KW2:=Ae KW;clear FB KW B0 B1 hd hf;go_in;go_wp2_with fail
 with_reducible refine FO.out.mono ?_
 rintro e w2 ⟨rfl,k2⟩;go_wp2;go_ret;exact⟨rfl,KW2.out.then_ k2⟩
end
section
attribute [local go_sem] BI Fx
theorem xT {d:Do} (hd:d.Ok i) (hi:i<s.nd) (h2:s.nd<=100) (hb:DoBox w B d) (hs:BJ w S s v):
 Calls prog 125 #[.pointer B, .pointer S] w (Az w):=by
 have c0:=hb.z 0;have s1:=hs.z 1;clear hb hs;rcases hd.above with h | ⟨h,h'⟩
 . rw [h] at c0;clear hd h;go_in;go_wp2_with (go_at_call 115;refine mn_ (DK _ _) ?_);go_ret;exact⟨rfl,kx_⟩
 . clear hd;generalize d.above=a at*;have na:(a != -1)=true:=by rw [bne_iff_ne];omega
   go_in;go_wp2_with (first | (go_at_call 121;refine mn_ (Aw _ _ _ _ (by omega) (by omega)) ?_) | (go_at_call 115;refine mn_ (DK _ _) ?_));go_ret;exact⟨rfl,kx_⟩
theorem xS {d:Do} (hd:d.Ok i) (hb:DoBox w B d):
 Calls prog 126 #[.pointer B] w (Az w):=by
 have c0:=hb.z 0;have c1:=hb.z 1;have h:=hd.delay;clear hb hd c0;go_in;go_wp2_with (first | (go_at_call 121;refine mn_ (Aw _ _ _ _ (by omega) (by omega)) ?_) | (go_at_call 115;refine mn_ (DK _ _) ?_));go_ret;exact⟨rfl,kx_⟩
theorem ent125:Fu 125:=fun _ _=>by kernel_rfl
theorem ent126:Fu 126:=fun _ _=>by kernel_rfl
theorem Vk {d:Do} (hd:d.Ok k) (hk:k<s.nd) (h2:s.nd<=100):Calls prog 61 #[.agg (BI v s), .agg #[.int .i64 d.above, .int .i64 d.delay, .bool d.ret]] w (Az w):=by
 have hmf:=mf (P:=prog);have FB:AF (((w.alloc (.cells (BI v s) 30)).alloc (.cells #[.int .i64 d.above, .int .i64 d.delay, .bool d.ret] 47)).alloc (.cells #[.func (.func 125) #[] #[.pointer (some ((w.heap.size+1) 0)), .pointer w.heap.size], .func (.func 126) #[] #[.pointer (some ((w.heap.size+1) 0))]] 153)) (w.heap.size+2) 153 [.func (.func 125) #[] #[.pointer (some ((w.heap.size+1) 0)), .pointer w.heap.size], .func (.func 126) #[] #[.pointer (some ((w.heap.size+1) 0))]]:=by
  have h:=AF.new ((w.alloc (.cells (BI v s) 30)).alloc (.cells #[.int .i64 d.above, .int .i64 d.delay, .bool d.ret] 47)) [.func (.func 125) #[] #[.pointer (some ((w.heap.size+1) 0)), .pointer w.heap.size], .func (.func 126) #[] #[.pointer (some ((w.heap.size+1) 0))]] 153;rw [show((w.alloc (.cells (BI v s) 30)).alloc (.cells #[.int .i64 d.above, .int .i64 d.delay, .bool d.ret] 47)).heap.size=w.heap.size+2 by simp] at h;exact h
 have B0:AF (((w.alloc (.cells (BI v s) 30)).alloc (.cells #[.int .i64 d.above, .int .i64 d.delay, .bool d.ret] 47)).alloc (.cells #[.func (.func 125) #[] #[.pointer (some ((w.heap.size+1) 0)), .pointer w.heap.size], .func (.func 126) #[] #[.pointer (some ((w.heap.size+1) 0))]] 153)) (w.heap.size) 30 (Fx v s):=by
  have h:=AF.new w (Fx v s) 30;exact((h.alloc _).alloc _)
 have B1:AF (((w.alloc (.cells (BI v s) 30)).alloc (.cells #[.int .i64 d.above, .int .i64 d.delay, .bool d.ret] 47)).alloc (.cells #[.func (.func 125) #[] #[.pointer (some ((w.heap.size+1) 0)), .pointer w.heap.size], .func (.func 126) #[] #[.pointer (some ((w.heap.size+1) 0))]] 153)) (w.heap.size+1) 47 [.int .i64 d.above, .int .i64 d.delay, .bool d.ret]:=by
  have h:=AF.new (w.alloc (.cells (BI v s) 30)) [.int .i64 d.above, .int .i64 d.delay, .bool d.ret] 47;rw [show(w.alloc (.cells (BI v s) 30)).heap.size=w.heap.size+1 by simp] at h;exact(h.alloc _)
 have KW:AJ w (((w.alloc (.cells #[.slice (some (v.cb 0)) s.nc v.cc, .slice (some (v.db 0)) s.nd v.dc, .slice (some (v.rb 0)) s.nr v.rc, .slice (some (v.vb 0)) s.nv v.vc] 30)).alloc (.cells #[.int .i64 d.above, .int .i64 d.delay, .bool d.ret] 47)).alloc (.cells #[.func (.func 125) #[] #[.pointer (some ((w.heap.size+1) 0)), .pointer (some (w.heap.size 0))], .func (.func 126) #[] #[.pointer (some ((w.heap.size+1) 0))]] 153)):=((((AD.refl _ w).alloc _).alloc _).alloc _);have FO:=Ae (It (w:=(((w.alloc (.cells (BI v s) 30)).alloc (.cells #[.int .i64 d.above, .int .i64 d.delay, .bool d.ret] 47)).alloc (.cells #[.func (.func 125) #[] #[.pointer (some ((w.heap.size+1) 0)), .pointer w.heap.size], .func (.func 126) #[] #[.pointer (some ((w.heap.size+1) 0))]] 153))) (w.heap.size+2) 2 2 (fun i=>match i with | 0=>125 | _=>126) (fun i=>match i with | 0=> #[.pointer (some ((w.heap.size+1) 0)), .pointer w.heap.size] | _=> #[.pointer (some ((w.heap.size+1) 0))]) (by omega) (fun i hi=>by
  match i,hi with
  | 0,_=>exact FB.cell 0
  | 1,_=>exact FB.cell 1) FB.lt (fun i hi=>by
  match i,hi with
  | 0,_=>exact ent125
  | 1,_=>exact ent126) (fun i hi W kW=>by
  match i,hi with
  | 0,_=>exact xT hd hk h2 (B1.keep kW id) (B0.keep kW id)
  | 1,_=>exact xS hd (B1.keep kW id)))
 have KW2:=Ae KW;clear FB KW B0 B1 hd;go_in;go_wp2_with fail
 with_reducible refine FO.out.mono ?_
 rintro e w2 ⟨rfl,k2⟩;go_wp2;go_ret;exact⟨rfl,KW2.out.then_ k2⟩
theorem X0 (x:Int) (h:0<=x∧x<=3):Calls prog 66 #[.agg #[.int .i64 x]] w (Az w):=by
 go_in;go_wp2_with (first | (go_at_call 121;refine mn_ (Aw _ _ _ _ (by omega) (by omega)) ?_) | (go_at_call 115;refine mn_ (DK _ _) ?_));go_ret;exact⟨rfl,(AD.refl _ w).alloc _⟩
theorem yB {d:Dv} (h1:d.clock<s.nc) (h2:s.nc<=100) (hb:UL w B d ag cg aq cq) (hs:BJ w S s v):
 Calls prog 127 #[.pointer B, .pointer S] w (Az w):=by
 have c0:=hb.z 0;have s0:=hs.z 0;clear hb hs;go_in;go_wp2_with (first | (go_at_call 121;refine mn_ (Aw _ _ _ _ (by omega) (by omega)) ?_) | (go_at_call 115;refine mn_ (DK _ _) ?_));go_ret;exact⟨rfl,kx_⟩
theorem yA {d:Dv} (h1:d.dom<s.nd) (h2:s.nd<=100) (hb:UL w B d ag cg aq cq) (hs:BJ w S s v):
 Calls prog 128 #[.pointer B, .pointer S] w (Az w):=by
 have c1:=hb.z 1;have s1:=hs.z 1;clear hb hs;go_in;go_wp2_with (first | (go_at_call 121;refine mn_ (Aw _ _ _ _ (by omega) (by omega)) ?_) | (go_at_call 115;refine mn_ (DK _ _) ?_));go_ret;exact⟨rfl,kx_⟩
theorem xZ {d:Dv} (h1:d.line<s.nr) (h2:s.nr<=100) (hb:UL w B d ag cg aq cq) (hs:BJ w S s v):
 Calls prog 129 #[.pointer B, .pointer S] w (Az w):=by
 have c2:=hb.z 2;have s2:=hs.z 2;clear hb hs;go_in;go_wp2_with (first | (go_at_call 121;refine mn_ (Aw _ _ _ _ (by omega) (by omega)) ?_) | (go_at_call 115;refine mn_ (DK _ _) ?_));go_ret;exact⟨rfl,kx_⟩
theorem Ya (f:Int) (h0:0<=f) (h1:f<s.nv) (h2:s.nv<=100) (hb:BJ w B s v):Calls prog 131 #[.int .i64 f, .pointer B] w (Az w):=by
 have s3:=hb.z 3;clear hb;go_in;go_wp2_with (first | (go_at_call 121;refine mn_ (Aw _ _ _ _ (by omega) (by omega)) ?_) | (go_at_call 115;refine mn_ (DK _ _) ?_));go_ret;exact⟨rfl,kx_⟩
theorem ent131:Fu 131:=fun _ _=>by kernel_rfl
theorem xY {d:Dv} (hn:d.nneed<=2) (hl:∀j,j<d.nneed->d.need j<s.nv) (h2:s.nv<=100) (hb:UL w B d ag cg aq cq) (hs:BJ w S s v) (hf:CH w aq d.nneed (fun j=>(d.need j:Int))):
 Calls prog 130 #[.pointer B, .pointer S] w (Az w):=by
 have hmf:=mf (P:=prog);have c5:=hb.z 5;have HL:=Ae hl;have HS:=Ae hs;have HF:=Ae hf;clear hb hs hf hl;go_in;go_wp2_with fail;refine(QU _ _ _ (fun j=>(d.need j:Int)) 131 #[.pointer S] (by omega) HF.out ent131 (fun k hk W k2=>Ya _ (by omega) (by have:=HL.out k hk;omega) h2 (HS.out.keep k2 id))).mono ?_;rintro e w2 ⟨rfl,k2⟩;go_wp2;go_ret;exact⟨rfl,k2⟩
structure Dv.Ok (d:Dv) (s:AE):Prop where
 clock:d.clock<s.nc
 dom:d.dom<s.nd
 line:d.line<s.nr
 regs:d.nreg<=4
 needs:d.nneed<=2
 need:∀j,j<d.nneed->d.need j<s.nv
theorem AE.Ok.dev (h:s.Ok) (i:Nat) (hi:i<s.nv):(s.dv i).Ok s:=
 ⟨h.clock i hi,h.dom i hi,h.line i hi,h.regs i hi,h.needs i hi,fun j hj=>by have:=h.need i hi j hj;omega⟩
theorem ent127:Fu 127:=fun _ _=>by kernel_rfl
theorem ent128:Fu 128:=fun _ _=>by kernel_rfl
theorem ent129:Fu 129:=fun _ _=>by kernel_rfl
theorem ent130:Fu 130:=fun _ _=>by kernel_rfl
theorem Vm {d:Dv} (hs:s.Ok) (hd:d.Ok s) (hf:CH w aq d.nneed (fun j=>(d.need j:Int))):Calls prog 70 #[.agg (BI v s), .agg #[.int .i64 d.clock, .int .i64 d.dom, .int .i64 d.line, .int .u32 d.clamp, .slice ag d.nreg cg, .slice aq d.nneed cq]] w (Az w):=by
 have hmf:=mf (P:=prog);have FB:AF (((w.alloc (.cells (BI v s) 30)).alloc (.cells #[.int .i64 d.clock, .int .i64 d.dom, .int .i64 d.line, .int .u32 d.clamp, .slice ag d.nreg cg, .slice aq d.nneed cq] 40)).alloc (.cells #[.func (.func 127) #[] #[.pointer (some ((w.heap.size+1) 0)), .pointer w.heap.size], .func (.func 128) #[] #[.pointer (some ((w.heap.size+1) 0)), .pointer w.heap.size], .func (.func 129) #[] #[.pointer (some ((w.heap.size+1) 0)), .pointer w.heap.size], .func (.func 130) #[] #[.pointer (some ((w.heap.size+1) 0)), .pointer w.heap.size]] 153)) (w.heap.size+2) 153 [.func (.func 127) #[] #[.pointer (some ((w.heap.size+1) 0)), .pointer w.heap.size], .func (.func 128) #[] #[.pointer (some ((w.heap.size+1) 0)), .pointer w.heap.size], .func (.func 129) #[] #[.pointer (some ((w.heap.size+1) 0)), .pointer w.heap.size], .func (.func 130) #[] #[.pointer (some ((w.heap.size+1) 0)), .pointer w.heap.size]]:=by
  have h:=AF.new ((w.alloc (.cells (BI v s) 30)).alloc (.cells #[.int .i64 d.clock, .int .i64 d.dom, .int .i64 d.line, .int .u32 d.clamp, .slice ag d.nreg cg, .slice aq d.nneed cq] 40)) [.func (.func 127) #[] #[.pointer (some ((w.heap.size+1) 0)), .pointer w.heap.size], .func (.func 128) #[] #[.pointer (some ((w.heap.size+1) 0)), .pointer w.heap.size], .func (.func 129) #[] #[.pointer (some ((w.heap.size+1) 0)), .pointer w.heap.size], .func (.func 130) #[] #[.pointer (some ((w.heap.size+1) 0)), .pointer w.heap.size]] 153;rw [show((w.alloc (.cells (BI v s) 30)).alloc (.cells #[.int .i64 d.clock, .int .i64 d.dom, .int .i64 d.line, .int .u32 d.clamp, .slice ag d.nreg cg, .slice aq d.nneed cq] 40)).heap.size=w.heap.size+2 by simp] at h;exact h
 have B0:AF (((w.alloc (.cells (BI v s) 30)).alloc (.cells #[.int .i64 d.clock, .int .i64 d.dom, .int .i64 d.line, .int .u32 d.clamp, .slice ag d.nreg cg, .slice aq d.nneed cq] 40)).alloc (.cells #[.func (.func 127) #[] #[.pointer (some ((w.heap.size+1) 0)), .pointer w.heap.size], .func (.func 128) #[] #[.pointer (some ((w.heap.size+1) 0)), .pointer w.heap.size], .func (.func 129) #[] #[.pointer (some ((w.heap.size+1) 0)), .pointer w.heap.size], .func (.func 130) #[] #[.pointer (some ((w.heap.size+1) 0)), .pointer w.heap.size]] 153)) (w.heap.size) 30 (Fx v s):=by
  have h:=AF.new w (Fx v s) 30;exact((h.alloc _).alloc _)
 have B1:AF (((w.alloc (.cells (BI v s) 30)).alloc (.cells #[.int .i64 d.clock, .int .i64 d.dom, .int .i64 d.line, .int .u32 d.clamp, .slice ag d.nreg cg, .slice aq d.nneed cq] 40)).alloc (.cells #[.func (.func 127) #[] #[.pointer (some ((w.heap.size+1) 0)), .pointer w.heap.size], .func (.func 128) #[] #[.pointer (some ((w.heap.size+1) 0)), .pointer w.heap.size], .func (.func 129) #[] #[.pointer (some ((w.heap.size+1) 0)), .pointer w.heap.size], .func (.func 130) #[] #[.pointer (some ((w.heap.size+1) 0)), .pointer w.heap.size]] 153)) (w.heap.size+1) 40 [.int .i64 d.clock, .int .i64 d.dom, .int .i64 d.line, .int .u32 d.clamp, .slice ag d.nreg cg, .slice aq d.nneed cq]:=by
  have h:=AF.new (w.alloc (.cells (BI v s) 30)) [.int .i64 d.clock, .int .i64 d.dom, .int .i64 d.line, .int .u32 d.clamp, .slice ag d.nreg cg, .slice aq d.nneed cq] 40;rw [show(w.alloc (.cells (BI v s) 30)).heap.size=w.heap.size+1 by simp] at h;exact(h.alloc _)
 have KW:AJ w (((w.alloc (.cells #[.slice (some (v.cb 0)) s.nc v.cc, .slice (some (v.db 0)) s.nd v.dc, .slice (some (v.rb 0)) s.nr v.rc, .slice (some (v.vb 0)) s.nv v.vc] 30)).alloc (.cells #[.int .i64 (d.clock:Int), .int .i64 (d.dom:Int), .int .i64 (d.line:Int), .int .u32 d.clamp, .slice ag d.nreg cg, .slice aq d.nneed cq] 40)).alloc (.cells #[.func (.func 127) #[] #[.pointer (some ((w.heap.size+1) 0)), .pointer (some (w.heap.size 0))], .func (.func 128) #[] #[.pointer (some ((w.heap.size+1) 0)), .pointer (some (w.heap.size 0))], .func (.func 129) #[] #[.pointer (some ((w.heap.size+1) 0)), .pointer (some (w.heap.size 0))], .func (.func 130) #[] #[.pointer (some ((w.heap.size+1) 0)), .pointer (some (w.heap.size 0))]] 153)):=((((AD.refl _ w).alloc _).alloc _).alloc _);have FO:=Ae (It (w:=(((w.alloc (.cells (BI v s) 30)).alloc (.cells #[.int .i64 d.clock, .int .i64 d.dom, .int .i64 d.line, .int .u32 d.clamp, .slice ag d.nreg cg, .slice aq d.nneed cq] 40)).alloc (.cells #[.func (.func 127) #[] #[.pointer (some ((w.heap.size+1) 0)), .pointer w.heap.size], .func (.func 128) #[] #[.pointer (some ((w.heap.size+1) 0)), .pointer w.heap.size], .func (.func 129) #[] #[.pointer (some ((w.heap.size+1) 0)), .pointer w.heap.size], .func (.func 130) #[] #[.pointer (some ((w.heap.size+1) 0)), .pointer w.heap.size]] 153))) (w.heap.size+2) 4 4 (fun i=>match i with | 0=>127 | 1=>128 | 2=>129 | _=>130) (fun i=>match i with | 0=> #[.pointer (some ((w.heap.size+1) 0)), .pointer w.heap.size] | 1=> #[.pointer (some ((w.heap.size+1) 0)), .pointer w.heap.size] | 2=> #[.pointer (some ((w.heap.size+1) 0)), .pointer w.heap.size] | _=> #[.pointer (some ((w.heap.size+1) 0)), .pointer w.heap.size]) (by omega) (fun i hi=>by
  match i,hi with
  | 0,_=>exact FB.cell 0
  | 1,_=>exact FB.cell 1
  | 2,_=>exact FB.cell 2
  | 3,_=>exact FB.cell 3) FB.lt (fun i hi=>by
  match i,hi with
  | 0,_=>exact ent127
  | 1,_=>exact ent128
  | 2,_=>exact ent129
  | 3,_=>exact ent130) (fun i hi W kW=>by
  match i,hi with
  | 0,_=>exact yB hd.clock (by have:=hs.c2;omega) (B1.keep kW id) (B0.keep kW id)
  | 1,_=>exact yA hd.dom (by have:=hs.d2;omega) (B1.keep kW id) (B0.keep kW id)
  | 2,_=>exact xZ hd.line (by have:=hs.r2;omega) (B1.keep kW id) (B0.keep kW id)
  | 3,_=>exact xY hd.needs hd.need (by have:=hs.v2;omega) (B1.keep kW id) (B0.keep kW id) (hf.new (KW.then_ kW))))
 have KW2:=Ae KW;clear FB KW B0 B1 hd hf;go_in;go_wp2_with fail
 with_reducible refine FO.out.mono ?_
 rintro e w2 ⟨rfl,k2⟩;go_wp2;go_ret;exact⟨rfl,KW2.out.then_ k2⟩
end
section
attribute [local go_sem] BI Fx
theorem A6.srcs (h:A6 w v s) (i:Nat) (hi:i<s.nc) (e:Aa (v.fb i) (s.ck i).m (v.fc i)= .slice ao (s.ck i).m c):CH w ao (s.ck i).m (fun j=>((s.ck i).src j:Int)):=NJ e (h.src i hi)
theorem A6.needs (h:A6 w v s) (i:Nat) (hi:i<s.nv) (e:Aa (v.qb i) (s.dv i).nneed (v.qc i)= .slice ao (s.dv i).nneed c):CH w ao (s.dv i).nneed (fun j=>((s.dv i).need j:Int)):=NJ e (h.need i hi)
theorem Yl (hd:d.Ok k) (hk:k<s.nc) (h2:s.nc<=100) (hf:CH w ao d.m (fun j=>(d.src j:Int))) (hb:BJ w B s v):
 Calls prog 53 #[.agg #[.int .u8 d.kind, .slice ao d.m c, .int .u64 d.rate, .int .i64 d.mul, .int .i64 d.div, .int .i64 d.lock], .pointer B] w (Az w):=by
 have s0:=hb.z 0;have s1:=hb.z 1;have s2:=hb.z 2;have s3:=hb.z 3;have HD:=Ae hd;have HF:=Ae hf;have lb:=hb.lt;clear hb hd hf;go_in;go_wp2_with fail;refine(Yh (s:=s) (v:=v) HD.out hk h2 (HF.out.new ((AD.refl _ w).alloc _))).mono ?_;rintro e w2 ⟨rfl,k2⟩;go_wp2;go_ret;exact⟨rfl,((AD.refl _ w).alloc _).then_ k2⟩
theorem ent53:Fu 53:=fun _ _=>by kernel_rfl
theorem Yk {d:Do} (hd:d.Ok k) (hk:k<s.nd) (h2:s.nd<=100) (hb:BJ w B s v):
 Calls prog 60 #[.agg #[.int .i64 d.above, .int .i64 d.delay, .bool d.ret], .pointer B] w (Az w):=by
 have s0:=hb.z 0;have s1:=hb.z 1;have s2:=hb.z 2;have s3:=hb.z 3;have HD:=Ae hd;have lb:=hb.lt;clear hb hd;go_in;go_wp2_with fail;refine(Vk (s:=s) (v:=v) HD.out hk h2).mono ?_;rintro e w2 ⟨rfl,k2⟩;go_wp2;go_ret;exact⟨rfl,((AD.refl _ w).alloc _).then_ k2⟩
theorem ent60:Fu 60:=fun _ _=>by kernel_rfl
theorem Yj {d:Dv} (hs:s.Ok) (hd:d.Ok s) (hf:CH w aq d.nneed (fun j=>(d.need j:Int))) (hb:BJ w B s v):
 Calls prog 69 #[.agg #[.int .i64 d.clock, .int .i64 d.dom, .int .i64 d.line, .int .u32 d.clamp, .slice ag d.nreg cg, .slice aq d.nneed cq], .pointer B] w (Az w):=by
 have s0:=hb.z 0;have s1:=hb.z 1;have s2:=hb.z 2;have s3:=hb.z 3;have HD:=Ae hd;have HF:=Ae hf;have HS:=Ae hs;have lb:=hb.lt;clear hb hd hf hs;go_in;go_wp2_with fail;refine(Vm (s:=s) (v:=v) HS.out HD.out (HF.out.new ((AD.refl _ w).alloc _))).mono ?_;rintro e w2 ⟨rfl,k2⟩;go_wp2;go_ret;exact⟨rfl,((AD.refl _ w).alloc _).then_ k2⟩
theorem ent69:Fu 69:=fun _ _=>by kernel_rfl
theorem ent66:Fu 66:=fun _ _=>by kernel_rfl
theorem yR (hs:s.Ok) (ha:A6 w v s) (hb:BJ w B s v):
 Calls prog 51 #[.pointer B] w (Az w):=by
 have hmf:=mf (P:=prog);have s0:=hb.z 0;have HS:=Ae hs;have HA:=Ae ha;have HB:=Ae hb;clear hs ha hb;go_in;go_wp2_with fail;refine(Vi s.ck v.fb v.fc _ _ _ 53 #[.pointer B] (by have:=HS.out.c2;omega) HA.out.ck ent53 (fun k hk ao c es W kW=>Yl (HS.out.ck k hk) hk (by have:=HS.out.c2;omega) ((HA.out.new kW).srcs k hk es) (HB.out.keep kW id))).mono ?_;rintro e w2 ⟨rfl,k2⟩;go_wp2;go_ret;exact⟨rfl,k2⟩
theorem yP (hs:s.Ok) (ha:A6 w v s) (hb:BJ w B s v):
 Calls prog 58 #[.pointer B] w (Az w):=by
 have hmf:=mf (P:=prog);have s1:=hb.z 1;have HS:=Ae hs;have HA:=Ae ha;have HB:=Ae hb;clear hs ha hb;go_in;go_wp2_with fail;refine(Vj s.dm _ _ _ 60 #[.pointer B] (by have:=HS.out.d2;omega) HA.out.dm ent60 (fun k hk W kW=>Yk (HS.out.dm k hk) hk (by have:=HS.out.d2;omega) (HB.out.keep kW id))).mono ?_;rintro e w2 ⟨rfl,k2⟩;go_wp2;go_ret;exact⟨rfl,k2⟩
theorem yN (hs:s.Ok) (ha:A6 w v s) (hb:BJ w B s v):
 Calls prog 64 #[.pointer B] w (Az w):=by
 have hmf:=mf (P:=prog);have s2:=hb.z 2;have HS:=Ae hs;have HA:=Ae ha;have HB:=Ae hb;clear hs ha hb;go_in;go_wp2_with fail;refine(Vh s.rs _ _ _ 66 #[] (by have:=HS.out.r2;omega) HA.out.rs ent66 (fun k hk W kW=>X0 _ (HS.out.rs k hk))).mono ?_;rintro e w2 ⟨rfl,k2⟩;go_wp2;go_ret;exact⟨rfl,k2⟩
theorem yM (hs:s.Ok) (ha:A6 w v s) (hb:BJ w B s v):
 Calls prog 67 #[.pointer B] w (Az w):=by
 have hmf:=mf (P:=prog);have s3:=hb.z 3;have HS:=Ae hs;have HA:=Ae ha;have HB:=Ae hb;clear hs ha hb;go_in;go_wp2_with fail;refine(NV s.dv v.gb v.gc v.qb v.qc _ _ _ 69 #[.pointer B] (by have:=HS.out.v2;omega) HA.out.dv ent69 (fun k hk ag cg aq cq es et W kW=>Yj HS.out (HS.out.dev k hk) ((HA.out.new kW).needs k hk et) (HB.out.keep kW id))).mono ?_;rintro e w2 ⟨rfl,k2⟩;go_wp2;go_ret;exact⟨rfl,k2⟩
theorem YQ {d:Dv} (hd:d.Ok s):
 Calls prog 114 #[.agg #[.int .i64 d.clock, .int .i64 d.dom, .int .i64 d.line, .int .u32 d.clamp, .slice ag d.nreg cg, .slice aq d.nneed cq]] w (Az w):=by
 have h1:=hd.regs;have h2:=hd.needs;clear hd;generalize d.nreg=a at*;generalize d.nneed=b at*;go_in;go_wp2_with fail;rw [show(decide ((8:Int)<(a:Int))||decide ((6:Int)<(b:Int)))=false by simp;omega];refine mn_ (DK _ _) ?_;go_wp2;go_ret;exact⟨rfl,(AD.refl _ w).alloc _⟩
theorem ent114:Fu 114:=fun _ _=>by kernel_rfl
theorem xM (hs:s.Ok) (ha:A6 w v s):Calls prog 50 #[.agg (BI v s)] w (Az w):=by
 have n1:=hs.c2;have n2:=hs.d2;have n3:=hs.r2;have n4:=hs.v2;have HS:=Ae hs;have HA:=Ae (ha.new ((AD.refl _ w).alloc (.cells (BI v s) 30)));clear hs ha;go_in;go_wp2_with fail;refine(NV s.dv v.gb v.gc v.qb v.qc _ _ _ 114 #[] (by omega) HA.out.dv ent114 (fun k hk ag cg aq cq es et W kW=>YQ (HS.out.dev k hk))).mono ?_;rintro e w2 ⟨rfl,k2⟩;go_wp2;go_ret;exact⟨rfl,((AD.refl _ w).alloc _).then_ k2⟩
theorem yS (hs:s.Ok) (ha:A6 w v s) (hb:BJ w B s v):
 Calls prog 49 #[.pointer B] w (Az w):=by
 have s0:=hb.z 0;have s1:=hb.z 1;have s2:=hb.z 2;have s3:=hb.z 3;have HS:=Ae hs;have HA:=Ae ha;clear hs ha hb;go_in;go_wp2_with fail;refine(xM HS.out HA.out).mono ?_;rintro e w2 ⟨rfl,k2⟩;go_wp2;go_ret;exact⟨rfl,k2⟩
end
end Go.Proofs.YtpekoejdnhaohaaGreatDoor
