/- TopKept: behind any row of puts and gets, suspends and resumes, of one task alone, a device that is got has its registers as the statement says: for every input. The condition: the listed package-level variables hold what the program's text lays; the card ties that to the text. -/
import Derived.Test.YtpekoejdnhaohaaGreatDoorRows
import Derived.Test.YtpekoejdnhaohaaGreatDoorTie
import Derived.Test.YtpekoejdnhaohaaGreatDoorCards
import Derived.ShutString
import Derived.ChangeOld
import Derived.HandedShaped
import Derived.LaidLaws
import Derived.LaidHandle
import Derived.SevenTiedAt
import Derived.Laws.IdiomArrays
import Derived.Shelf.Vars
import Derived.Test.YtpekoejdnhaohaaGreatDoorBE
namespace Go.Proofs.YtpekoejdnhaohaaGreatDoor
open Go.RowKit
set_option maxRecDepth 100000
set_option maxHeartbeats 40000000
set_option linter.all false
variable {w:World}
section
open Go.ChangeShapes Go.WideShapes Go.ChangeAt
open Go.ChangeMaps (open_string shut_string)
theorem own:ownKnob Tryz.prog.godebug=none:=by kernel_rfl
theorem jf_laid:laidOutB Tryz.pinned.checked.prog=true:=by kernel_rfl
theorem OM:laidOutB Tryz.prog=true:=jf_laid
theorem VD {w':World} (h:AJ w w'):Below w.heap.size w w':=⟨h.os,h.tape,h.output,h.size,fun k hk=>h.block k hk id⟩
abbrev JY (w:World):Prop:=laidMetH Tryz.prog Rows.topKeptRow.laid w
theorem Xz (h:JY w):laidMet Tryz.prog Rows.topKeptRow.laid w:=h
theorem Gw:Tryz.prog.globalNamed "catnap/quiet.letters"=some 1:=by kernel_rfl
theorem OK:(Tryz.prog.globals[1]?).map (·.type)=some 372:=by kernel_rfl
theorem cells5:Tryz.prog.cellsOf 5=1:=by kernel_rfl
theorem Yp:Tryz.prog.cellsOf 372=4:=by kernel_rfl
theorem lits4 {enc:TypeId × Value->Unit} {fuel:Nat} {cs:List Value} {p:List MemPlace} (h:DataW.trod enc Tryz.prog w 0 (fun _=>true) false fuel 372 cs=some (Rows.laid_catnap_quiet_letters,p)):
 cs=[.int .u8 114, .int .u8 97, .int .u8 115, .int .u8 100]:=by
 obtain⟨_,_,_,_,hl,_⟩:=DataW.trod_array Tryz.underlying372 h;rw [Yp] at hl;obtain⟨c0,c1,c2,c3,rfl⟩:∃c0 c1 c2 c3,cs=[c0,c1,c2,c3]:=by
  rcases cs with _ | ⟨c0,_ | ⟨c1,_ | ⟨c2,_ | ⟨c3,_ | ⟨c4,r⟩⟩⟩⟩⟩
  . cases hl
  . cases hl
  . cases hl
  . cases hl
  . exact⟨c0,c1,c2,c3,rfl⟩
  . simp at hl
 obtain⟨y0,y1,y2,y3,n,e,h0,h1,h2,h3⟩:=trod_array4 Tryz.underlying372 cells5 h;obtain⟨n0,e0,x0,_⟩:=DataW.trod_int Tryz.underlying5 h0;obtain⟨n1,e1,x1,_⟩:=DataW.trod_int Tryz.underlying5 h1;obtain⟨n2,e2,x2,_⟩:=DataW.trod_int Tryz.underlying5 h2;obtain⟨n3,e3,x3,_⟩:=DataW.trod_int Tryz.underlying5 h3;subst x0 x1 x2 x3;unfold Rows.laid_catnap_quiet_letters at e;simp only [Prod.mk.injEq,DataW.agg.injEq,List.cons.injEq,DataW.lit.injEq,Lit.int.injEq,and_true,true_and] at e;obtain⟨⟨q0,q1,q2,q3⟩,_⟩:=e;injection e0 with e0;injection e1 with e1;injection e2 with e2;injection e3 with e3;rw [e0,e1,e2,e3, <-q0, <-q1, <-q2, <-q3]
theorem SI (h:JY w):Ai w:=by
 obtain⟨ps,hv,_⟩:=Xz h;obtain⟨_,_,_,_,_,_,_,_,_,_,hv,_⟩:=hv;obtain⟨_,_,_,_,_,_,_,_,_,_,hv,_⟩:=hv;obtain⟨_,_,_,_,_,_,_,_,_,_,hv,_⟩:=hv;obtain⟨_,_,_,_,_,_,_,_,_,_,hv,_⟩:=hv;obtain⟨g,t,cs,fuel,p,q,hg,ht,hc,hd,_⟩:=hv;obtain rfl:=Option.some.inj (Gw.symm.trans hg);obtain rfl:=Option.some.inj (OK.symm.trans ht);have e:=lits4 hd;have c:=World.var?_cell Gw hc;have e':cs= #[.int .u8 114, .int .u8 97, .int .u8 115, .int .u8 100]:=by rw [<-Array.toArray_toList (xs:=cs),e]
 subst e';have c0:=c 0;exact⟨c0,c 1,c 2,c 3,al22_ w _ c0⟩
def Yo:DataW Unit->List Value
 | .agg l=>l.flatMap fun
  | .lit (.int k n)=>[.int k n]
  | .agg m=>m.flatMap fun
   | .lit (.int k n)=>[.int k n]
   | _=>[]
  | _=>[]
 | _=>[]
def JH (d:DataW Unit):Obj->Obj
 | .cells _ t fr=> .cells (Yo d).toArray t fr
 | o=>o
noncomputable def JI (os:Os):World:=
 let w0:=World.holding Tryz.prog os ⟨#[], #[],[]⟩
 { w0 with heap:=((((((w0.heap.modify 1 (JH Rows.laid_catnap_quiet_letters)).modify 2 (JH Rows.laid_unicode_utf8_first)).modify 3 (JH Rows.laid_unicode_utf8_acceptRanges)).modify 4 (JH Rows.laid_internal_strconv_uint64pow10)).modify 5 (JH Rows.laid_math_bits_deBruijn32tab)).modify 6 (JH Rows.laid_math_bits_deBruijn64tab)) }
theorem MZ (os:Os) (args:Array Value):JY ((JI os).forCall (fun _ _=>0) ⟨#[],args,[]⟩).memory:=
 laidMet_of_run' 8 (by kernel_rfl) (by kernel_rfl)
abbrev Qk:Array Value:= #[.slice none 0 0, .int .i64 0, .slice none 0 0, .slice none 0 0]
noncomputable abbrev Wy (os:Os):World:=(JI os).forCall (fun _ _=>0) ⟨#[],Qk,[]⟩
theorem wit1 (os:Os):(Wy os).variablesB Tryz.prog=true:=by kernel_rfl
theorem wit2 (os:Os):((Wy os).heap.toList.drop Tryz.prog.globals.size).take ((begin Tryz.prog (fun _ _=>0) default).world.heap.size - Tryz.prog.globals.size)=(begin Tryz.prog (fun _ _=>0) default).world.heap.toList.drop Tryz.prog.globals.size:=by kernel_rfl
theorem wit3 (os:Os):Input.okWideB Tryz.prog (Wy os) 3 ⟨#[],Qk,[]⟩=true:=by kernel_rfl
theorem wit4 {H:Type} (enc:TypeId × Value->H) (os:Os):Rows.topKeptSpec.preB enc Tryz.prog Tryz.f3 Rows.topKeptRow.domain false (Wy os).memory Qk 8=true:=by kernel_rfl
theorem wit5 {H:Type} (enc:TypeId × Value->H) (os:Os):Rows.topKeptSpec.sizedB enc Tryz.prog Tryz.f3 false (Wy os).memory Qk 8=true:=by kernel_rfl
theorem UN {H:Type} {enc:TypeId × Value->H} {a:Assume} {C:Checked} {os:Os} {f:FuncId} {fn:Func} {s:ChangeSpec} {conds:List PathCond} {apart fresh handsOn again:Bool} {X:World->Array Value->Prop}
 (hX:∀ (w w':World) (args:Array Value),w.heap=w'.heap->X w args->X w' args)
 (own:ownKnob C.prog.godebug=none) (started:os.Started) (noInit:C.prog.inits.idxOf? f=none) (hfn:C.prog.funcs[f]?=some fn)
 (witness:∃ (w:World) (tape:Tape) (i:Input),w.os=os∧(w.forCall tape i).Shaped C.prog∧i.vars=[]∧Input.okWide C.prog (w.forCall tape i) .any w.heap.size f i∧
  ((s.pre enc C.prog fn conds apart (w.forCall tape i).memory i.args∧X (w.forCall tape i).memory i.args)∧sizedMet enc C.prog fn (OpenSpec.ofChange s) apart (w.forCall tape i).memory i.args)∧a.holds C.prog (lone (Frame.enter C.prog f i.args .normal) [] (w.forCall tape i)))
 (contract:∀ (W:World) (base:Nat) (args:Array Value) (ds gs:List (DataW H)) (before:List MemPlace),
  (∀ (j:Nat) t v,fn.params[j]?=some t->args[j]?=some v->Value.okWide C.prog W .any base t v)->
  DataW.Whole enc C.prog fn.params.toList s.vars apart W args.toList ds gs before->W.ShapedOpen C.prog->X W args->
  Calls C.prog f args W fun e W'=>∃v,e= .returned v∧s.post enc C.prog fn apart fresh handsOn again W args v W'):
 ReturnsInHanded a C os f .any (fun w args=>(s.pre enc C.prog fn conds apart w args∧X w args)∧sizedMet enc C.prog fn (OpenSpec.ofChange s) apart w args) (s.post enc C.prog fn apart fresh handsOn again):=by
 refine returnsInHanded_of_calls own started noInit witness ?_;intro w tape i _ hsh _ hok hpre _;obtain⟨_,_,_,fn',hfn',_,_,_,_,hval⟩:=hok;obtain rfl:fn'=fn:=Option.some.inj (hfn'.symm.trans hfn);obtain⟨⟨⟨ds,gs,before,hw,_⟩,hx⟩,_⟩:=hpre;refine(contract (w.forCall tape i) w.heap.size i.args ds gs before hval (DataW.Whole.of_heap (w':=w.forCall tape i) (by rfl) hw) hsh (hX _ _ _ (by rfl) hx)).mono ?_;rintro e W' ⟨v,rfl,hp⟩;exact ChangeSpec.post_blind hp
theorem OD {k:IntKind} {a:Option Addr} {len cap:Nat} {z:List Int} (h:Qu k w a len cap z):len<=9223372036854775807:=by
 rcases h with⟨_,h,_⟩ | ⟨_,_,h1,h2,_⟩
 . omega
 . unfold maxLen at h2;omega
theorem zQ {W:World} (h:W.ShapedOpen Tryz.prog):∃m:Int,W.cell? ⟨0,0,none⟩=some (.int .i64 m):=Go.Proofs.cell_of_shapedOpen_int (g:=0) (t:=3) (zero:= #[.int .i64 0]) h (of_decide_eq_true (by kernel_rfl)) (by kernel_rfl) rfl (by kernel_rfl) (by kernel_rfl) Tryz.underlying3
theorem lifted (os:Os) (started:os.Started) (H:Type) (enc:TypeId × Value->H):
 ReturnsInHanded {} Tryz.checked os 3 .any (fun w args=>(Rows.topKeptSpec.pre enc Tryz.prog Tryz.f3 Rows.topKeptRow.domain false w args∧JY w)∧sizedMet enc Tryz.prog Tryz.f3 (OpenSpec.ofChange Rows.topKeptSpec) false w args) (Rows.topKeptSpec.post enc Tryz.prog Tryz.f3 false true false false):=by
 refine UN (C:=Tryz.checked) (X:=fun w _=>JY w) (fun _ _ _ hh h=>laidMet.of_heap hh h) own started (by kernel_rfl) Tryz.func3
  (ChangeSpec.witness_at (enc:=enc) (C:=Tryz.checked) (os:=os) (X:=fun w _=>JY w) false (JI os) Qk 8 rfl (wit1 os) (wit2 os) (wit3 os) (wit4 enc os) (wit5 enc os) (MZ os _)) ?_
 intro W base args ds gs before hval0 hW hsh hL;have hval:∀ (j:Nat) t v,Tryz.f3.params[j]?=some t->args[j]?=some v->Value.okWide Tryz.prog W .any base t v:=hval0;have hW':=hW;obtain⟨p,q,hA0,hV,rfl,hfz,hnd⟩:=hW;have hA:DataW.TrodAll enc Tryz.prog W 0 (fun _=>true) true Tryz.f3.params.toList args.toList ds p:=hA0;rw [Tryz.params3] at hA hval;obtain⟨v0,vs0,d0,ds0,p0,q0,hargs,rfl,rfl,h0,r0⟩:=trodAll_cons hA;obtain⟨v1,vs1,d1,ds1,p1,q1,rfl,rfl,rfl,h1,r1⟩:=trodAll_cons r0;obtain⟨v2,vs2,d2,ds2,p2,q2,rfl,rfl,rfl,h2,r2⟩:=trodAll_cons r1;obtain⟨v3,vs3,d3,ds3,p3,q3,rfl,rfl,rfl,h3,r3⟩:=trodAll_cons r2;obtain⟨rfl,rfl,rfl⟩:=trodAll_nil r3;obtain rfl:args= #[v0,v1,v2,v3]:=by cases args;simp_all
 obtain⟨rfl,rfl⟩:=trodVars_none hV;obtain⟨a0,len0,cap0,rfl⟩:=okWide_slice Tryz.underlying22 (hval 0 22 v0 rfl rfl);have k0:=h0;have lt0:∀x ∈ p0,x.block<W.heap.size:=by obtain⟨m,hm⟩:=k0;exact DataW.trod_lt m _ _ _ hm
 obtain⟨z0,w0⟩:∃zs,Qu .i64 W a0 len0 cap0 zs:=by
  obtain⟨fuel,hf⟩:=h0;rcases open_ints Tryz.underlying22 Tryz.underlying3 (by kernel_rfl) hf with⟨hcs,_⟩ | ⟨x,l,c,zs,hcs,_,hl,hm,hz,_,hcell,hwz⟩
  . simp [Value.cells] at hcs;obtain⟨rfl,rfl,rfl⟩:=hcs;exact⟨[], .inl ⟨rfl,rfl,rfl,rfl⟩⟩
  . simp [Value.cells] at hcs;obtain⟨rfl,rfl,rfl⟩:=hcs;refine⟨zs, .inr ⟨_,rfl,hl,hm,by simpa using hz,hcell,hwz,fun i hi=>?_⟩⟩;exact al22_ W _ (hcell i hi)
 obtain⟨a1,rfl,rfl,rfl,w1⟩:=open_int Tryz.underlying3 (hval 1 3 v1 rfl rfl) h1;obtain⟨a2,len2,cap2,rfl⟩:=okWide_slice Tryz.underlying23 (hval 2 23 v2 rfl rfl);have k2:=h2;have lt2:∀x ∈ p2,x.block<W.heap.size:=by obtain⟨m,hm⟩:=k2;exact DataW.trod_lt m _ _ _ hm
 obtain⟨z2,w2⟩:∃zs,Qu .u32 W a2 len2 cap2 zs:=by
  obtain⟨fuel,hf⟩:=h2;rcases open_ints Tryz.underlying23 Tryz.underlying37 (by kernel_rfl) hf with⟨hcs,_⟩ | ⟨x,l,c,zs,hcs,_,hl,hm,hz,_,hcell,hwz⟩
  . simp [Value.cells] at hcs;obtain⟨rfl,rfl,rfl⟩:=hcs;exact⟨[], .inl ⟨rfl,rfl,rfl,rfl⟩⟩
  . simp [Value.cells] at hcs;obtain⟨rfl,rfl,rfl⟩:=hcs;refine⟨zs, .inr ⟨_,rfl,hl,hm,by simpa using hz,hcell,hwz,fun i hi=>?_⟩⟩;exact al22_ W _ (hcell i hi)
 obtain⟨a3,len3,cap3,rfl⟩:=okWide_slice Tryz.underlying22 (hval 3 22 v3 rfl rfl);have k3:=h3;have lt3:∀x ∈ p3,x.block<W.heap.size:=by obtain⟨m,hm⟩:=k3;exact DataW.trod_lt m _ _ _ hm
 obtain⟨z3,w3⟩:∃zs,Qu .i64 W a3 len3 cap3 zs:=by
  obtain⟨fuel,hf⟩:=h3;rcases open_ints Tryz.underlying22 Tryz.underlying3 (by kernel_rfl) hf with⟨hcs,_⟩ | ⟨x,l,c,zs,hcs,_,hl,hm,hz,_,hcell,hwz⟩
  . simp [Value.cells] at hcs;obtain⟨rfl,rfl,rfl⟩:=hcs;exact⟨[], .inl ⟨rfl,rfl,rfl,rfl⟩⟩
  . simp [Value.cells] at hcs;obtain⟨rfl,rfl,rfl⟩:=hcs;refine⟨zs, .inr ⟨_,rfl,hl,hm,by simpa using hz,hcell,hwz,fun i hi=>?_⟩⟩;exact al22_ W _ (hcell i hi)
 clear hA0 hval0;refine(Wt W a0 len0 cap0 _ a1 a2 len2 cap2 _ a3 len3 cap3 _ (JM w0) (JM w2) (JM w3) (i64_of w1) (OD w0) (OD w2) (OD w3) (SI hL) (zQ hsh)).mono ?_;rintro e W' ⟨rfl,nw⟩;have bel:=VD nw;exact⟨_,rfl,_,_,_,[],_,[],hW',trodAll_mk1 (shut_bool Tryz.underlying4 _),(trodAll_cons_mk (Below.trod OM (by kernel_rfl) (of_decide_eq_true (by kernel_rfl)) k0 bel lt0) (trodAll_cons_mk (shut_int Tryz.underlying3 w1) (trodAll_cons_mk (Below.trod OM (by kernel_rfl) (of_decide_eq_true (by kernel_rfl)) k2 bel lt2) (trodAll_cons_mk (Below.trod OM (by kernel_rfl) (of_decide_eq_true (by kernel_rfl)) k3 bel lt3) trodAll_mk0)))),rfl,bel.frame _,fun h=>by cases h⟩
theorem jf_maps:mapsRowed Tryz.pinned.checked.prog=true:=by kernel_rfl
theorem jf_place:(Rows.topKeptRow.inPlace==Tryz.pinned.checked.prog.inPlace 3)=true:=by kernel_rfl
theorem jf_follow:(Rows.topKeptRow.unfollowed==Tryz.pinned.checked.prog.unfollowed 3)=true:=by kernel_rfl
theorem jf_recurs:(Rows.topKeptRow.recurses==Tryz.pinned.checked.prog.recurses 3)=true:=by kernel_rfl
theorem jf_named:(Rows.topKeptRow.named==Tryz.pinned.checked.prog.varsNamed 3)=true:=by kernel_rfl
theorem jf_keys:(Rows.topKeptRow.plainKeys==Tryz.pinned.checked.prog.plainKeys)=true:=by kernel_rfl
theorem jf_heard:Tryz.pinned.checked.prog.stopsHeard=true:=by kernel_rfl
theorem jf_enter:Tryz.pinned.checked.prog.mayEnter=true:=by kernel_rfl
theorem closed_is:joinedFacts Tryz.pinned.checked.prog 3 Tryz.f3 Rows.topKeptSpec Rows.topKeptRow=true:=by
 unfold joinedFacts;simp only [F0]
 repeat' apply And.intro
 all_goals first | with_reducible exact jf_laid | with_reducible exact jf_maps | with_reducible exact jf_place | with_reducible exact jf_follow | with_reducible exact jf_recurs | with_reducible exact jf_named | with_reducible exact jf_keys | with_reducible exact jf_heard | with_reducible exact jf_enter | kernel_rfl
theorem Xn:Tryz.pinned.checked.prog.funcNamed Rows.topKeptRow.func=some 3:=by kernel_rfl
theorem inst_is:Tryz.f3.isInstance Tryz.pinned.checked.prog Rows.topKeptRow.origin Rows.topKeptRow.targs:=of_decide_eq_true (by kernel_rfl)
theorem plain_is:Tryz.f3.isWrapper Tryz.pinned.checked.prog Rows.topKeptRow.wrapper Rows.topKeptRow.mainSum:=by
 unfold Func.isWrapper
 first | (rw [if_pos (by decide+kernel)];kernel_rfl) | (rw [if_neg (by decide+kernel)];exact⟨rfl,rfl⟩)
theorem over:Rows.topKeptRow.holds Tryz.pinned (OpenSpec.ofChange Rows.topKeptSpec):=
 OpenClaim.holds_of_wide 3 Tryz.f3 rfl rfl rfl rfl rfl rfl rfl ⟨rfl,rfl,rfl,rfl,rfl⟩ rfl rfl rfl rfl rfl Xn Tryz.func3 closed_is inst_is plain_is (fun os started H enc _=>lifted os started H enc)
theorem card_main:Tryz.pinned.checked.prog.mainIs=some (true,"46edcf28e0b2edcad40cbca8b35f3f726c9fde1a402de681cb8f6034c70076df".toList):=by kernel_rfl
theorem card_looks:false=Tryz.pinned.checked.prog.looks []:=by kernel_rfl
theorem card_goes:false=Rows.topKeptRow.goesBy Tryz.pinned.checked.prog:=by kernel_rfl
theorem proved:Rows.TopKeptCardSaid:=
 Claim7.holds_tied_plain_at .later [] [.data, .data, .data, .data, .data, .pinned] true (true,"46edcf28e0b2edcad40cbca8b35f3f726c9fde1a402de681cb8f6034c70076df") false
  over (fun _ h=>by cases h) (by kernel_rfl) (fun _ h=>by cases h) topKept_row_tie rfl ⟨rfl,rfl⟩ card_main rfl
  (fun f fn hf hfn=>by
   obtain rfl:f=3:=Option.some.inj ((show Tryz.prog.funcNamed "catnap/catnaptop.TopKept"=some 3 by kernel_rfl).symm.trans hf) |>.symm;obtain rfl:fn=Tryz.f3:=(Option.some.inj (Tryz.func3.symm.trans hfn)).symm;exact⟨card_looks,fun j t ht=>by
    rw [Tryz.params3] at ht;have h3:t=22∨t=3∨t=23:=by
     rcases j with _ | _ | _ | _ | j
     . exact .inl (by simpa using ht.symm)
     . exact .inr (.inl (by simpa using ht.symm))
     . exact .inr (.inr (by simpa using ht.symm))
     . exact .inl (by simpa using ht.symm)
     . simp at ht
    rcases h3 with rfl | rfl | rfl
    . exact(show Tryz.prog.wantsStandIn 22=false by kernel_rfl)
    . exact(show Tryz.prog.wantsStandIn 3=false by kernel_rfl)
    . exact(show Tryz.prog.wantsStandIn 23=false by kernel_rfl)⟩)
  card_goes
#print axioms proved
end
end Go.Proofs.YtpekoejdnhaohaaGreatDoor
