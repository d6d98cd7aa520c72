/- ParseLined holds: a line with a name, =: and what print writes of a verb or a noun names it, of the other class it is ErrKind at place 8; the noun's text alone is a sentence, a verb's alone is ErrKind at place 2. The seven listed variables of Go's library are tied by the card; the walk reads that strconv.ErrRange holds an error and the table of powers of ten. -/
import Derived.Test.YtimcmghhbdfjfaaGreatDoorQSl1
import Derived.Test.YtimcmghhbdfjfaaGreatDoorQSl2
import Derived.Test.YtimcmghhbdfjfaaGreatDoorQSr
import Derived.Test.YtimcmghhbdfjfaaGreatDoorQRf
import Derived.Lib.LaidTab
import Derived.Carry
import Derived.ShapedOpen
import Derived.Shelf.Vars
set_option linter.unusedVariables false
set_option linter.unusedSimpArgs false
set_option maxRecDepth 100000
namespace Go.Proofs.YtimcmghhbdfjfaaGreatDoor
open Go.ChangeShapes Go.WideShapes Go.ChangeAt Go.RowKit Go.ChangeMaps
set_option linter.unusedVariables false
section
variable {H:Type} {enc:TypeId × Value->H} {P:Program}
theorem post_of_below {f:Func} {s:ChangeSpec} {apart fresh handsOn again:Bool} {W W':World} {args:Array Value} {v:Value} {ds gs:List (DataW H)} {before:List MemPlace} {pa pv:List MemPlace}
 (hW:DataW.Whole enc P f.params.toList s.vars apart W args.toList ds gs before)
 (hres:∀ (b:Nat) (sp:Nat->Bool) (hd:Bool),DataW.TrodAll enc P W' b sp hd f.resultTypes.toList (v.resultList f.resultTypes.size) (s.fn H (ds++gs)).results [])
 (hargs:∀ sp:Nat->Bool,(∀ p∈before,sp p.block=true)->DataW.TrodAll enc P W' 0 sp true f.params.toList args.toList (s.fn H (ds++gs)).args pa)
 (hvars:∀ sp:Nat->Bool,(∀ p∈before,sp p.block=true)->DataW.TrodVars enc P W' sp s.vars (s.fn H (ds++gs)).vars pv)
 (hps:before=pa++pv) (hb:Below W.heap.size W W')
 (hok:∀ (j:Nat) (t:TypeId) (r:Value),f.resultTypes[j]? =some t->(v.resultList f.resultTypes.size)[j]? =some r->Value.okWide P W' .any 0 t r):
 s.post enc P f apart fresh handsOn again W args v W':=by
 have hlt:∀ p∈before,p.block<W.heap.size:=fun p hp=>hW.lt p hp;have hold:∀ p∈before,(fun b=>decide (b<W.heap.size)) p.block=true:=fun p hp=>by simpa using hlt p hp
 refine ⟨ds,gs,before,[],pa,pv,hW,hres _ _ _,hargs _ hold,hvars _ hold,World.keptBut_mono (fun p hp=>⟨hp,?_⟩) (hb.frame (·∈before)),fun _=>?_⟩
 ·rw [hps,List.mem_append] at hp
  exact Or.inr hp
 ·obtain ⟨_,_,_,_,_,hz,hn⟩:=hW
  refine ⟨hok,_,_,([]++pa)++pv,⟨[]++pa,pv,trodAll_append (hargs _ (fun _ _=>rfl)) (hres _ _ _),hvars _ (fun _ _=>rfl),rfl,?_,?_⟩,?_⟩
  ·intro b off hp
   have hin:MemPlace.cell b off∈before:=by rw [hps];simpa using hp
   rw [hb.frozen (hlt _ hin)];exact hz b off hin
  ·intro ha
   have:=hn ha;rw [hps] at this;simpa using this
  ·intro p hp _
   rw [hps];simpa using hp
theorem handed_shaped_and {a:Assume} {C:Checked} {os:Os} {f:FuncId} {fn:Func} {s:ChangeSpec} {conds:List PathCond} {apart fresh handsOn again:Bool} {X:World->Array Value->Prop}
 (hX:∀ (w w':World) (args:Array Value),w.heap=w'.heap->X w args->X w' args)
 (own:ownKnob C.prog.godebug=none) (started:os.Started) (noInit:C.prog.inits.idxOf? f=none) (hfn:C.prog.funcs[f]? =some fn)
 (witness:∃ (w:World) (tape:Tape) (i:Input),w.os=os/\(w.forCall tape i).Shaped C.prog/\i.vars=[]/\Input.okWide C.prog (w.forCall tape i) .any w.heap.size f i/\
  ((s.pre enc C.prog fn conds apart (w.forCall tape i).memory i.args/\X (w.forCall tape i).memory i.args)/\sizedMet enc C.prog fn (OpenSpec.ofChange s) apart (w.forCall tape i).memory i.args)/\a.holds C.prog (lone (Frame.enter C.prog f i.args .normal) [] (w.forCall tape i)))
 (contract:∀ (W:World) (base:Nat) (args:Array Value) (ds gs:List (DataW H)) (before:List MemPlace),
  (∀ (j:Nat) t v,fn.params[j]? =some t->args[j]? =some v->Value.okWide C.prog W .any base t v)->
  DataW.Whole enc C.prog fn.params.toList s.vars apart W args.toList ds gs before->(DataW.weightsEach C.prog (fn.params.toList++s.plain.varTypes C.prog) (ds++gs)).all (·<=reachBytes)=true->X W args->W.ShapedOpen C.prog->
  Calls C.prog f args W fun e W'=>∃ v,e=.returned v/\s.post enc C.prog fn apart fresh handsOn again W args v W'):
 ReturnsInHanded a C os f .any (fun w args=>(s.pre enc C.prog fn conds apart w args/\X w args)/\sizedMet enc C.prog fn (OpenSpec.ofChange s) apart w args) (s.post enc C.prog fn apart fresh handsOn again):=by
 refine returnsInHanded_of_calls own started noInit witness ?_;intro w tape i _ hsh _ hok hpre hholds;obtain ⟨_,_,_,fn',hfn',_,_,_,_,hval⟩:=hok;have e:fn'=fn:=Option.some.inj (hfn'.symm.trans hfn);subst e;obtain ⟨⟨⟨ds,gs,before,hw,hc⟩,hx⟩,hz⟩:=hpre;have hw':=DataW.Whole.of_heap (w':=w.forCall tape i) (by rfl) hw;refine (contract (w.forCall tape i) w.heap.size i.args ds gs before hval hw' (hz.weights hw) (hX _ _ _ (by rfl) hx) hsh).mono fun e W' ⟨v,he,hp⟩=>?_;subst he;exact ChangeSpec.post_blind hp
end
theorem maxLen_cell {W:World} (h:W.ShapedOpen Tryz.prog):∃ m:Int,W.cell? ⟨2,0,none⟩=some (.int .i64 m):=
 cell_of_shapedOpen_int (t:=3) (zero:=#[.int .i64 0]) h max_in max_row rfl int_builds int_cells Tryz.underlying3
theorem errRange_cell {W:World} (h:laidMetH Tryz.prog Rows.parseLinedRow.laid W):∃ ev:Value,W.cell? ⟨5,0,none⟩=some ev/\(ev=.nilIface\/∃ te pe,ev=.iface te pe):=by
 rw [MakeChecks.laidMetH_plain _ _ _ row_plainLaid] at h;obtain ⟨ps,hL,-,-⟩:=h;obtain ⟨g1,t1,cs1,f1,p1,q1,-,-,-,-,hL,-⟩:=hL;obtain ⟨g2,t2,cs2,f2,p2,q2,-,-,-,-,hL,-⟩:=hL;obtain ⟨g3,t3,cs3,f3,p3,q3,-,-,-,-,hL,-⟩:=hL;obtain ⟨g4,t4,cs4,f4,p4,q4,-,-,-,-,hL,-⟩:=hL;obtain ⟨g,t,cs,fuel,p,q,hg,ht,hv,hd,-,-⟩:=hL;obtain rfl:=Option.some.inj (err_global.symm.trans hg);obtain rfl:=Option.some.inj (err_type.symm.trans ht);obtain ⟨n,u,v,hc,-,-⟩:=iface_of_trod Tryz.underlying115 hd;have hcell:=World.var?_cell hg hv 0;have e:cs=#[.iface u v]:=Array.toList_inj.1 hc;rw [e] at hcell;exact ⟨.iface u v,by simpa using hcell,.inr ⟨u,v,rfl⟩⟩
theorem tab_at {W:World} (h:laidMetH Tryz.prog Rows.parseLinedRow.laid W):Lib.TabIs Tryz.prog W "internal/strconv.uint64pow10" .u64 Lib.pow10Tab:=by
 rw [MakeChecks.laidMetH_plain _ _ _ row_plainLaid] at h;obtain ⟨ps,hL,-,-⟩:=h;obtain ⟨g1,t1,cs1,f1,p1,q1,-,-,-,-,hL,-⟩:=hL;obtain ⟨g2,t2,cs2,f2,p2,q2,-,-,-,-,hL,-⟩:=hL;obtain ⟨g,t,cs,fuel,p,q,hg,ht,hv,hd,-,-⟩:=hL;obtain rfl:=Option.some.inj (tab_global.symm.trans hg);obtain rfl:=Option.some.inj (tab_type.symm.trans ht);unfold Lib.TabIs;rw [hv,<-Lib.cells_of_tab (zs:=Lib.pow10Tab) Tryz.underlying212 Tryz.underlying136 tab_cells.1 tab_cells.2 hd]
theorem open_arg {H:Type} {enc:TypeId × Value->H} {W:World} {base b0:Nat} {sp:Nat->Bool} {hd:Bool} {r:Reach} {v:Value} {d:DataW H} {ps:List MemPlace} (hval:Value.okWide Tryz.prog W r b0 28 v)
 (h:DataW.Trod enc Tryz.prog W base sp hd 28 v d ps) (hw:∀ k∈d.weights Tryz.prog 28,k<=reachBytes):∃ t x,v=TV.val x/\Rep W W.heap.size t x/\Pp.rng t=true:=by
 obtain ⟨cs,rfl,_⟩:=okWide_struct Tryz.underlying28 hval;obtain ⟨n,hn⟩:=h;have hn':DataW.trod enc Tryz.prog W base sp hd n 28 cs.toList=some (d,ps):=hn;obtain ⟨t,x,he,hr,hg⟩:=open_term n cs.toList (d,ps) hn' (fun k hk=>hw k hk);refine ⟨t,x,?_,hr,hg⟩;have:cs=x.cells:=Array.toList_inj.1 he;rw [this];rfl
theorem parseLined_lifted (os:Os) (started:os.Started) (H:Type) (enc:TypeId × Value->H):
 ReturnsInHanded {} Tryz.checked os 4 .any (fun w args=>(Rows.parseLinedSpec.pre enc Tryz.prog Tryz.f4 Rows.parseLinedRow.domain false w args/\laidMetH Tryz.prog Rows.parseLinedRow.laid w)/\sizedMet enc Tryz.prog Tryz.f4 (OpenSpec.ofChange Rows.parseLinedSpec) false w args)
  (Rows.parseLinedSpec.post enc Tryz.prog Tryz.f4 false true false false):=by
 refine handed_shaped_and (C:=Tryz.checked) (X:=fun w _=>laidMetH Tryz.prog Rows.parseLinedRow.laid w) (fun _ _ _ hh h=>h.of_heap hh) own_knob started row_noInit Tryz.func4
  (ChangeSpec.witness_shaped (enc:=enc) (C:=Tryz.checked) (os:=os) (X:=fun w _=>laidMetH Tryz.prog Rows.parseLinedRow.laid w) false (World.laidAll Tryz.prog os Rows.parseLinedRow.laid) #[.agg #[.int .i64 0,.string ByteArray.empty,.int .i64 0,.slice none 0 0,.slice none 0 0,.slice none 0 0]] 8 (World.laidAll_os _ _ _)
   (World.shaped_of_ZipB (wit_zip os) (wit_rest os)) (wit_ok os) (wit_pre os H enc) (wit_sized os H enc)
   (by rw [MakeChecks.laidMetH_plain _ _ _ row_plainLaid];exact laidMet_laidAll _ (wit_fits os) (wit_ifaces os))) ?_
 intro W base args ds gs before hval0 hW hsz0 hL hsh;have hval:∀ (j:Nat) t v,Tryz.f4.params[j]? =some t->args[j]? =some v->Value.okWide Tryz.prog W .any base t v:=hval0;have hsz:(DataW.weightsEach Tryz.prog (Tryz.f4.params.toList++Rows.parseLinedSpec.plain.varTypes Tryz.prog) (ds++gs)).all (·<=reachBytes)=true:=hsz0;have hW':=hW;obtain ⟨p,q,hA0,hV0,rfl,hfz,hnd⟩:=hW;have hA:DataW.TrodAll enc Tryz.prog W 0 (fun _=>true) true Tryz.f4.params.toList args.toList ds p:=hA0;have hV:DataW.TrodVars enc Tryz.prog W (fun _=>true) [] gs q:=hV0;rw [Tryz.params4] at hA hval hsz;obtain ⟨v0,d0,rfl,rfl,h0⟩:=trodAll_one hA;obtain ⟨rfl,rfl⟩:=trodVars_none hV;have h0k:=h0;obtain ⟨t,x,rfl,hr,hg⟩:=open_arg (hval 0 28 v0 rfl rfl) h0 (fun k hk=>by simpa using List.all_eq_true.1 hsz k (DataW.weights_mem_each (j:=0) rfl rfl k hk));refine (Pz.lined_calls hr hg ⟨maxLen_cell hsh,errRange_cell hL⟩ (Lib.tabBelow_of_tabIs (tab_at hL))).mono fun e W' ⟨he,hb⟩=>?_;subst he;have hlt:∀ y∈p,y.block<W.heap.size:=fun y hy=>hW'.lt y (by simp [hy]);exact ⟨_,rfl,post_of_below (pa:=p) (pv:=[]) hW' (fun _ _ _=>trodAll_mk1 (shut_bool Tryz.underlying4 true))
  (fun sp hsp=>trodAll_mk1 (WideElems.Trod_stays laid_out ops_plain (of_decide_eq_true ops_in) h0k (fun y hy=>hb.same (hlt y hy)) (fun y hy=>hsp y (by simp [hy])))) (fun _ _=>rfl) (by simp) hb (ok_one (by kernel_rfl) rfl (okWide_bool_mk Tryz.underlying4 _))⟩
theorem parseLined_said:Rows.ParseLinedSaid:=
 OpenClaim.holds_of_wide 4 Tryz.f4 rfl rfl rfl rfl rfl rfl rfl ⟨rfl,rfl,rfl,rfl,rfl⟩ rfl rfl rfl rfl rfl row_name Tryz.func4 row_closed
  row_inst row_wrap
  (fun os started H enc _=>parseLined_lifted os started H enc)
theorem parseLined_plain (f:FuncId) (fn:Func) (hf:Tryz.pinned.checked.prog.funcNamed "abacus/abacuslaw15.ParseLined" =some f) (hfn:Tryz.pinned.checked.prog.funcs[f]? =some fn):
 true=Tryz.pinned.checked.prog.looks []/\∀ (j:Nat) t,fn.params[j]? =some t->Tryz.pinned.checked.prog.wantsStandIn t=false:=by
 obtain rfl:f=4:=Option.some.inj (row_name.symm.trans hf)|>.symm;obtain rfl:fn=Tryz.f4:=(Option.some.inj (Tryz.func4.symm.trans hfn)).symm;refine ⟨row_looks,fun j t ht=>?_⟩;rw [Tryz.params4] at ht;have hm:t∈[28]:=by simpa using Array.mem_of_getElem? ht
 exact (show Tryz.prog.wantsStandIn t=false by simpa using List.all_eq_true.1 str_plain t hm)
theorem parseLined_card:Rows.ParseLinedCardSaid:=
 Claim7.holds_tied_plain_at .later [] _ _ (true, "2905f9fed1f9102a9625611ba31309af84306751917187da9a9cec02881a7456") _ parseLined_said (fun _ h=>by cases h) row_wfText (fun _ h=>by cases h) parseLined_row_tie rfl ⟨rfl,rfl⟩ row_main rfl parseLined_plain row_goes
#print axioms parseLined_card
end Go.Proofs.YtimcmghhbdfjfaaGreatDoor
