/- Plans: all of it. -/
import Derived.Test.YtdogacgpfnolfaaGreatDoorPL4
